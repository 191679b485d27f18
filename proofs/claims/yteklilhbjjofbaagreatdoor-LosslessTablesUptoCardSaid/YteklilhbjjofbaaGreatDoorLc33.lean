/- A part of the proof: Jw4 Sp5 Jrw3 Jp1 Jp2 Jb1 Jp3. -/
import Derived.Test.YteklilhbjjofbaaGreatDoorLc32
set_option linter.all false
set_option maxRecDepth 100000
set_option maxHeartbeats 1000000
namespace Go.Hx
section
open Go.Proofs
def af2 (t:Tbl) (ps:List AS):a8 b6g 30 [t.pc,pP (asl ps)] (ab [(qs t ps).pc,pI (kj t ps)]):=by
 refine hpx (nt:=182) Tryz.func30 ?_;refine sx7 ?_;refine m9 0 ?_;refine m9 1 ?_;refine w_6 ?_;refine qcx (wgx Tryz.func61) (c88 t) ?_;refine w_7 ?_;refine hcn (fun h0=>?_) (fun h0=>?_)
 · refine w_7 ?_;refine hrr ?_;have he:=apk (ps:=ps) (by assumption:¬ bo t = 0);exact f9 rfl rfl (⟨(by rw [a6e he b5t];exact CoC.agg ⟨CoP.refl _,l6,l6,trivial⟩),cci he.symm,trivial⟩)
 have h0:bo t = 0:=by assumption
 have ht:=la.1 h0;have hna:=ht.na;have hnr:=ht.nr;have hw:∀ i,i < t.rows.length -> (t.rows.getD i default).vals.length = t.attrs.length:=fun i hi=>ht.width hi;have hw':∀ i:Nat,i < t.rows.length -> (t.rows.getD ((i:Int)).toNat default).vals.length = t.attrs.length:=fun i hi=>ht.width hi;refine ke ?_;refine qcx a94 (a63 t.attrs.length ps) ?_;refine w_7 ?_;refine hcn (fun h1=>?_) (fun h1=>?_)
 · refine w_7 ?_;refine hrr ?_;have he:=aq1 h0 (by assumption:¬ lvE t.attrs.length ps = 0);exact f9 rfl rfl (⟨(by rw [a6e he b5t];exact CoC.agg ⟨CoP.refl _,l6,l6,trivial⟩),cci he.symm,trivial⟩)
 have hv:lvE t.attrs.length ps = 0:=by assumption
 have hps:=ads hv;have hp64:=aql hv;refine w_5 ?_;refine m9 2 ?_;refine qy ?_;refine m9 3 ?_;refine w_9 ?_;refine cj (ka 1 (ka 2 (ka 4 (ka 7 (ka 9 (ka 43 kn)))))) (kb 0 (kb 1 (kb 3 km))) (fun a=>⟨[(44,some (vI a))],[(2,some (.arr true 1 110 t.attrs.length (sx t.rows a)))]⟩) t.attrs.length ⟨tt,⟨⟨_,rfl,(aia rfl fun _=>akb)⟩,trivial⟩⟩ ?_;rintro a ha;refine w_5 ?_;refine hcd (fun h2=>?_) (fun h2=>?_)
 ·
  refine dq ?_;refine a8d 2 a 30 true 3 114 (lf Val.c (mr t.rows a)) b5x rfl b5s ap5 (CoP.sl rfl (.inr rfl) (fun h=>h) (fun i j hi _=>absurd hi (b2y i))) (.inr rfl) rfl rfl ?_;refine w_7 ?_;refine cj (ka 1 (ka 2 (ka 4 (ka 7 (ka 9 (ka 10 (ka 43 (ka 44 (ka 48 (ka 49 kn)))))))))) (kb 0 (kb 1 (kb 3 km))) (fun i=>⟨[(50,some (vI i))],[(2,some (.arrh 1 110 t.attrs.length [30] (ey a (.ref 30 i) (sx t.rows a)))),(30,some (.arr true 3 114 i (lf Val.c (mr t.rows a))))]⟩) t.rows.length kk ?_;rintro i hi;refine w_5 ?_;refine hcd (fun h3=>?_) (fun h3=>?_)
  · refine w_7 ?_;refine m9 4 ?_;refine up ?_;refine rq (out:=Out.mk _ (.v (.one (.ref 30 i)))) rfl rfl rfl (congrArg (fun x=>some (Out.mk _ (.v (.one x)))) xz) rfl ?_;refine w_3 ?_;refine rq rfl rfl rfl rfl rfl ?_ (hp:=⟨rfl,by omega,by rw [hw' i b5s];omega⟩);refine qy ?_;refine m9 5 ?_;refine r9 6 true ?_;refine w_8 ?_;exact lpx (i + 1) ⟨tt,⟨⟨_,rfl,(act rfl)⟩,⟨_,rfl,(aj4 b5s (a2r (CoP.refl _) (CoP.refl _) (CoP.refl _)))⟩,uu⟩⟩
  obtain rfl:i = t.rows.length:=by omega
  refine w_9 ?_;refine rq (out:=Out.mk _ (.v (.one (.ref 30 t.rows.length)))) rfl rfl rfl (congrArg (fun x=>some (Out.mk _ (.v (.one x)))) xz) rfl ?_;refine jq rfl rfl rfl rfl rfl rfl (wgx Tryz.func62) (atx 30 (mr t.rows a) (by rw [xe];omega) _) (⟨congrArg (HV.ref 30) xe.symm,CoP.refl _,trivial⟩) ⟨⟨_,rfl,apj (fun h=>h) xe.symm⟩,trivial⟩ rfl rfl ?_;refine ke ?_;refine rq (out:=Out.mk _ (.v (.one (.ref 30 t.rows.length)))) rfl rfl rfl (congrArg (fun x=>some (Out.mk _ (.v (.one x)))) xz) rfl ?_;refine jq rfl rfl rfl rfl rfl rfl (wgx Tryz.func64) ((avs (a2u dv (mr t.rows a))).swap 900 30) (⟨congrArg (HV.ref 30) (by rw [abl,xe]),trivial⟩) ⟨⟨_,rfl,co_encL' (fun h=>h) (by rw [abl])⟩,trivial⟩ rfl rfl ?_;refine w_8 ?_;exact lpx (a + 1) ⟨tt,⟨⟨_,rfl,(a99 rfl aha aqi)⟩,uu⟩⟩
 obtain rfl:a = t.attrs.length:=by omega
 refine w_3 ?_;refine dg 3 2 31 true 1 127 (lf (lvC t.rows t.attrs.length) ps) b5x rfl rfl (CoP.sl rfl (.inr rfl) (fun h=>h) (fun i j hi _=>absurd hi (b2y i))) (.inr rfl) rfl rfl ?_;refine w_6 ?_;refine cj (ka 2 (ka 4 (ka 7 (ka 9 (ka 98 (ka 99 kn)))))) (kb 2 (kb 0 (kb 1 km))) (fun p=>⟨[(100,some (vI p))],[(3,some (.box [.p (asl ps), .ref 2 t.attrs.length, .ref 31 p, .p (jm (.slice none 0 0))])),(31,some (.arr true 1 127 p (lf (lvC t.rows t.attrs.length) ps)))]⟩) ps.length kk ?_;rintro p hp;refine dc ?_;refine ci 98 rfl fun hpn=>?_;refine w_4 ?_;refine hcd (fun h4=>?_) (fun h4=>?_)
 ·
  refine ke ?_;refine rm 7 rfl rfl rfl rfl rfl rfl ?_ (hp:=⟨by omega,by omega,by omega,by show (8:Int) * _ <= _;omega⟩);refine dq ?_;refine cj (ka 2 (ka 4 (ka 7 (ka 9 (ka 14 (ka 15 (ka 98 (ka 99 (ka 100 (ka 108 kn)))))))))) (kb 3 (kb 31 (kb 2 (kb 0 (kb 1 km))))) (fun k=>⟨[(109,some (vI k))],[(7,some (.arr true 1 128 (t.attrs.length + 1) (lvT t.rows (ps.getD p default) k)))]⟩) (t.attrs.length + 1) ⟨tt,⟨⟨_,rfl,(ane (by first | rfl | omega) fun _=>CoP.refl _)⟩,trivial⟩⟩ ?_;rintro k hk;refine w_5 ?_;refine hcd (fun h5=>?_) (fun h5=>?_)
  ·
   refine w_9 ?_;refine auq 7 (.arrh 1 128 (t.attrs.length + 1) [] fun i j=>.p (lvT t.rows (ps.getD p default) k i j)) rfl atr ?_;refine w_3 ?_;refine m9 8 ?_;refine fl ?_;refine cj (ka 2 (ka 4 (ka 7 (ka 9 (ka 14 (ka 15 (ka 16 (ka 98 (ka 99 (ka 100 (ka 108 (ka 109 (ka 117 (ka 118 kn)))))))))))))) (kb 3 (kb 31 (kb 2 (kb 0 (kb 1 km))))) (fun i=>⟨[(119,some (vI i))],[(7,some (.arrh 1 128 (t.attrs.length + 1) [8] (ey k (.ref 8 0) (lvT t.rows (ps.getD p default) k)))),(8,some (.mp .str i (qv (t.rows.take i) (ps.getD p default) k)))]⟩) t.rows.length ⟨tt,⟨⟨_,rfl,(acy rfl)⟩,⟨_,rfl,(aqd fun _=>rfl)⟩,trivial⟩⟩ ?_;rintro i hi;refine w_5 ?_;refine hcd (fun h6=>?_) (fun h6=>?_)
   · refine w_7 ?_;refine m9 9 ?_;refine w_6 ?_;refine rq (out:=Out.mk _ (.v (.one (.ref 8 0)))) rfl rfl rfl (congrArg (fun x=>some (Out.mk _ (.v (.one x)))) xz) rfl ?_;refine w_3 ?_;refine rq rfl rfl rfl rfl rfl ?_ (hp:=⟨rfl,trivial,⟨by omega,by rw [hw' i b5s];omega⟩,trivial⟩);refine qy ?_;refine rc rfl rfl rfl rfl rfl rfl ace (a5f ((t.rows.getD i default).vals.take k) (ps.getD p default) (by rw [b33];omega)) (⟨CoC.one (anv (by rw [hw' i b5s];omega)),CoC.refl _,trivial⟩) rfl rfl ?_;refine rs rfl rfl rfl rfl rfl ?_ (hp:=⟨rfl,a9v (by rw [b33];omega),by show i < maxLen;unfold maxLen;omega⟩);refine w_6 ?_;exact lpx (i + 1) ⟨tt,⟨u9,⟨_,rfl,(api b5s rfl)⟩,uu⟩⟩
   obtain rfl:i = t.rows.length:=by omega
   refine c4 ?_;refine a4a (id:=8) 7 (lvT t.rows (ps.getD p default) (k + 1)) rfl rfl rfl axz ?_;refine w_4 ?_;exact lpx (k + 1) kk
  obtain rfl:k = t.attrs.length + 1:=by omega
  refine c4 ?_;refine c3 15 rfl rfl rfl ?_;refine w_7 ?_;refine m9 10 ?_;refine r9 11 true ?_;refine w_8 ?_;exact lpx (p + 1) ⟨tt,⟨u9,⟨_,rfl,(am9 rfl)⟩,uu⟩⟩
 obtain rfl:p = ps.length:=by omega
 refine w_2 ?_;refine dl 3 2 rfl rfl rfl rfl rfl ?_;refine dl 3 1 rfl rfl rfl rfl rfl ?_;refine dg 3 3 32 true 1 110 (lf vlC []) b5x rfl rfl (CoP.sl rfl (.inr rfl) (fun h=>h) (fun i j hi _=>absurd hi (b2y i))) (.inr rfl) rfl rfl ?_;refine w_2 ?_;refine jq rfl rfl rfl rfl rfl rfl (wgx Tryz.func66) (((au2 t.rows ps t.attrs.length b5s hps t.attrs.length [] [] (b3d _) (b2w _)).swap 1000 3).swap 1001 32) (⟨rfl,l6,trivial⟩) ⟨⟨_,rfl,⟨CoH.refl _,am4,CoP.refl _,rfl,trivial⟩⟩,uu⟩ rfl rfl ?_;refine fl ?_;refine hcd (fun h7=>?_) (fun h7=>?_)
 · refine w_6 ?_;refine hrr ?_;have he:=apg h0 hv b5t;exact f9 rfl rfl (⟨(by rw [a6e he b5x];exact CoC.agg ⟨CoP.refl _,l6,l6,trivial⟩),cci he.symm,trivial⟩)
 have hJ:(dp t.rows ps (bc t.rows t.attrs.length) t.attrs.length [] []).length = (gv t.rows ps t.attrs.length).length:=rfl;refine w_7 ?_;refine qcx (wgx Tryz.func67) (c77 t.attrs b5s) ?_;refine qy ?_;refine m9 12 ?_;refine w_5 ?_;refine dl 3 3 rfl rfl rfl rfl rfl ?_;refine w_9 ?_;refine dg 12 2 33 true 2 112 (lf Row.c (f5 (gv t.rows ps t.attrs.length))) b5x rfl rfl (CoP.sl rfl (.inr rfl) (fun h=>h) (fun i j hi _=>absurd hi (b2y i))) (.inr rfl) rfl rfl ?_;refine cj (ka 4 (ka 19 (ka 164 (ka 165 kn)))) (kb 1 km) (fun i=>⟨[(166,some (vI i))],[(12,some (.box [.p (.raw (.string t.name)), .p (un t.attrs), .ref 33 i])),(33,some (.arr true 2 112 i (lf Row.c (f5 (gv t.rows ps t.attrs.length)))))]⟩) ((gv t.rows ps t.attrs.length).length) kk ?_;rintro i hi;refine w_5 ?_;refine hcd (fun h8=>?_) (fun h8=>?_)
 · refine awi ?_;refine m9 13 ?_;refine r9 14 true ?_;refine w_7 ?_;exact lpx (i + 1) ⟨tt,⟨u9,⟨_,rfl,(ad3 b5s (CoP.refl _) (CoP.refl _))⟩,uu⟩⟩
 obtain rfl:i = (gv t.rows ps t.attrs.length).length:=by omega
 refine w_2 ?_;refine dl 12 2 rfl rfl rfl rfl rfl ?_;refine w_5 ?_;refine hrr ?_;have he:=a5l h0 hv b5t;exact f9 rfl rfl (⟨(by rw [a5r he];exact CoC.agg ⟨CoP.refl _,CoP.refl _,CoP.sl ww (.inl rfl) (fun h=>h) (fun _ _ _ _=>CoP.refl _),trivial⟩),cci he.symm,trivial⟩)
end
section
def a23 {r x:Row}:∀ {l:List Row},x ∈ qj r l <-> x = r \/ x ∈ l
 | []=>by simp [qj]
 | y :: l=>by
  simp only [qj];split
  · simp
  simp only [b2z,a23 (l:=l)];constructor
  · rintro (h | h | h) <;> simp [h]
  rintro (h | h | h) <;> simp [h]
def a1i {r:Row}:∀ {l:List Row},og l -> (∀ x ∈ l,x.id ≠ r.id) -> og (qj r l)
 | [],_,_=>by simp [qj,og]
 | y :: l,hs,hn=>by
  have hs':=hs;unfold og at hs';rw [b3q] at hs';simp only [qj];split
  · rename_i h
    refine List.Pairwise.cons (fun x hx=>?_) hs
    rcases b2z.1 hx with rfl | hx
    · exact h
    have:=hs'.1 x hx;omega
  rename_i h;refine List.Pairwise.cons (fun x hx=>?_) (a1i hs'.2 fun x hx=>hn x (by simp [hx]))
  rcases a23.1 hx with rfl | hx
  · have:=hn y b5v;omega
  exact hs'.1 x hx
section
variable {l:List Row}
def afw {id:Int} (h:dy l id < 0):∀ x ∈ l,x.id ≠ id:=by
 intro x hx e;have h2:=ae7 (p:=fun r:Row=>decide (r.id = id)) (l:=l);have h3:(l.any fun r=>decide (r.id = id)) = true:=by rw [b3l];exact ⟨x,hx,by simp [e]⟩
 rw [h3] at h2;simp only [decide_eq_true_eq] at h2;unfold dy at h;omega
variable {t:Tbl}
def avf {r:Row} (h:sw t r = 0):TOk (afl t r):=by
 obtain ⟨h1,h2,h3,h4,h5,h6⟩:=an3 h;have hT:=la.1 h1;rw [as6 h];refine ⟨hT.nm,hT.na,by show (qj r t.rows).length <= 1000;rw [a97];omega,hT.nms, ?_⟩;refine od (fun x hx=>?_) (a1i (ll hT.rs) (afw h5))
 rcases a23.1 hx with rfl | hx
 · exact ⟨h3,h2,h4⟩
 exact gh hT.rs x hx
def alh {i:Int} (h:vt t i = 0):bo t = 0 /\ 0 <= dy t.rows i:=by
 unfold vt at h;split at h
 · omega
 split at h
 · exact ⟨by omega,by assumption⟩
 omega
def aua {i:Int} (h:vt t i = 0):TOk (agr t i):=by
 have hT:=la.1 (alh h).1;rw [asp h];have hsub:=List.eraseIdx_sublist t.rows (dy t.rows i).toNat;refine ⟨hT.nm,hT.na,by have:=hsub.length_le;have:=hT.nr;show (t.rows.eraseIdx _).length <= 1000;omega,hT.nms, ?_⟩;exact od (fun x hx=>gh hT.rs x (hsub.subset hx)) (List.Pairwise.sublist hsub (ll hT.rs))
def ap1 {i a:Int} {v:Val} (h:xl t i a v = 0):bo t = 0 /\ 0 <= dy t.rows i /\ 0 <= a /\ a < t.attrs.length /\ be v = true:=by
 unfold xl at h;split at h
 · omega
 split at h
 · omega
 split at h
 · omega
 split at h
 · omega
 rename_i h1 h2 h3 h4;exact ⟨by omega,by omega,by omega,by omega,by simpa using h4⟩
def am7 {i k:Nat} {v:Val} (hi:i < l.length):(ze l i k v).map Row.id = l.map Row.id:=by
 unfold ze;apply b4w;intro j;rw [b35,b35,List.getElem?_set];split
 · rename_i h
   subst h;rw [b2q hi];simp [List.getD,b2q hi]
 rfl
def a4k:og l <-> (l.map Row.id).Pairwise (· < ·):=by
 rw [List.pairwise_map]
def at3 {i a:Int} {v:Val} (h:xl t i a v = 0):TOk (agx t i a v):=by
 obtain ⟨h1,h2,h3,h4,h5⟩:=ap1 h;have hT:=la.1 h1;have hix:(dy t.rows i).toNat < t.rows.length:=by have:=ave h2;rwa [show max (dy t.rows i) 0 = dy t.rows i from by omega] at this
 rw [asj h];refine ⟨hT.nm,hT.na,by show (ze _ _ _ _).length <= 1000;rw [alk];exact hT.nr,hT.nms, ?_⟩;refine od (fun x hx=>?_) (by rw [a4k,am7 hix,<- a4k];exact ll hT.rs);have hold:=gh hT.rs _ (b31 hix);have hgd:=ca _ _ hix;unfold ze at hx
 rcases List.mem_or_eq_of_mem_set hx with hx | rfl
 · exact gh hT.rs x hx
 refine ⟨by show 0 < (t.rows.getD _ default).id;rw [hgd];exact hold.1,by show (List.set _ _ _).length = _;rw [b57,hgd];exact hold.2.1, ?_⟩;rw [b3j];intro y hy
 rcases List.mem_or_eq_of_mem_set hy with hy | rfl
 · rw [hgd] at hy
   exact b3j.1 hold.2.2 y hy
 exact h5
def asy {c:Chg} (h:a3k t c = 0):TOk (a2t t c):=by
 unfold a3k at h;unfold a2t;split at h
 · rename_i h2;rw [if_pos h2];exact avf h
 rename_i h2;rw [if_neg h2];split at h
 · omega
 split at h
 · omega
 split at h
 · rename_i h3;rw [if_pos h3];exact aua h
 rename_i h3;rw [if_neg h3];exact at3 h
def awt {d:DB} {c:Chg} (hd:dbV d):dbV (xh d c):=by
 by_cases he:gk d c = 0
 · unfold gk at he
   split at he
   · rename_i h1
     split at he
     · omega
     obtain ⟨g1,g2,g3⟩:=ar6 he;have he':gk d c = 0:=by rw [aE2 h1 b62];exact he
     rw [aD1 he' h1];refine ⟨by simp;omega,fun j hj=>?_⟩;by_cases h:j < d.length
     · rw [show (d ++ [c.table]).getD j default = d.getD j default from by simp [List.getD,b4t h]]
       exact hd.2 j h
     obtain rfl:j = d.length:=by simp at hj;omega
     rw [show (d ++ [c.table]).getD d.length default = c.table from by simp [List.getD]];exact g1
   rename_i h1;split at he
   · omega
   split at he
   · omega
   rename_i h2 h3;have he':gk d c = 0:=by rw [aE5 b5s h3];exact he
   rw [aD2 he' h1 rfl];refine ⟨by rw [b57];exact hd.1,fun j hj=>?_⟩;rw [b57] at hj;by_cases h:j = (im d c.name).toNat
   · subst h
     rw [show (d.set (im d c.name).toNat (a2t (pw d c.name) c)).getD (im d c.name).toNat default = a2t (pw d c.name) c from by simp [List.getD,hj]];exact la.2 (asy he)
   rw [show (d.set (im d c.name).toNat (a2t (pw d c.name) c)).getD j default = d.getD j default from by simp only [List.getD,List.getElem?_set_ne (Ne.symm h)]];exact hd.2 j hj
 rw [awo rfl he];exact hd
def dbV.ok {d:DB} (h:dbV d):azq d:=⟨by have:=h.1;omega,fun j hj=>aka (h.2 j hj)⟩
def aea:dbV []:=⟨by simp,fun j hj=>by simp at hj⟩
def ahl:∀ {l:List Chg} {d:DB},dbV d -> dbV (a8l d l)
 | [],d,h=>h
 | c :: l,d,h=>by
  simp only [a8l];split
  · exact aea
  exact ahl (awt h)
variable {n:Nat}
def ayi (hn:n <= 8) {f:Nat -> Nat -> PV}:CoP (.sl (0 + n) 1 false (dm 0 f (fun i j=>[PV.raw (.string ⟨#[97]⟩), .raw (.string ⟨#[98]⟩), .raw (.string ⟨#[99]⟩), .raw (.string ⟨#[100]⟩), .raw (.string ⟨#[101]⟩), .raw (.string ⟨#[102]⟩), .raw (.string ⟨#[103]⟩), .raw (.string ⟨#[104]⟩)].getD (i * 1 + j) .any))) (un (ec.take n)):=by
 refine CoP.sl (by simp [ec];omega) (.inl rfl) (fun h=>h) fun i j hi hj=>CoP.of_eq ?_;obtain rfl:j = 0:=by omega
 have hi8:i < n:=by omega
 simp only [dm,b2y,if_false,Nat.sub_zero,Nat.mul_one,b4f,lf,List.getD,b3p,hi8,if_true];have:i < 8:=by omega
 match i,this with
 | 0,_=>rfl
 | 1,_=>rfl
 | 2,_=>rfl
 | 3,_=>rfl
 | 4,_=>rfl
 | 5,_=>rfl
 | 6,_=>rfl
 | 7,_=>rfl
def a5u {α:Type} [Inhabited α] {l:List α} {k:Nat} (h:l.length <= k):l.getD k default = default:=by simp [List.getD,h]
def atl {g:UInt8} {i:Nat}:0 <= (i:Int) * (1 + (g.toNat:Int) % 3) /\ (i:Int) * (1 + (g.toNat:Int) % 3) <= 3 * i:=by
 have h:(g.toNat:Int) % 3 = 0 \/ (g.toNat:Int) % 3 = 1 \/ (g.toNat:Int) % 3 = 2:=by omega
 rcases h with h | h | h <;> rw [h] <;> omega
def ahe {l:List UInt8}:(ku l n).length = n:=by simp [ku]
def aik {x:fq}:(iq x n).length = x.rows.length:=by simp [iq]
def aki {l:List UInt8} {k j:Nat} (h:k < n):lf Val.c (ku l n) k j = Val.c (ofV (l.getD k default)) j:=by
 unfold lf ku;rw [a7w _ _ _ h]
def atu {x:fq} {i j:Nat} (h:i < x.rows.length):lf Row.c (iq x n) i j = Row.c ⟨1 + (i:Int) * (1 + (x.gap.toNat:Int) % 3),ku (x.rows.getD i default) n⟩ j:=by
 unfold lf iq;rw [a7w _ _ _ h]
def jr (s:Stt):List Chg:=s.done.flatten ++ s.now
def a6m (s:Stt):DB:=a8l [] (jr s)
def b2a (s:Stt) (x:Opn):Chg :=
 let k:=x.kind.toNat % 9
 if k = 0 then { (default:Chg) with kind:=1,name:=a5m x,table:=aou x }
 else if im (a6m s) (a5m x) < 0 then default
 else
  let t:=pw (a6m s) (a5m x)
  if k = 1 then { (default:Chg) with kind:=2,name:=t.name,row:=ao4 x }
  else if ¬ 0 <= dy t.rows x.id then default
  else if k = 2 then { (default:Chg) with kind:=3,name:=t.name,row:=t.rows.getD (max (dy t.rows x.id) 0).toNat default }
  else { (default:Chg) with kind:=4,name:=t.name,row:=t.rows.getD (max (dy t.rows x.id) 0).toNat default,attr:=x.attr,value:=ofV x.value }
def b17 (s:Stt) (x:Opn):Int :=
 let k:=x.kind.toNat % 9
 if k = 0 then a4c (a6m s) (aou x)
 else if im (a6m s) (a5m x) < 0 then 4
 else
  let t:=pw (a6m s) (a5m x)
  if k = 1 then sw t (ao4 x)
  else if ¬ 0 <= dy t.rows x.id then 4
  else if k = 2 then 0
  else xl t x.id x.attr (ofV x.value)
structure au5 (s:Stt):Prop where
 ld:s.done.flatten.length <= 68719476736
 ln:s.now.length <= 68719476736
 lt:s.done.length <= 68719476736
 lu:s.undone.length <= 68719476736
 ok:aun (jr s)
structure b1v (x:Opn):Prop where
 lv:x.vals.length <= 68719476736
 lr:x.t.rows.length <= 68719476736
def au5.V {s:Stt} (_:au5 s):dbV (a6m s):=ahl aea
end
end
section
open Go.Proofs
def a2z (x:fq) (n:Int):Bool:=decide (¬ (x.rows.length:Int) > n)
def a9d (x:fq) (n:Nat):Tbl:=if x.rows.length > n then T0 else aq x (x.attrs.toNat % 6)
def c36 (x:fq) (n:Nat) (hn:n <= 8) (hx:x.rows.length <= 68719476736):a8 b6g 76 [x.pc,pI n] (ab [(aq x n).pc]):=by
 refine hpx (nt:=67) Tryz.func76 ?_;refine sx7 ?_;refine m9 0 ?_;refine m9 1 ?_;refine w_3 ?_;refine m9 2 ?_;refine m9 3 ?_;refine qy ?_;refine an5 rfl rfl rfl rfl rfl ?_;refine r9 4 true ?_;refine qy ?_;refine m9 5 ?_;refine w_2 ?_;refine dl 5 1 rfl rfl rfl rfl rfl ?_;refine w_6 ?_;refine dg 5 2 100 true 2 112 (lf Row.c (iq x n)) b5x rfl rfl (CoP.sl rfl (.inr rfl) (fun h=>h) (fun i j hi _=>absurd hi (b2y i))) (.inr rfl) rfl rfl ?_;refine cj (ka 1 (ka 2 (ka 4 (ka 5 kn)))) (kb 0 (kb 1 km)) (fun i=>⟨[(6,some (vI i))],[(5,some (.box [.p (.raw (.string ⟨#[114]⟩)), .p (un (ec.take n)), .ref 100 i])),(100,some (.arr true 2 112 i (lf Row.c (iq x n))))]⟩) x.rows.length ⟨tt,⟨⟨_,rfl,⟨CoH.refl _,ayi hn,CoH.refl _,trivial⟩⟩,uu⟩⟩ ?_;rintro i hi;refine w_9 ?_;refine hcd (fun h0=>?_) (fun h0=>?_)
 ·
  refine w_4 ?_;have hgl:=atl (g:=x.gap) (i:=i);refine dq ?_;refine m9 6 ?_;refine w_8 ?_;refine dg 6 1 101 true 3 114 (lf Val.c (ku (x.rows.getD i default) n)) b5x rfl rfl (CoP.sl rfl (.inr rfl) (fun h=>h) (fun i j hi _=>absurd hi (b2y i))) (.inr rfl) rfl rfl ?_;refine cj (ka 1 (ka 2 (ka 4 (ka 5 (ka 6 (ka 7 kn)))))) (kb 5 (kb 100 (kb 0 (kb 1 km)))) (fun k=>⟨[(8,some (vI k))],[(6,some (.box [.p (.raw (.int .i64 (1 + (i:Int) * (1 + (x.gap.toNat:Int) % 3)))), .ref 101 k])),(101,some (.arr true 3 114 k (lf Val.c (ku (x.rows.getD i default) n))))]⟩) n kk ?_;rintro k hk;refine w_7 ?_;refine hcd (fun h1=>?_) (fun h1=>?_)
  ·
   refine w_7 ?_;refine ags (ka 1 (ka 2 (ka 4 (ka 5 (ka 6 (ka 7 (ka 8 kn))))))) (kb 6 (kb 101 (kb 5 (kb 100 (kb 0 (kb 1 km)))))) ⟨[(9,some (.v (.one (.p (.raw (.int .u8 ((((x.rows.getD i default).getD k default).toNat:Nat):Int)))))))],[]⟩ ?_ ?_
   ·
    refine dc ?_;refine awx 0 2 rfl rfl (fun hb=>?_);refine dq ?_;refine hcd (fun h2=>?_) (fun h2=>?_)
    · refine fl ?_;exact ⟨⟨⟨_,rfl,(by first | exact CoR.refl _ | exact CoR.of_eq (by rw [a5u b5s];rfl))⟩,tt⟩,uu⟩
    refine f4 ?_;exact ⟨⟨⟨_,rfl,(by first | exact CoR.refl _ | exact CoR.of_eq (by rw [a5u b5s];rfl))⟩,tt⟩,uu⟩
   refine w_4 ?_;refine qcx (wgx Tryz.func116) (c49 ((((x.rows.getD i default).getD k default).toNat:Nat):Int) b5s) ?_;refine m9 7 ?_;refine r9 8 true ?_;refine w_9 ?_;refine lpz (k + 1) ⟨tt,⟨u9,⟨_,rfl,(jz (fun h=>h) (by first | (intro j hj;rw [aki b5s];revert j;exact lt3 (CoP.refl _) (CoP.refl _) (CoP.refl _)) | (intro j hj;rw [aki b5s,a5u b5s];revert j;exact lt3 (CoP.refl _) (CoP.refl _) (CoP.refl _))))⟩,uu⟩⟩ ?_;show k + 1 <= _;omega
  obtain rfl:k = n:=by omega
  refine c4 ?_;refine dl 6 1 rfl rfl rfl rfl rfl ?_;refine w_4 ?_;refine m9 9 ?_;refine r9 10 true ?_;refine w_8 ?_;refine lpz (i + 1) ⟨tt,⟨u9,⟨_,rfl,(jz (fun h=>h) (by intro j hj;rw [atu b5s];revert j;exact lt2 (CoP.refl _) (CoP.sl ahe (.inl rfl) (fun h=>h) (fun _ _ _ _=>CoP.refl _))))⟩,uu⟩⟩ ?_;show i + 1 <= _;omega
 obtain rfl:i = x.rows.length:=by omega
 refine v_6 ?_;exact ⟨CoC.agg ⟨CoP.refl _,CoP.refl _,CoP.sl aik (.inl rfl) (fun h=>h) (fun _ _ _ _=>CoP.refl _),trivial⟩,trivial⟩
def ao6 (x:fq) (n:Nat) (hx:x.rows.length <= 68719476736):a8 b6g 35 [x.pc,pI n] (ab [(a9d x n).pc,pB (a2z x n)]):=by
 refine hpx (nt:=18) Tryz.func35 ?_;refine sx7 ?_;refine m9 0 ?_;refine m9 1 ?_;refine fl ?_;refine hcd (fun h0=>?_) (fun h0=>?_)
 · refine v_6 ?_;exact ⟨by rw [show a9d x n = T0 from if_pos b5s];exact CoC.agg ⟨CoP.refl _,CoP.sl rfl (.inr rfl) (fun _=>rfl) (fun i j hi _=>absurd hi (b2y i)),CoP.sl rfl (.inr rfl) (fun _=>rfl) (fun i j hi _=>absurd hi (b2y i)),trivial⟩,ccb (by unfold a2z;simp;omega),trivial⟩
 refine w_8 ?_;refine rc rfl rfl rfl rfl rfl rfl (wgx Tryz.func76) (c36 x (x.attrs.toNat % 6) b5s (by first | exact hx | omega | assumption)) (⟨CoC.refl _,cci b5s,trivial⟩) rfl rfl ?_;refine v_3 ?_;exact ⟨CoC.of_eq (by rw [show a9d x n = aq x (x.attrs.toNat % 6) from if_neg b5s]),ccb (by unfold a2z;simp;omega),trivial⟩
end
section
def w64 (n:Int):IntKind.wrap .u64 n = n % 18446744073709551616:=by simp [IntKind.wrap,IntKind.bits,IntKind.signed]
def w8 (n:Int):IntKind.wrap .u8 n = n % 256:=by simp [IntKind.wrap,IntKind.bits,IntKind.signed]
def aa4 (n:Int):Prop:=-9223372036854775808 <= n /\ n <= 9223372036854775807
def afk (n:Int):uN n = ((BitVec.ofInt 64 (n % 18446744073709551616) ^^^ BitVec.ofInt 64 9223372036854775808).toNat:Int):=by
 unfold uN gt;rw [w64,w64];show ((BitVec.ofInt 64 (n % 18446744073709551616) ^^^ BitVec.ofInt 64 9223372036854775808).toNat:Int) % 18446744073709551616 = _;have:=(BitVec.ofInt 64 (n % 18446744073709551616) ^^^ BitVec.ofInt 64 9223372036854775808).isLt;omega
def ao9 (n:Int):0 <= uN n /\ uN n < 18446744073709551616:=by
 rw [afk];have:=(BitVec.ofInt 64 (n % 18446744073709551616) ^^^ BitVec.ofInt 64 9223372036854775808).isLt;omega
def avx {n m:Int} (hn:aa4 n) (hm:aa4 m) (h:uN n = uN m):n = m:=by
 rw [afk,afk] at h;have h1:=b59 (Int.ofNat.inj h)
 have h2:BitVec.ofInt 64 (n % 18446744073709551616) = BitVec.ofInt 64 (m % 18446744073709551616):=by
  have:=congrArg (· ^^^ BitVec.ofInt 64 9223372036854775808) h1;simpa [BitVec.xor_assoc] using this
 have h3:=congrArg BitVec.toNat h2;rw [BitVec.toNat_ofInt,BitVec.toNat_ofInt] at h3;obtain ⟨a1,a2⟩:=hn;obtain ⟨b1,b2⟩:=hm;have e1:(n % 18446744073709551616) % ((2 ^ 64:Nat):Int) = n % 18446744073709551616:=by omega
 have e2:(m % 18446744073709551616) % ((2 ^ 64:Nat):Int) = m % 18446744073709551616:=by omega
 rw [e1,e2] at h3;omega
def ajt (u:Int) (s:Nat) (hs:s <= 64):byK u s = u / (2 ^ s) % 256:=by
 unfold byK;rw [w8,b42 hs];congr 1;rw [Int.fdiv_eq_ediv_of_nonneg _ (Int.pow_nonneg b5x)]
def aca {n m:Int} (hn:aa4 n) (hm:aa4 m) (h:qq n = qq m):n = m:=by
 refine avx hn hm ?_;have hu:=ao9 n;have hv:=ao9 m;unfold qq at h;generalize uN n = u at *;generalize uN m = v at *
 have hb:∀ i,i < 8 -> u / 2 ^ (56 - 8 * i) % 256 = v / 2 ^ (56 - 8 * i) % 256:=fun i hi=>by
  have h1:=congrArg (fun l=>l.getD i 0) h;simp only [List.getD,b35,b3t hi,b3c,b3z] at h1;rw [ajt _ _ b5s,ajt _ _ b5s] at h1;exact h1
 have h0:=hb 0 b5s;have h1:=hb 1 b5s;have h2:=hb 2 b5s;have h3:=hb 3 b5s;have h4:=hb 4 b5s;have h5:=hb 5 b5s;have h6:=hb 6 b5s;have h7:=hb 7 b5s;simp only [Nat.mul_zero,Nat.sub_zero,Nat.mul_one,Nat.reduceMul,Nat.reduceSub,Int.reducePow,Int.pow_zero,Int.ediv_one] at h0 h1 h2 h3 h4 h5 h6 h7;clear hb h hn hm;have e0:u / 72057594037927936 = v / 72057594037927936:=by omega
 have e1:u / 281474976710656 = v / 281474976710656:=by omega
 have e2:u / 1099511627776 = v / 1099511627776:=by omega
 have e3:u / 4294967296 = v / 4294967296:=by omega
 have e4:u / 16777216 = v / 16777216:=by omega
 have e5:u / 65536 = v / 65536:=by omega
 have e6:u / 256 = v / 256:=by omega
 omega
def b8 (l:List Int):List UInt8:=l.map fun n=>UInt8.ofNat n.toNat
def ab0:∀ {a b:List UInt8} {X Y:List Int},k8 a ++ (0 :: 1 :: X) = k8 b ++ (0 :: 1 :: Y) -> a = b /\ X = Y
 | [],[],X,Y,h=>by
  simp [k8] at h;exact ⟨rfl,h⟩
 | [],y :: b,X,Y,h=>by
  exfalso;simp only [k8,List.flatMap_nil,b5c,b4e] at h;unfold vj at h;split at h
  · simp at h
  rename_i hy;simp at h;have:y.toNat = 0:=by omega
  exact hy (UInt8.toNat_inj.1 this)
 | x :: a,[],X,Y,h=>by
  exfalso;simp only [k8,List.flatMap_nil,b5c,b4e] at h;unfold vj at h;split at h
  · simp at h
  rename_i hy;simp at h;have:x.toNat = 0:=by omega
  exact hy (UInt8.toNat_inj.1 this)
 | x :: a,y :: b,X,Y,h=>by
  have e1:∀ (z:UInt8) (l:List UInt8) (W:List Int),k8 (z :: l) ++ W = vj z ++ (k8 l ++ W):=fun z l W=>by simp [k8]
  rw [e1,e1] at h
  have key:x = y /\ k8 a ++ (0 :: 1 :: X) = k8 b ++ (0 :: 1 :: Y):=by
   unfold vj at h;split at h <;> split at h
   · rename_i h1 h2
     refine ⟨h1.trans h2.symm, ?_⟩;simpa using h
   · rename_i h1 h2
     exfalso;simp at h;exact h2 (UInt8.toNat_inj.1 (by have:=h.1;show y.toNat = 0;omega))
   · rename_i h1 h2
     exfalso;simp at h;exact h1 (UInt8.toNat_inj.1 (by have:=h.1;show x.toNat = 0;omega))
   rename_i h1 h2;simp at h;exact ⟨UInt8.toNat_inj.1 b5s,by simpa using h.2⟩
  obtain ⟨rfl,h2⟩:=key;obtain ⟨rfl,h3⟩:=ab0 h2;exact ⟨rfl,h3⟩
def j0 (v:Val):Prop:=be v = true /\ aa4 v.num
def a4f {v:Val} (h:be v = true):v.kind = 0 \/ v.kind = 1 \/ v.kind = 2 \/ v.kind = 3:=by
 unfold be at h;split at h
 · exact .inl b5t
 split at h
 · exact .inr (.inl b5t)
 split at h
 · exact .inr (.inr (.inl b5t))
 simp only [b2x,decide_eq_true_eq] at h;exact .inr (.inr (.inr h.1.1))
def a4m {a b:Val} (h1:a.kind = b.kind) (h2:a.num = b.num) (h3:a.str = b.str):a = b:=by
 obtain ⟨a1,a2,a3⟩:=a;obtain ⟨b1,b2,b3⟩:=b;simp only at h1 h2 h3;subst h1 h2 h3;rfl
def axi {a b:ByteArray} (h:bl a = bl b):a = b:=by
 obtain ⟨⟨a⟩⟩:=a;obtain ⟨⟨b⟩⟩:=b;have h:a = b:=h;subst h;rfl
def alm {v w:Val} (hv:j0 v) (hw:j0 w) {X Y:List Int} (h:j9 v ++ X = j9 w ++ Y):v = w /\ X = Y:=by
 obtain ⟨hv,nv⟩:=hv;obtain ⟨hw,nw⟩:=hw;have kv:=a4f hv;have kw:=a4f hw;unfold j9 at h;rw [b4g,b4g,b56] at h;obtain ⟨h1,h2⟩:=h;rw [w8,w8] at h1;have hk:v.kind = w.kind:=by omega
 clear h1;unfold be at hv hw;rw [<- hk] at h2 hw kw
 rcases kv with e | e | e | e <;> rw [e] at h2 hv hw <;> simp only [Int.reduceEq,if_true,if_false,or_true,true_or,or_false,false_or,or_self,b4e,b2x,decide_eq_true_eq,if_pos,true_and,decide_true,ite_true,ite_false] at h2 hv hw
 · exact ⟨a4m hk (hv.1.trans hw.1.symm) (hv.2.trans hw.2.symm),h2⟩
 · obtain ⟨h3,h4⟩:=List.append_inj h2 (by rw [th,th])
   exact ⟨a4m hk (aca nv nw h3) (hv.trans hw.symm),h4⟩
 · rw [b3x,b3x] at h2
   obtain ⟨h3,h4⟩:=ab0 h2;exact ⟨a4m hk (hv.1.trans hw.1.symm) (axi h3),h4⟩
 obtain ⟨h3,h4⟩:=List.append_inj h2 (by rw [th,th]);exact ⟨a4m hk (aca nv nw h3) (hv.2.trans hw.2.symm),h4⟩
def byR (l:List Int):Prop:=∀ x ∈ l,0 <= x /\ x < 256
def ajo:∀ {a b:List Int},byR a -> byR b -> b8 a = b8 b -> a = b
 | [],[],_,_,_=>rfl
 | [],_ :: _,_,_,h=>by simp [b8] at h
 | _ :: _,[],_,_,h=>by simp [b8] at h
 | x :: a,y :: b,ha,hb,h=>by
  simp only [b8,b4c,b56] at h;have h1:=ha x b5v;have h2:=hb y b5v;have h3:=congrArg UInt8.toNat h.1;simp only [UInt8.toNat_ofNat'] at h3;have e:x = y:=by omega
  rw [e,ajo (fun z hz=>ha z (b3h _ hz)) (fun z hz=>hb z (b3h _ hz)) h.2]
def ape {a b:List Int} (ha:byR a) (hb:byR b):byR (a ++ b):=fun x hx=>by
 rcases b3f.1 hx with h | h
 · exact ha x h
 exact hb x h
def as4 (v:Val):byR (j9 v):=by
 have h8:∀ n:Int,0 <= IntKind.wrap .u8 n /\ IntKind.wrap .u8 n < 256:=fun n=>by rw [w8];omega
 unfold j9;intro x hx
 rcases b2z.1 hx with rfl | hx
 · exact h8 _
 split at hx
 · unfold qq at hx
   obtain ⟨i,_,rfl⟩:=b3a.1 hx;exact h8 _
 split at hx
 · rcases b3f.1 hx with h | h
   · unfold k8 at h
     obtain ⟨z,_,h⟩:=List.mem_flatMap.1 h;unfold vj at h;split at h
     · simp at h;omega
     simp at h;have:=z.toNat_lt;omega
   simp at h;omega
 cases hx
def ss (s:AS):Nat -> List Val -> List Int
 | _,[]=>[]
 | a,v :: vs=>if s.getLsbD a = true then j9 v ++ ss s (a + 1) vs else ss s (a + 1) vs
section
variable {s:AS}
def a5a:∀ {l:List Val} {a:Nat},byR (ss s a l)
 | [],_=>fun x hx=>by cases hx
 | v :: l,a=>by
  have h:byR (ss s (a + 1) l):=a5a;unfold ss;split
  · exact ape (as4 v) h
  exact h
def a72:∀ {l:List Val} {a:Nat},(∀ v ∈ l,be v = true) -> bl (gz s a l) = b8 (ss s a l)
 | [],_,_=>rfl
 | v :: l,a,h=>by
  have ih:bl (gz s (a + 1) l) = b8 (ss s (a + 1) l):=a72 fun x hx=>h x (b3h _ hx);unfold gz ss;split
  · rw [aeb (h v b5v)]
    show (strOfNums (j9 v) ++ gz s (a + 1) l).data.toList = _;rw [ByteArray.data_append,Array.toList_append];show b8 (j9 v) ++ bl (gz s (a + 1) l) = _;rw [ih];unfold b8;rw [b5m]
  exact ih
def a2w:∀ {l m:List Val} {a:Nat},l.length = m.length -> a + l.length <= 32 -> (∀ v ∈ l,j0 v) -> (∀ v ∈ m,j0 v) -> ss s a l = ss s a m -> ff s a l = ff s a m
 | [],[],_,_,_,_,_,_=>rfl
 | [],_ :: _,_,h,_,_,_,_=>by simp at h
 | _ :: _,[],_,h,_,_,_,_=>by simp at h
 | v :: l,w :: m,a,hl,ha,h1,h2,h=>by
  have hl2:l.length = m.length:=by simpa using hl
  have ha2:a + (l.length + 1) <= 32:=ha;unfold ss at h;unfold ff;rw [fg b5s];split at h
  · rename_i hs
    rw [if_pos hs,if_pos hs];obtain ⟨rfl,h3⟩:=alm (h1 v b5v) (h2 w b5v) h;have h4:ff s (a + 1) l = ff s (a + 1) m:=a2w hl2 b5s (fun x hx=>h1 x (b3h _ hx)) (fun x hx=>h2 x (b3h _ hx)) h3;rw [h4]
  rename_i hs;rw [if_neg hs,if_neg hs];exact a2w hl2 b5s (fun x hx=>h1 x (b3h _ hx)) (fun x hx=>h2 x (b3h _ hx)) h
def va:∀ {l m:List Val} {a:Nat},l.length = m.length -> a + l.length <= 32 -> ff s a l = ff s a m -> gz s a l = gz s a m
 | [],[],_,_,_,_=>rfl
 | [],_ :: _,_,h,_,_=>by simp at h
 | _ :: _,[],_,h,_,_=>by simp at h
 | v :: l,w :: m,a,hl,ha,h=>by
  have hl:l.length = m.length:=by simpa using hl
  have ha:a + (l.length + 1) <= 32:=ha;unfold gz;unfold ff at h;rw [fg b5s] at h;split at h
  · rename_i hs
    rw [b56] at h;rw [if_pos hs,if_pos hs,h.1,va hl b5s h.2]
  rename_i hs;rw [if_neg hs,if_neg hs];exact va hl b5s h
def a8v {l m:List Val} (hl:l.length = m.length) (h32:l.length <= 32) (h1:∀ v ∈ l,j0 v) (h2:∀ v ∈ m,j0 v):er l s = er m s <-> sel l s = sel m s:=by
 constructor
 · intro h
   refine a2w hl b5s h1 h2 (ajo a5a a5a ?_);rw [<- a72 fun v hv=>(h1 v hv).1,<- a72 fun v hv=>(h2 v hv).1];exact congrArg bl h
 exact va hl b5s
end
end
section
section
variable {R:List Row} {ps:List AS} {cols:List (List Val)} {s:AS} {n:Nat}
def abv:∀ {l m:List Val} {a:Nat},l.length = m.length -> (ff s a l = ff s a m <-> ∀ i,i < l.length -> bm s ((a + i:Nat):Int) = true -> l.getD i default = m.getD i default)
 | [],[],a,_=>⟨fun _ i hi _=>absurd hi (b2y i),fun _=>rfl⟩
 | [],_ :: _,_,h=>by simp at h
 | _ :: _,[],_,h=>by simp at h
 | v :: l,w :: m,a,hl=>by
  have hl2:l.length = m.length:=by simpa using hl
  have ih:=abv (l:=l) (m:=m) (a:=a + 1) hl2;unfold ff;by_cases hs:bm s (a:Int) = true
  · rw [if_pos hs,if_pos hs,b56,ih]
    constructor
    · rintro ⟨h1,h2⟩ i hi hh
      cases i with
      | zero=>exact h1
      | succ i=>exact h2 i (by simpa using hi) (by rw [show a + 1 + i = a + (i + 1) by omega];exact hh)
    intro h;refine ⟨h 0 b5v hs,fun i hi hh=>?_⟩;exact h (i + 1) (by simpa using hi) (by rw [show a + (i + 1) = a + 1 + i by omega];exact hh)
  rw [if_neg hs,if_neg hs,ih];constructor
  · intro h i hi hh
    cases i with
    | zero=>exact absurd hh hs
    | succ i=>exact h i (by simpa using hi) (by rw [show a + 1 + i = a + (i + 1) by omega];exact hh)
  intro h i hi hh;exact h (i + 1) (by simpa using hi) (by rw [show a + (i + 1) = a + 1 + i by omega];exact hh)
def lh {l m:List Val} (hl:l.length = m.length):sel l s = sel m s <-> ∀ i:Nat,i < l.length -> bm s (i:Int) = true -> l.getD i default = m.getD i default:=by
 unfold sel;rw [abv hl];constructor <;> intro h i hi hh
 · exact h i hi (by rw [b3d];exact hh)
 exact h i hi (by rw [b3d] at hh;exact hh)
def okJ (R:List Row) (ps:List AS) (vs:List Val):Bool:=ps.all fun s=>jp R s vs.length (er vs s)
def n5 (R:List Row) (ps:List AS) (cols:List (List Val)):Nat -> List Val -> List (List Val)
 | 0,vs=>if okJ R ps vs = true then [vs] else []
 | d + 1,vs=>if okJ R ps vs = true then (cols.getD vs.length default).flatMap fun v=>n5 R ps cols d (vs ++ [v]) else []
def aib (hp:0 < ps.length) {vs:List Val} {m:Nat} (h:1000 < m):i7 R ps vs m = true:=by
 unfold i7;rw [b3l];exact ⟨_,b31 hp,by simp [kf,h]⟩
def al9 {vs:List Val} {m:Nat} (h:m <= 1000):i7 R ps vs m = !okJ R ps vs:=by
 unfold i7 okJ kf;rw [decide_eq_false b5s];simp only [Bool.false_or];rw [List.not_all_eq_any_not]
def a83 {α:Type} {a b:List α} {k:Nat}:(a.take k ++ b).take k = (a ++ b).take k:=by
 rw [List.take_append,List.take_append,List.take_take,Nat.min_self,b33];by_cases h:a.length <= k
 · rw [Nat.min_eq_right h]
 rw [b42 b5s,b5p,show k - a.length = 0 by omega]
def a7i {α β:Type} {f:List α -> β -> List α} {g:β -> List α} {k:Nat} (h:∀ acc b,acc.length <= k -> f acc b = (acc ++ g b).take k):∀ {l:List β} {acc:List α},acc.length <= k -> l.foldl f acc = (acc ++ l.flatMap g).take k
 | [],acc,ha=>by simp [b4j ha]
 | b :: l,acc,ha=>by
  rw [List.foldl_cons,h acc b ha,a7i h (l:=l) (by rw [b33];omega),a83,b5c,b3x]
def aby (hp:0 < ps.length):∀ {d:Nat} {vs:List Val} {acc:List (List Val)},acc.length <= 1001 -> dp R ps cols d vs acc = (acc ++ n5 R ps cols d vs).take 1001
 | d,vs,acc,h=>by
  by_cases hm:acc.length <= 1000
  · have hs:=al9 (R:=R) (ps:=ps) (vs:=vs) hm
    cases hk:okJ R ps vs with
    | false =>
     rw [hk] at hs;have e:n5 R ps cols d vs = []:=by cases d <;> (unfold n5;rw [if_neg (by simp [hk])])
     rw [ng hs,e,b3u,b4j h]
    | true =>
     rw [hk] at hs
     cases d with
     | zero =>
      unfold dp n5;rw [if_neg (by rw [hs];decide),if_pos hk,b4j (by rw [b36,b4b];omega)]
     | succ d =>
      unfold dp n5;rw [if_neg (by rw [hs];decide),if_pos hk];exact a7i (f:=fun acc v=>dp R ps cols d (vs ++ [v]) acc) (g:=fun v=>n5 R ps cols d (vs ++ [v])) (fun acc b ha=>aby hp ha) h
  have hs:=aib (R:=R) hp (vs:=vs) (m:=acc.length) b5s;rw [ng hs,List.take_append,b4j h,show 1001 - acc.length = 0 by omega,List.take_zero,b3u]
def ajh (hp:0 < ps.length):gv R ps n = (n5 R ps (bc R n) n []).take 1001:=by
 unfold gv;rw [aby hp (b2w _),b4e]
def sc:∀ {d:Nat} {vs w:List Val},w ∈ n5 R ps cols d vs <-> ∃ u,w = vs ++ u /\ u.length = d /\ (∀ j,j < d -> u.getD j default ∈ cols.getD (vs.length + j) default) /\ ∀ j,j <= d -> okJ R ps (vs ++ u.take j) = true
 | 0,vs,w=>by
  unfold n5;constructor
  · intro h
    split at h
    · rename_i hk
      have h:w = vs:=by simpa using h
      subst h;exact ⟨[],by simp,rfl,fun j hj=>absurd hj (b2y j),fun j _=>by simpa using hk⟩
    cases h
  rintro ⟨u,rfl,hl,_,hk⟩;obtain rfl:u = []:=b47 hl;have:=hk 0 (b2v _);rw [List.take_nil,b3u] at this;rw [if_pos this];simp
 | d + 1,vs,w=>by
  unfold n5;constructor
  · intro h
    split at h
    · rename_i hk
      obtain ⟨v,hv,hw⟩:=List.mem_flatMap.1 h;obtain ⟨u,rfl,hl,h1,h2⟩:=sc.1 hw;refine ⟨v :: u,by simp,by simp [hl],fun j hj=>?_,fun j hj=>?_⟩
      · cases j with
        | zero=>exact hv
        | succ j =>
         have:=h1 j b5s;rw [b36,b4b,show vs.length + 1 + j = vs.length + (j + 1) by omega] at this;exact this
      cases j with
      | zero=>simpa using hk
      | succ j =>
       have:=h2 j b5s;rw [b3x] at this;exact this
    cases h
  rintro ⟨u,rfl,hl,h1,h2⟩;have h0:=h2 0 (b2w _);rw [List.take_zero,b3u] at h0;rw [if_pos h0]
  cases u with
  | nil=>simp at hl
  | cons v u =>
   refine List.mem_flatMap.2 ⟨v,h1 0 b5s,sc.2 ⟨u,by simp,by simpa using hl,fun j hj=>?_,fun j hj=>?_⟩⟩
   · have:=h1 (j + 1) b5s
     rw [b36,b4b,show vs.length + 1 + j = vs.length + (j + 1) by omega];exact this
   have:=h2 (j + 1) b5s;rw [b3x];exact this
def ahx {p x y:List Val}:bw (p ++ x) (p ++ y) = bw x y:=by
 induction p with
 | nil=>rfl
 | cons v p ih =>
  rw [b4g,b4g,bw,if_neg (by rw [jw.self];simp),ih]
def abg (hc:∀ a,Asc dv (cols.getD a default)):∀ {d:Nat} {vs:List Val},Asc bw (n5 R ps cols d vs)
 | 0,vs=>by
  unfold n5;split
  · exact List.pairwise_singleton _ _
  exact List.Pairwise.nil
 | d + 1,vs=>by
  unfold n5;split
  · refine List.pairwise_flatMap.2 ⟨fun v _=>abg hc,(hc vs.length).imp fun {v w} hvw x hx y hy=>?_⟩
    obtain ⟨u,rfl,_⟩:=sc.1 hx;obtain ⟨u',rfl,_⟩:=sc.1 hy;rw [b3x,b3x,ahx];exact y6.2 (.inl hvw)
  exact List.Pairwise.nil
def ahm (a:Nat):Asc dv ((bc R n).getD a default):=by
 by_cases h:a < n
 · rw [tz h]
   exact a9a
 rw [show (bc R n).getD a default = [] by simp [bc,List.getD,h];rfl];exact List.Pairwise.nil
def sd (R:List Row) (ps:List AS) (n:Nat):List (List Val):=n5 R ps (bc R n) n []
def anm:Asc bw (sd R ps n):=abg ahm
def amo (hp:0 < ps.length):gv R ps n = (sd R ps n).take 1001:=ajh hp
def aa3 {r:Row} (hr:r ∈ R) (he:∀ r ∈ R,∀ v ∈ r.vals,j0 v) {k:Nat}:∀ v ∈ r.vals.take k,j0 v:=fun v hv=>he r hr v (List.mem_of_mem_take hv)
def ae1 (he:∀ r ∈ R,∀ v ∈ r.vals,j0 v) (hw:∀ r ∈ R,r.vals.length = n) {w:List Val} (hl:w.length <= n) (hn:n <= 16) (hv:∀ v ∈ w,j0 v) :
 okJ R ps w = true <-> ∀ s ∈ ps,∃ r ∈ R,sel (r.vals.take w.length) s = sel w s:=by
 unfold okJ jp;rw [b3j];constructor
 · intro h s hs
   have:=h s hs;obtain ⟨r,hr,e⟩:=b3l.1 this;refine ⟨r,hr, ?_⟩;have hlen:(r.vals.take w.length).length = w.length:=by rw [b33,hw r hr];omega
   exact (a8v hlen b5s (aa3 hr he) hv).1 (of_decide_eq_true e)
 intro h s hs;obtain ⟨r,hr,e⟩:=h s hs;refine b3l.2 ⟨r,hr,decide_eq_true ?_⟩;have hlen:(r.vals.take w.length).length = w.length:=by rw [b33,hw r hr];omega
 exact (a8v hlen b5s (aa3 hr he) hv).2 e
def aly (he:∀ r ∈ R,∀ v ∈ r.vals,j0 v) (hw:∀ r ∈ R,r.vals.length = n) (hn:n <= 16) (hf:orL ps = ai n) {w:List Val} :
 w ∈ sd R ps n <-> w.length = n /\ ∀ s ∈ ps,∃ r ∈ R,sel r.vals s = sel w s:=by
 unfold sd;rw [sc];constructor
 · rintro ⟨u,e0,hl,h1,h2⟩
   rw [b4e] at e0;subst e0;refine ⟨hl, ?_⟩;have h3:=h2 n (b2v _);rw [b4e,b4j b5s] at h3
   have hu:∀ v ∈ w,j0 v:=fun v hv=>by
    obtain ⟨j,hj,e⟩:=b3o hv;have:=h1 j b5s;rw [b5k,b3d,tz b5s,aae] at this;obtain ⟨r,hr,e2⟩:=this;have hjr:j < r.vals.length:=by rw [hw r hr];omega
    have e3:v = r.vals.getD j default:=by rw [e2,ca _ _ hj,e]
    rw [e3,ca _ _ hjr];exact he r hr _ (b31 hjr)
   have h4:=(ae1 he hw b5s hn hu).1 h3;intro s hs;obtain ⟨r,hr,e⟩:=h4 s hs;rw [b4j (by rw [hw r hr];omega)] at e;exact ⟨r,hr,e⟩
 rintro ⟨hl,h⟩
 have hcol:∀ j,j < n -> ∃ r ∈ R,r.vals.getD j default = w.getD j default:=fun j hj=>by
  have hb:bm (orL ps) (j:Int) = true:=by
   rw [hf,fg b5s];unfold ai;rw [b42 b5s,kx _ _ b5s];simpa using hj
  have:∃ s ∈ ps,bm s (j:Int) = true:=by
   rw [fg b5s] at hb;unfold orL at hb;rw [a0q,b43] at hb
   rcases hb with hb | hb
   · simp at hb
   obtain ⟨s,hs,hh⟩:=b3l.1 hb;exact ⟨s,hs,by rw [fg b5s];exact hh⟩
  obtain ⟨s,hs,hh⟩:=this;obtain ⟨r,hr,e⟩:=h s hs;exact ⟨r,hr,(lh ((hw r hr).trans hl.symm)).1 e j (by rw [hw r hr];exact hj) hh⟩
 have hu:∀ v ∈ w,j0 v:=fun v hv=>by
  obtain ⟨j,hj,e⟩:=b3o hv;obtain ⟨r,hr,e2⟩:=hcol j b5s;have hjr:j < r.vals.length:=by rw [hw r hr];omega
  have e3:v = r.vals.getD j default:=by rw [e2,ca _ _ hj,e]
  rw [e3,ca _ _ hjr];exact he r hr _ (b31 hjr)
 refine ⟨w,rfl,hl,fun j hj=>?_,fun j hj=>?_⟩
 · rw [b5k,b3d,tz hj,aae]
   exact hcol j hj
 rw [b4e];have hjl:(w.take j).length = j:=by rw [b33];omega
 rw [ae1 he hw b5s hn fun v hv=>hu v (List.mem_of_mem_take hv)];intro s hs;obtain ⟨r,hr,e⟩:=h s hs;refine ⟨r,hr, ?_⟩;rw [hjl];have hrl:=hw r hr;rw [lh (by rw [b33,b33];omega)];intro i hi hh;rw [b33] at hi;have h5:=(lh (hrl.trans hl.symm)).1 e i b5s hh;simpa [List.getD,b3p,show i < j by omega] using h5
end
end
section
section
variable {n:Int} {ps:List AS} {p m:List Fd}
end
def sgB (n:Int) (c:AS) (z:Int):Int:=if bm c (z % n) = true then z % n else z
section
variable {n:Int} {P Q:AS} {p:List Fd}
def aju {a b:AS} {i:Int}:bm (a &&& b) i = (bm a i && bm b i):=by
 unfold bm;rw [b3w];cases decide (0 <= i /\ i < 32) <;> simp
end
end
section
section
variable {t:Tbl} {d:Fd}
def s7 {R:List Row} {a:Row} (h:a ∈ R):∃ i,i < R.length /\ R.getD i default = a:=by
 obtain ⟨i,hi,e⟩:=b3o h;exact ⟨i,hi,by rw [ca _ _ hi,e]⟩
def avy (h:fdB t d = true) {a b:Row} (ha:a ∈ t.rows) (hb:b ∈ t.rows) (e:sel a.vals d.lhs = sel b.vals d.lhs):sel a.vals d.rhs = sel b.vals d.rhs:=by
 obtain ⟨i,hi,rfl⟩:=s7 ha;obtain ⟨k,hk,rfl⟩:=s7 hb
 have key:∀ i k,i < t.rows.length -> k < i -> sel (t.rows.getD i default).vals d.lhs = sel (t.rows.getD k default).vals d.lhs -> sel (t.rows.getD i default).vals d.rhs = sel (t.rows.getD k default).vals d.rhs:=fun i k hi hk e=>by
  unfold fdB at h;have h1:=b3j.1 (b3j.1 h i (b3e.2 hi)) k (b3e.2 hk);unfold ve ly at h1;rw [decide_eq_true e] at h1;simpa using h1
 rcases Nat.lt_trichotomy i k with h1 | h1 | h1
 · exact (key k i hk h1 e.symm).symm
 · subst h1;rfl
 exact key i k hi h1 e
def av5 (h:mvB t d = true) {a b:Row} (ha:a ∈ t.rows) (hb:b ∈ t.rows) (e:sel a.vals d.lhs = sel b.vals d.lhs):∃ x ∈ t.rows,sel x.vals (d.lhs ||| d.rhs) = sel a.vals (d.lhs ||| d.rhs) /\ sel x.vals (ai t.attrs.length &&& ~~~(d.lhs ||| d.rhs)) = sel b.vals (ai t.attrs.length &&& ~~~(d.lhs ||| d.rhs)):=by
 obtain ⟨i,hi,rfl⟩:=s7 ha;obtain ⟨k,hk,rfl⟩:=s7 hb;unfold mvB at h;have h1:=b3j.1 (b3j.1 h i (b3e.2 hi)) k (b3e.2 hk);unfold v7 ly at h1;rw [decide_eq_true e] at h1;have h1:a8f t (t.rows.getD i default) (t.rows.getD k default) (d.lhs ||| d.rhs) = true:=by simpa using h1
 unfold a8f at h1;obtain ⟨x,hx,h2⟩:=b3l.1 h1;rw [b2x] at h2;unfold ly at h2;exact ⟨x,hx,of_decide_eq_true h2.1,of_decide_eq_true h2.2⟩
end
def ahq {n i:Nat} (hn:n <= 16) (hi:i < n):bm (ai (n:Int)) (i:Int) = true:=by
 rw [fg b5s];unfold ai;rw [b42 b5s,kx _ _ b5s];simpa using hi
def aij {n i:Nat} {s:AS} (hn:n <= 16) (hi:i < n) (h:¬ bm s (i:Int) = true):bm (ai (n:Int) &&& ~~~s) (i:Int) = true:=by
 have h1:=ahq hn hi;rw [aju,h1,b4r];rw [fg b5s] at h ⊢;rw [b54];simp only [h,Bool.not_false,Bool.and_true];simp;omega
section
variable {n:Int} {ps:List AS} {p m:List Fd}
def ay1 (hc:lsC n ps p m = 0) (hl:lsB n ps p m = true):LR n.toNat p m (au n ps) (c7 n):=by
 obtain ⟨hv,hb⟩:=zd hc;obtain ⟨h0,h8,h64,_⟩:=qa hv
 rcases za (m:=m) h64 hb with ⟨e,_⟩ | ⟨sts',lend,e,h1,_⟩
 · rw [a8g hv hb] at hc
   unfold lsT at hc;rw [e] at hc;cases hc
 unfold lsB lsT at hl;rw [hc,e,decide_eq_true rfl,b4r] at hl;have hl:(lend.any fun r=>decide (r = c7 n)) = true:=hl;rw [aht,decide_eq_true_iff,h1] at hl;exact hl
end
def sgT (n:Nat) (w:List Val) (f:Nat -> Row) (z:Int):Val:=if z < (n:Int) then w.getD z.toNat default else (f (z / n - 1).toNat).vals.getD (z % n).toNat default
section
variable {w:List Val}
def a7c {n:Nat} {f:Nat -> Row} {j:Nat} (hj:j < n):sgT n w f (j:Int) = w.getD j default:=by
 unfold sgT;rw [if_pos b5s,b44]
def aj9 {n:Nat} {f:Nat -> Row} {i j:Nat} (hj:j < n):sgT n w f ((n:Int) + (i:Int) * (n:Int) + (j:Int)) = (f i).vals.getD j default:=by
 unfold sgT;have h0:0 <= (i:Int) * (n:Int):=Int.mul_nonneg b5s b5s;rw [if_neg b5s];have e:(n:Int) + (i:Int) * (n:Int) + (j:Int) = (j:Int) + ((i:Int) + 1) * (n:Int):=by rw [Int.add_mul,Int.one_mul];omega
 rw [e,Int.add_mul_ediv_right _ _ b5s,Int.add_mul_emod_self_right,Int.ediv_eq_zero_of_lt b5s b5s,Int.emod_eq_of_lt b5s b5s,b44];have e2:((0:Int) + ((i:Int) + 1) - 1).toNat = i:=by omega
 rw [e2]
def aqb {t:Tbl} {p m:List Fd} (hn:t.attrs.length <= 16) (hw:∀ r ∈ t.rows,r.vals.length = t.attrs.length) (hF:∀ d ∈ p,fdB t d = true) (hM:∀ d ∈ m,mvB t d = true) (σ:Int -> Val) :
 Mdl t.attrs.length p m (fun x y=>σ x = σ y) (fun r=>r.length = t.attrs.length /\ ∃ x ∈ t.rows,∀ i,i < t.attrs.length -> σ (r.getD i default) = x.vals.getD i default) where
 refl x:=rfl
 symm h:=h.symm
 trans h k:=h.trans k
 len h:=h.1
 cong {r r'} h hl he:=by
  obtain ⟨h1,x,hx,h2⟩:=h;exact ⟨hl.trans h1,x,hx,fun i hi=>(he i b5s).symm.trans (h2 i hi)⟩
 fd {d} hd {a b} ha hb hag:=by
  obtain ⟨hal,xa,hxa,ha⟩:=ha;obtain ⟨hbl,xb,hxb,hb⟩:=hb;have hla:=hw xa hxa;have hlb:=hw xb hxb
  have h1:sel xa.vals d.lhs = sel xb.vals d.lhs:=(lh (hla.trans hlb.symm)).2 fun i hi hh=>by
   rw [<- ha i b5s,<- hb i b5s];exact hag i b5s hh
  have h2:=(lh (hla.trans hlb.symm)).1 (avy (hF d hd) hxa hxb h1);intro i hi hh;show σ (a.getD i default) = σ (b.getD i default);rw [ha i b5s,hb i b5s];exact h2 i b5s hh
 mv {d} hd {a b} ha hb hag:=by
  obtain ⟨hal,xa,hxa,ha⟩:=ha;obtain ⟨hbl,xb,hxb,hb⟩:=hb;have hla:=hw xa hxa;have hlb:=hw xb hxb
  have h1:sel xa.vals d.lhs = sel xb.vals d.lhs:=(lh (hla.trans hlb.symm)).2 fun i hi hh=>by
   rw [<- ha i b5s,<- hb i b5s];exact hag i b5s hh
  obtain ⟨x,hx,h2,h3⟩:=av5 (hM d hd) hxa hxb h1;have hlx:=hw x hx;have h2:=(lh (hlx.trans hla.symm)).1 h2;have h3:=(lh (hlx.trans hlb.symm)).1 h3;refine ⟨(it _ _ _).trans hbl,x,hx,fun i hi=>?_⟩
  have e:(d7 a b (d.lhs ||| d.rhs)).getD i default = if bm (d.lhs ||| d.rhs) (i:Int) = true then a.getD i default else b.getD i default:=by
   unfold d7;rw [b2r,b35,b3t b5s];rfl
  rw [e];by_cases hh:bm (d.lhs ||| d.rhs) (i:Int) = true
  · rw [if_pos hh,ha i hi]
    exact (h2 i b5s hh).symm
  rw [if_neg hh,hb i hi];exact (h3 i b5s (aij hn hi hh)).symm
def am8 {t:Tbl} {ps:List AS} {p m:List Fd} (hn:t.attrs.length <= 16) (hw:∀ r ∈ t.rows,r.vals.length = t.attrs.length) (hc:lsC t.attrs.length ps p m = 0) (hl:lsB t.attrs.length ps p m = true) (hF:∀ d ∈ p,fdB t d = true) (hM:∀ d ∈ m,mvB t d = true) (hwl:w.length = t.attrs.length) (hall:∀ s ∈ ps,∃ r ∈ t.rows,sel r.vals s = sel w s):∃ r ∈ t.rows,r.vals = w:=by
 have hLR:=ay1 hc hl
 have hch:∀ i,∃ r:Row,i < ps.length -> r ∈ t.rows /\ sel r.vals (ps.getD i default) = sel w (ps.getD i default):=fun i=>by
  by_cases hi:i < ps.length
  · obtain ⟨r,hr,e⟩:=hall (ps.getD i default) (by rw [ca _ _ hi];exact b31 hi)
    exact ⟨r,fun _=>⟨hr,e⟩⟩
  exact ⟨default,fun h=>absurd h hi⟩
 obtain ⟨f,hf⟩:=Classical.axiomOfChoice hch
 obtain ⟨_,x,hx,h2⟩:=hLR _ _ (aqb hn hw hF hM (sgT t.attrs.length w f)) (fun r hr=>by
  unfold au at hr;obtain ⟨i,hi,rfl⟩:=b3a.1 hr;have hi:=b3e.1 hi;obtain ⟨hfr,hfe⟩:=hf i hi;have hlf:=hw _ hfr;refine ⟨a5z _ _ _,f i,hfr,fun j hj=>?_⟩;rw [aja (by simpa using hj)];unfold stV;by_cases hh:bm (ps.getD i default) (j:Int) = true
  · rw [if_pos hh,a7c hj]
    exact ((lh (hlf.trans hwl.symm)).1 hfe j b5s hh).symm
  rw [if_neg hh]
  exact aj9 hj)
 refine ⟨x,hx, ?_⟩;have hlx:=hw x hx;refine List.ext_getElem (hlx.trans hwl.symm) fun i h3 h4=>?_;have:=h2 i b5s;rw [an1 b66,a7c b5s,ca _ _ h3,ca _ _ h4] at this;exact this.symm
def aiw {t:Tbl} {ps:List AS} {p m:List Fd} (hT:TOk t) (he:∀ r ∈ t.rows,∀ v ∈ r.vals,j0 v) (hc:lsC t.attrs.length ps p m = 0) (hl:lsB t.attrs.length ps p m = true)
 (hF:∀ d ∈ p,fdB t d = true) (hM:∀ d ∈ m,mvB t d = true):kj t ps = 0 /\ a08 (qs t ps) t = true /\ (qs t ps).ok:=by
 obtain ⟨hv,hb⟩:=zd hc;have hn:=hT.na
 have hw:∀ r ∈ t.rows,r.vals.length = t.attrs.length:=fun r hr=>by
  obtain ⟨i,hi,rfl⟩:=s7 hr;exact hT.width hi
 have hf:=(qa hv).2.2.2.2
 have hmem:∀ w,w ∈ sd t.rows ps t.attrs.length <-> ∃ r ∈ t.rows,r.vals = w:=fun w=>by
  rw [aly he hw hn hf];constructor
  · rintro ⟨h1,h2⟩
    exact am8 hn hw hc hl hF hM h1 h2
  rintro ⟨r,hr,rfl⟩;exact ⟨hw r hr,fun s hs=>⟨r,hr,rfl⟩⟩
 have hlen:(sd t.rows ps t.attrs.length).length <= 1000:=by
  have h1:=(aks.nodup (anm (R:=t.rows) (ps:=ps) (n:=t.attrs.length))).length_le_of_subset (l₂:=t.rows.map Row.vals) fun w hw=>by
   obtain ⟨r,hr,e⟩:=(hmem w).1 hw;exact b3a.2 ⟨r,hr,e⟩
  rw [b3g] at h1;have:=hT.nr;omega
 have hj:gv t.rows ps t.attrs.length = sd t.rows ps t.attrs.length:=by
  rw [amo (ads hv),b4j b5s]
 have h0:kj t ps = 0:=a5l (la.2 hT) hv (by rw [hj];omega);refine ⟨h0, ?_⟩;rw [a5r h0,hj]
 have hid:∀ {L:List (List Val)} {w:List Val},w ∈ L <-> ∃ r ∈ f5 L,r.vals = w:=fun {L w}=>by
  unfold f5;constructor
  · intro h
    obtain ⟨i,hi,e⟩:=b3o h;exact ⟨_,b3a.2 ⟨i,b3e.2 hi,rfl⟩,by show L.getD i default = w;rw [ca _ _ hi,e]⟩
  rintro ⟨r,hr,rfl⟩;obtain ⟨i,hi,rfl⟩:=b3a.1 hr;have hi:=b3e.1 hi;show L.getD i default ∈ L;rw [ca _ _ hi];exact b31 hi
 refine ⟨?_,hT.ok.1, ?_,fun j hj=>?_⟩
 rotate_left
 · show (f5 (sd t.rows ps t.attrs.length)).length <= 68719476736
   rw [ww];omega
 · have hj:j < (f5 (sd t.rows ps t.attrs.length)).length:=hj
   show ((f5 (sd t.rows ps t.attrs.length)).getD j default).ok;obtain ⟨r',hr',e⟩:=(hmem _).1 (hid.2 ⟨(f5 (sd t.rows ps t.attrs.length)).getD j default,by rw [ca _ _ hj];exact b31 hj,rfl⟩);obtain ⟨i,hi,e2⟩:=s7 hr';have hok:=hT.ok.2.2 i hi;rw [e2] at hok;unfold Row.ok at hok ⊢;rw [<- e];exact hok
 unfold a08 ag8 a0f;rw [decide_eq_true rfl,b4r,b2x];constructor
 · rw [b3j]
   intro r hr;obtain ⟨r',hr',e⟩:=(hmem r.vals).1 (hid.2 ⟨r,hr,rfl⟩);exact b3l.2 ⟨r',hr',decide_eq_true e⟩
 rw [b3j];intro r hr;obtain ⟨r',hr',e⟩:=hid.1 ((hmem r.vals).2 ⟨r,hr,rfl⟩);exact b3l.2 ⟨r',hr',decide_eq_true e⟩
end
end
end Go.Hx
