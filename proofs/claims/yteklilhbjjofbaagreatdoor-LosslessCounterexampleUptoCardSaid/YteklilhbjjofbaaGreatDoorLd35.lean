/- A part of the proof: Jw4 Sp5 Jrw3 Jw5 Jw6 Jrw6 Jp1. -/
import Derived.Test.YteklilhbjjofbaaGreatDoorLd34
set_option linter.all false
set_option maxRecDepth 100000
set_option maxHeartbeats 1000000
namespace Go.Hx
section
open Go.Proofs
def ah5 (t:Tbl) (ps:List AS):a8 b98 30 [t.pc,pP (asl ps)] (ae [(jp t ps).pc,pI (jo t ps)]):=by
 refine hpx (nt:=182) Tryz.func30 ?_;refine sx7 ?_;refine m9 0 ?_;refine m9 1 ?_;refine w_6 ?_;refine qcx (wgx Tryz.func61) (c88 t) ?_;refine w_7 ?_;refine hcn (fun h0=>?_) (fun h0=>?_)
 · refine w_7 ?_;refine hrr ?_;have he:=av0 (ps:=ps) (by assumption:¬ cb t = 0);exact f9 rfl rfl (⟨(by rw [a7o he b8j];exact CoC.agg ⟨CoP.refl _,lm,lm,trivial⟩),cci he.symm,trivial⟩)
 have h0:cb t = 0:=by assumption
 have ht:=mh.1 h0;have hna:=ht.na;have hnr:=ht.nr;have hw:∀ i,i < t.rows.length -> (t.rows.getD i default).vals.length = t.attrs.length:=fun i hi=>ht.width hi;have hw':∀ i:Nat,i < t.rows.length -> (t.rows.getD ((i:Int)).toNat default).vals.length = t.attrs.length:=fun i hi=>ht.width hi;refine m7 ?_;refine qcx ad8 (a8m t.attrs.length ps) ?_;refine w_7 ?_;refine hcn (fun h1=>?_) (fun h1=>?_)
 · refine w_7 ?_;refine hrr ?_;have he:=ash h0 (by assumption:¬ lvE t.attrs.length ps = 0);exact f9 rfl rfl (⟨(by rw [a7o he b8j];exact CoC.agg ⟨CoP.refl _,lm,lm,trivial⟩),cci he.symm,trivial⟩)
 have hv:lvE t.attrs.length ps = 0:=by assumption
 have hps:=au2 hv;have hp64:=arh hv;refine w_5 ?_;refine m9 2 ?_;refine qy ?_;refine m9 3 ?_;refine w_9 ?_;refine cj (ka 1 (ka 2 (ka 4 (ka 7 (ka 9 (ka 43 kn)))))) (kb 0 (kb 1 (kb 3 km))) (fun a=>⟨[(44,some (vI a))],[(2,some (.arr true 1 110 t.attrs.length (uw t.rows a)))]⟩) t.attrs.length ⟨tt,⟨⟨_,rfl,(al3 rfl fun _=>am7)⟩,trivial⟩⟩ ?_;rintro a ha;refine w_5 ?_;refine hcd (fun h2=>?_) (fun h2=>?_)
 ·
  refine df ?_;refine aai 2 a 30 true 3 114 (lf Val.c (nu t.rows a)) b8n rfl b8i ari (CoP.sl rfl (.inr rfl) (fun h=>h) (fun i j hi _=>absurd hi (b5i i))) (.inr rfl) rfl rfl ?_;refine w_7 ?_;refine cj (ka 1 (ka 2 (ka 4 (ka 7 (ka 9 (ka 10 (ka 43 (ka 44 (ka 48 (ka 49 kn)))))))))) (kb 0 (kb 1 (kb 3 km))) (fun i=>⟨[(50,some (vI i))],[(2,some (.arrh 1 110 t.attrs.length [30] (fu a (.ref 30 i) (uw t.rows a)))),(30,some (.arr true 3 114 i (lf Val.c (nu t.rows a))))]⟩) t.rows.length kk ?_;rintro i hi;refine w_5 ?_;refine hcd (fun h3=>?_) (fun h3=>?_)
  · refine w_7 ?_;refine m9 4 ?_;refine v6 ?_;refine rq (out:=Out.mk _ (.v (.one (.ref 30 i)))) rfl rfl rfl (congrArg (fun x=>some (Out.mk _ (.v (.one x)))) yu) rfl ?_;refine w_3 ?_;refine rq rfl rfl rfl rfl rfl ?_ (hp:=⟨rfl,by omega,by rw [hw' i b8i];omega⟩);refine qy ?_;refine m9 5 ?_;refine r9 6 true ?_;refine w_8 ?_;exact lpx (i + 1) ⟨tt,⟨⟨_,rfl,(afn rfl)⟩,⟨_,rfl,(ajx b8i (a0n (CoP.refl _) (CoP.refl _) (CoP.refl _)))⟩,uu⟩⟩
  obtain rfl:i = t.rows.length:=by omega
  refine w_9 ?_;refine rq (out:=Out.mk _ (.v (.one (.ref 30 t.rows.length)))) rfl rfl rfl (congrArg (fun x=>some (Out.mk _ (.v (.one x)))) yu) rfl ?_;refine ji rfl rfl rfl rfl rfl rfl (wgx Tryz.func62) (ayt 30 (nu t.rows a) (by rw [yk];omega) _) (⟨congrArg (HV.ref 30) yk.symm,CoP.refl _,trivial⟩) ⟨⟨_,rfl,asc (fun h=>h) yk.symm⟩,trivial⟩ rfl rfl ?_;refine m7 ?_;refine rq (out:=Out.mk _ (.v (.one (.ref 30 t.rows.length)))) rfl rfl rfl (congrArg (fun x=>some (Out.mk _ (.v (.one x)))) yu) rfl ?_;refine ji rfl rfl rfl rfl rfl rfl (wgx Tryz.func64) ((az7 (a4k f5 (nu t.rows a))).swap 900 30) (⟨congrArg (HV.ref 30) (by rw [aem,yk]),trivial⟩) ⟨⟨_,rfl,co_encL' (fun h=>h) (by rw [aem])⟩,trivial⟩ rfl rfl ?_;refine w_8 ?_;exact lpx (a + 1) ⟨tt,⟨⟨_,rfl,(aci rfl alk asb)⟩,uu⟩⟩
 obtain rfl:a = t.attrs.length:=by omega
 refine w_3 ?_;refine dx 3 2 31 true 1 127 (lf (lvC t.rows t.attrs.length) ps) b8n rfl rfl (CoP.sl rfl (.inr rfl) (fun h=>h) (fun i j hi _=>absurd hi (b5i i))) (.inr rfl) rfl rfl ?_;refine w_6 ?_;refine cj (ka 2 (ka 4 (ka 7 (ka 9 (ka 98 (ka 99 kn)))))) (kb 2 (kb 0 (kb 1 km))) (fun p=>⟨[(100,some (vI p))],[(3,some (.box [.p (asl ps), .ref 2 t.attrs.length, .ref 31 p, .p (ku (.slice none 0 0))])),(31,some (.arr true 1 127 p (lf (lvC t.rows t.attrs.length) ps)))]⟩) ps.length kk ?_;rintro p hp;refine cu ?_;refine bv 98 rfl fun hpn=>?_;refine w_4 ?_;refine hcd (fun h4=>?_) (fun h4=>?_)
 ·
  refine m7 ?_;refine rm 7 rfl rfl rfl rfl rfl rfl ?_ (hp:=⟨by omega,by omega,by omega,by show (8:Int) * _ <= _;omega⟩);refine df ?_;refine cj (ka 2 (ka 4 (ka 7 (ka 9 (ka 14 (ka 15 (ka 98 (ka 99 (ka 100 (ka 108 kn)))))))))) (kb 3 (kb 31 (kb 2 (kb 0 (kb 1 km))))) (fun k=>⟨[(109,some (vI k))],[(7,some (.arr true 1 128 (t.attrs.length + 1) (lvT t.rows (ps.getD p default) k)))]⟩) (t.attrs.length + 1) ⟨tt,⟨⟨_,rfl,(aqa (by first | rfl | omega) fun _=>CoP.refl _)⟩,trivial⟩⟩ ?_;rintro k hk;refine w_5 ?_;refine hcd (fun h5=>?_) (fun h5=>?_)
  ·
   refine w_9 ?_;refine akx 7 (.arrh 1 128 (t.attrs.length + 1) [] fun i j=>.p (lvT t.rows (ps.getD p default) k i j)) rfl axv ?_;refine w_3 ?_;refine m9 8 ?_;refine ej ?_;refine cj (ka 2 (ka 4 (ka 7 (ka 9 (ka 14 (ka 15 (ka 16 (ka 98 (ka 99 (ka 100 (ka 108 (ka 109 (ka 117 (ka 118 kn)))))))))))))) (kb 3 (kb 31 (kb 2 (kb 0 (kb 1 km))))) (fun i=>⟨[(119,some (vI i))],[(7,some (.arrh 1 128 (t.attrs.length + 1) [8] (fu k (.ref 8 0) (lvT t.rows (ps.getD p default) k)))),(8,some (.mp .str i (t8 (t.rows.take i) (ps.getD p default) k)))]⟩) t.rows.length ⟨tt,⟨⟨_,rfl,(afc rfl)⟩,⟨_,rfl,(atp fun _=>rfl)⟩,trivial⟩⟩ ?_;rintro i hi;refine w_5 ?_;refine hcd (fun h6=>?_) (fun h6=>?_)
   · refine w_7 ?_;refine m9 9 ?_;refine w_6 ?_;refine rq (out:=Out.mk _ (.v (.one (.ref 8 0)))) rfl rfl rfl (congrArg (fun x=>some (Out.mk _ (.v (.one x)))) yu) rfl ?_;refine w_3 ?_;refine rq rfl rfl rfl rfl rfl ?_ (hp:=⟨rfl,trivial,⟨by omega,by rw [hw' i b8i];omega⟩,trivial⟩);refine qy ?_;refine rc rfl rfl rfl rfl rfl rfl aey (a7i ((t.rows.getD i default).vals.take k) (ps.getD p default) (by rw [b5p];omega)) (⟨CoC.one (apa (by rw [hw' i b8i];omega)),CoC.refl _,trivial⟩) rfl rfl ?_;refine rs rfl rfl rfl rfl rfl ?_ (hp:=⟨rfl,adb (by rw [b5p];omega),by show i < maxLen;unfold maxLen;omega⟩);refine w_6 ?_;exact lpx (i + 1) ⟨tt,⟨u9,⟨_,rfl,(asr b8i rfl)⟩,uu⟩⟩
   obtain rfl:i = t.rows.length:=by omega
   refine br ?_;refine a6w (id:=8) 7 (lvT t.rows (ps.getD p default) (k + 1)) rfl rfl rfl b0b ?_;refine w_4 ?_;exact lpx (k + 1) kk
  obtain rfl:k = t.attrs.length + 1:=by omega
  refine br ?_;refine bm 15 rfl rfl rfl ?_;refine w_7 ?_;refine m9 10 ?_;refine r9 11 true ?_;refine w_8 ?_;exact lpx (p + 1) ⟨tt,⟨u9,⟨_,rfl,(an3 rfl)⟩,uu⟩⟩
 obtain rfl:p = ps.length:=by omega
 refine w_2 ?_;refine dz 3 2 rfl rfl rfl rfl rfl ?_;refine dz 3 1 rfl rfl rfl rfl rfl ?_;refine dx 3 3 32 true 1 110 (lf vlC []) b8n rfl rfl (CoP.sl rfl (.inr rfl) (fun h=>h) (fun i j hi _=>absurd hi (b5i i))) (.inr rfl) rfl rfl ?_;refine w_2 ?_;refine ji rfl rfl rfl rfl rfl rfl (wgx Tryz.func66) (((avt t.rows ps t.attrs.length b8i hps t.attrs.length [] [] (b5q _) (b5h _)).swap 1000 3).swap 1001 32) (⟨rfl,lm,trivial⟩) ⟨⟨_,rfl,⟨CoH.refl _,aqc,CoP.refl _,rfl,trivial⟩⟩,uu⟩ rfl rfl ?_;refine ej ?_;refine hcd (fun h7=>?_) (fun h7=>?_)
 · refine w_6 ?_;refine hrr ?_;have he:=arq h0 hv b8j;exact f9 rfl rfl (⟨(by rw [a7o he b8n];exact CoC.agg ⟨CoP.refl _,lm,lm,trivial⟩),cci he.symm,trivial⟩)
 have hJ:(f0 t.rows ps (be t.rows t.attrs.length) t.attrs.length [] []).length = (ir t.rows ps t.attrs.length).length:=rfl;refine w_7 ?_;refine qcx (wgx Tryz.func67) (c77 t.attrs b8i) ?_;refine qy ?_;refine m9 12 ?_;refine w_5 ?_;refine dz 3 3 rfl rfl rfl rfl rfl ?_;refine w_9 ?_;refine dx 12 2 33 true 2 112 (lf Row.c (f7 (ir t.rows ps t.attrs.length))) b8n rfl rfl (CoP.sl rfl (.inr rfl) (fun h=>h) (fun i j hi _=>absurd hi (b5i i))) (.inr rfl) rfl rfl ?_;refine cj (ka 4 (ka 19 (ka 164 (ka 165 kn)))) (kb 1 km) (fun i=>⟨[(166,some (vI i))],[(12,some (.box [.p (.raw (.string t.name)), .p (x9 t.attrs), .ref 33 i])),(33,some (.arr true 2 112 i (lf Row.c (f7 (ir t.rows ps t.attrs.length)))))]⟩) ((ir t.rows ps t.attrs.length).length) kk ?_;rintro i hi;refine w_5 ?_;refine hcd (fun h8=>?_) (fun h8=>?_)
 · refine ave ?_;refine m9 13 ?_;refine r9 14 true ?_;refine w_7 ?_;exact lpx (i + 1) ⟨tt,⟨u9,⟨_,rfl,(aft b8i (CoP.refl _) (CoP.refl _))⟩,uu⟩⟩
 obtain rfl:i = (ir t.rows ps t.attrs.length).length:=by omega
 refine w_2 ?_;refine dz 12 2 rfl rfl rfl rfl rfl ?_;refine w_5 ?_;refine hrr ?_;have he:=a7n h0 hv b8j;exact f9 rfl rfl (⟨(by rw [a8k he];exact CoC.agg ⟨CoP.refl _,CoP.refl _,CoP.sl te (.inl rfl) (fun h=>h) (fun _ _ _ _=>CoP.refl _),trivial⟩),cci he.symm,trivial⟩)
end
section
def a4a {r x:Row}:∀ {l:List Row},x ∈ sm r l <-> x = r \/ x ∈ l
 | []=>by simp [sm]
 | y :: l=>by
  simp only [sm];split
  · simp
  simp only [b5k,a4a (l:=l)];constructor
  · rintro (h | h | h) <;> simp [h]
  rintro (h | h | h) <;> simp [h]
def a2y {r:Row}:∀ {l:List Row},s7 l -> (∀ x ∈ l,x.id ≠ r.id) -> s7 (sm r l)
 | [],_,_=>by simp [sm,s7]
 | y :: l,hs,hn=>by
  have hs':=hs;unfold s7 at hs';rw [b6a] at hs';simp only [sm];split
  · rename_i h
    refine List.Pairwise.cons (fun x hx=>?_) hs
    rcases b5k.1 hx with rfl | hx
    · exact h
    have:=hs'.1 x hx;omega
  rename_i h;refine List.Pairwise.cons (fun x hx=>?_) (a2y hs'.2 fun x hx=>hn x (by simp [hx]))
  rcases a4a.1 hx with rfl | hx
  · have:=hn y b8l;omega
  exact hs'.1 x hx
section
variable {l:List Row}
def ajh {id:Int} (h:fe l id < 0):∀ x ∈ l,x.id ≠ id:=by
 intro x hx e;have h2:=ahh (p:=fun r:Row=>decide (r.id = id)) (l:=l);have h3:(l.any fun r=>decide (r.id = id)) = true:=by rw [b6c];exact ⟨x,hx,by simp [e]⟩
 rw [h3] at h2;simp only [decide_eq_true_eq] at h2;unfold fe at h;omega
variable {t:Tbl}
def avv {r:Row} (h:ut t r = 0):TOk (ajb t r):=by
 obtain ⟨h1,h2,h3,h4,h5,h6⟩:=an5 h;have hT:=mh.1 h1;rw [as1 h];refine ⟨hT.nm,hT.na,by show (sm r t.rows).length <= 1000;rw [abv];omega,hT.nms, ?_⟩;refine pk (fun x hx=>?_) (a2y (ml hT.rs) (ajh h5))
 rcases a4a.1 hx with rfl | hx
 · exact ⟨h3,h2,h4⟩
 exact i6 hT.rs x hx
def apz {i:Int} (h:yc t i = 0):cb t = 0 /\ 0 <= fe t.rows i:=by
 unfold yc at h;split at h
 · omega
 split at h
 · exact ⟨by omega,by assumption⟩
 omega
def axp {i:Int} (h:yc t i = 0):TOk (ai5 t i):=by
 have hT:=mh.1 (apz h).1;rw [atx h];have hsub:=List.eraseIdx_sublist t.rows (fe t.rows i).toNat;refine ⟨hT.nm,hT.na,by have:=hsub.length_le;have:=hT.nr;show (t.rows.eraseIdx _).length <= 1000;omega,hT.nms, ?_⟩;exact pk (fun x hx=>i6 hT.rs x (hsub.subset hx)) (List.Pairwise.sublist hsub (ml hT.rs))
def at6 {i a:Int} {v:Val} (h:zx t i a v = 0):cb t = 0 /\ 0 <= fe t.rows i /\ 0 <= a /\ a < t.attrs.length /\ bj v = true:=by
 unfold zx at h;split at h
 · omega
 split at h
 · omega
 split at h
 · omega
 split at h
 · omega
 rename_i h1 h2 h3 h4;exact ⟨by omega,by omega,by omega,by omega,by simpa using h4⟩
def anb {i k:Nat} {v:Val} (hi:i < l.length):(a1j l i k v).map Row.id = l.map Row.id:=by
 unfold a1j;apply b7c;intro j;rw [b5s,b5s,List.getElem?_set];split
 · rename_i h
   subst h;rw [b5b hi];simp [List.getD,b5b hi]
 rfl
def a5j:s7 l <-> (l.map Row.id).Pairwise (· < ·):=by
 rw [List.pairwise_map]
def avl {i a:Int} {v:Val} (h:zx t i a v = 0):TOk (ai6 t i a v):=by
 obtain ⟨h1,h2,h3,h4,h5⟩:=at6 h;have hT:=mh.1 h1;have hix:(fe t.rows i).toNat < t.rows.length:=by have:=axj h2;rwa [show max (fe t.rows i) 0 = fe t.rows i from by omega] at this
 rw [atb h];refine ⟨hT.nm,hT.na,by show (a1j _ _ _ _).length <= 1000;rw [apc];exact hT.nr,hT.nms, ?_⟩;refine pk (fun x hx=>?_) (by rw [a5j,anb hix,<- a5j];exact ml hT.rs);have hold:=i6 hT.rs _ (b5l hix);have hgd:=ca _ _ hix;unfold a1j at hx
 rcases List.mem_or_eq_of_mem_set hx with hx | rfl
 · exact i6 hT.rs x hx
 refine ⟨by show 0 < (t.rows.getD _ default).id;rw [hgd];exact hold.1,by show (List.set _ _ _).length = _;rw [b7m,hgd];exact hold.2.1, ?_⟩;rw [b5u];intro y hy
 rcases List.mem_or_eq_of_mem_set hy with hy | rfl
 · rw [hgd] at hy
   exact b5u.1 hold.2.2 y hy
 exact h5
def ax3 {c:Chg} (h:a6b t c = 0):TOk (a4w t c):=by
 unfold a6b at h;unfold a4w;split at h
 · rename_i h2;rw [if_pos h2];exact avv h
 rename_i h2;rw [if_neg h2];split at h
 · omega
 split at h
 · omega
 split at h
 · rename_i h3;rw [if_pos h3];exact axp h
 rename_i h3;rw [if_neg h3];exact avl h
def b0u {d:DB} {c:Chg} (hd:dbV d):dbV (zm d c):=by
 by_cases he:ic d c = 0
 · unfold ic at he
   split at he
   · rename_i h1
     split at he
     · omega
     obtain ⟨g1,g2,g3⟩:=av8 he;have he':ic d c = 0:=by rw [aE2 h1 b8p];exact he
     rw [aD1 he' h1];refine ⟨by simp;omega,fun j hj=>?_⟩;by_cases h:j < d.length
     · rw [show (d ++ [c.table]).getD j default = d.getD j default from by simp [List.getD,b75 h]]
       exact hd.2 j h
     obtain rfl:j = d.length:=by simp at hj;omega
     rw [show (d ++ [c.table]).getD d.length default = c.table from by simp [List.getD]];exact g1
   rename_i h1;split at he
   · omega
   split at he
   · omega
   rename_i h2 h3;have he':ic d c = 0:=by rw [aE5 b8i h3];exact he
   rw [aD2 he' h1 rfl];refine ⟨by rw [b7m];exact hd.1,fun j hj=>?_⟩;rw [b7m] at hj;by_cases h:j = (j2 d c.name).toNat
   · subst h
     rw [show (d.set (j2 d c.name).toNat (a4w (s3 d c.name) c)).getD (j2 d c.name).toNat default = a4w (s3 d c.name) c from by simp [List.getD,hj]];exact mh.2 (ax3 he)
   rw [show (d.set (j2 d c.name).toNat (a4w (s3 d c.name) c)).getD j default = d.getD j default from by simp only [List.getD,List.getElem?_set_ne (Ne.symm h)]];exact hd.2 j hj
 rw [axr rfl he];exact hd
def dbV.ok {d:DB} (h:dbV d):b15 d:=⟨by have:=h.1;omega,fun j hj=>akz (h.2 j hj)⟩
def ah2:dbV []:=⟨by simp,fun j hj=>by simp at hj⟩
def ale:∀ {l:List Chg} {d:DB},dbV d -> dbV (aax d l)
 | [],d,h=>h
 | c :: l,d,h=>by
  simp only [aax];split
  · exact ah2
  exact ale (b0u h)
def b27 {n:Nat} (hn:n <= 8) {f:Nat -> Nat -> PV}:CoP (.sl (0 + n) 1 false (d8 0 f (fun i j=>[PV.raw (.string ⟨#[97]⟩), .raw (.string ⟨#[98]⟩), .raw (.string ⟨#[99]⟩), .raw (.string ⟨#[100]⟩), .raw (.string ⟨#[101]⟩), .raw (.string ⟨#[102]⟩), .raw (.string ⟨#[103]⟩), .raw (.string ⟨#[104]⟩)].getD (i * 1 + j) .any))) (x9 (ff.take n)):=by
 refine CoP.sl (by simp [ff];omega) (.inl rfl) (fun h=>h) fun i j hi hj=>CoP.of_eq ?_;obtain rfl:j = 0:=by omega
 have hi8:i < n:=by omega
 simp only [d8,b5i,if_false,b83,Nat.mul_one,b73,lf,List.getD,b69,hi8,if_true];have:i < 8:=by omega
 match i,this with
 | 0,_=>rfl
 | 1,_=>rfl
 | 2,_=>rfl
 | 3,_=>rfl
 | 4,_=>rfl
 | 5,_=>rfl
 | 6,_=>rfl
 | 7,_=>rfl
def jr (s:Stt):List Chg:=s.done.flatten ++ s.now
def a7j (s:Stt):DB:=aax [] (jr s)
def b3x (s:Stt) (x:Opn):Chg :=
 let k:=x.kind.toNat % 9
 if k = 0 then { (default:Chg) with kind:=1,name:=a84 x,table:=aqf x }
 else if j2 (a7j s) (a84 x) < 0 then default
 else
  let t:=s3 (a7j s) (a84 x)
  if k = 1 then { (default:Chg) with kind:=2,name:=t.name,row:=ar6 x }
  else if ¬ 0 <= fe t.rows x.id then default
  else if k = 2 then { (default:Chg) with kind:=3,name:=t.name,row:=t.rows.getD (max (fe t.rows x.id) 0).toNat default }
  else { (default:Chg) with kind:=4,name:=t.name,row:=t.rows.getD (max (fe t.rows x.id) 0).toNat default,attr:=x.attr,value:=ofV x.value }
def b3g (s:Stt) (x:Opn):Int :=
 let k:=x.kind.toNat % 9
 if k = 0 then a6e (a7j s) (aqf x)
 else if j2 (a7j s) (a84 x) < 0 then 4
 else
  let t:=s3 (a7j s) (a84 x)
  if k = 1 then ut t (ar6 x)
  else if ¬ 0 <= fe t.rows x.id then 4
  else if k = 2 then 0
  else zx t x.id x.attr (ofV x.value)
structure axy (s:Stt):Prop where
 ld:s.done.flatten.length <= 68719476736
 ln:s.now.length <= 68719476736
 lt:s.done.length <= 68719476736
 lu:s.undone.length <= 68719476736
 ok:ayy (jr s)
structure b4y (x:Opn):Prop where
 lv:x.vals.length <= 68719476736
 lr:x.t.rows.length <= 68719476736
def axy.V {s:Stt} (_:axy s):dbV (a7j s):=ale ah2
end
end
section
open Go.Proofs
def b4p (x:x4) (n:Int):Bool:=decide (¬ (x.rows.length:Int) > n)
def b4r (x:x4) (n:Nat):Tbl:=if x.rows.length > n then T0 else aw6 x (x.attrs.toNat % 6)
end
section
open Go.Proofs
def az9 (n:Int) (ps:List AS) (p m:List Fd):a8 b98 21 [pI n,pP (asl ps),pP (fdl p),pP (fdl m)] (ae [pP (stl (prS n ps p m)),pI (prC n ps p m)]):=by
 refine hpx (nt:=55) Tryz.func21 ?_;refine ej ?_;refine qcx ae9 (a8r n ps p m) ?_;refine w_5 ?_;refine m9 0 ?_;refine m9 1 ?_;refine ej ?_;refine hcn (fun h0=>?_) (fun h0=>?_)
 · refine w_6 ?_;refine hrr ?_;obtain ⟨e1,e2⟩:=ax5 (p:=p) (m:=m) (n:=n) (ps:=ps) (by rw [<- im];assumption);exact f9 rfl rfl (⟨(by rw [e1];exact CoC.one (CoP.sl rfl (.inr rfl) (fun _=>rfl) (fun i j hi _=>absurd hi (b5i i)))),cci (im.trans e2.symm),trivial⟩)
 have hls:lsC n ps p m = 0:=im.symm.trans b8j;obtain ⟨hv,hb,hc,hR⟩:=a6t hls;have hz:=aal hv;have htr:=ads hv hb hc;have hfew:(lsT n ps p m).1.length <= 1300000:=a8h (p:=p) (m:=m) hv hb;refine w_6 ?_;refine af (ι:=Nat) (ka 0 (ka 2 (ka 3 (ka 10 kn)))) km (fun i=>⟨[(14,some (vI i)),(11,some (vP (stl (lsT n ps p m).1)))],[(0,some (.box [.p (.raw (.int .i64 n)), .p (rl ((trL n p m (ai (ak n ps)) (lsT n ps p m).1).getD i default))]))]⟩) (fun i=>i <= (lsT n ps p m).1.length /\ (∀ j,j < i -> ig n ((trL n p m (ai (ak n ps)) (lsT n ps p m).1).getD j default) = false)) (fun i=>(lsT n ps p m).1.length - i) (0) (⟨b5h _,fun j hj=>absurd hj (b5i j)⟩) ⟨⟨zy,⟨_,rfl,(by rw [hR];exact CoR.refl _)⟩,trivial⟩,⟨⟨_,rfl,(by rw [hR,agb];exact CoO.refl _)⟩,trivial⟩⟩ ?_;rintro i ⟨hi,hI⟩;refine w_7 ?_;refine qcx a5d (a1q n hz.1 b8i) ?_;refine qcx a1g (a6k n ((trL n p m (ai (ak n ps)) (lsT n ps p m).1).getD i default) (bh n)) ?_;refine w_2 ?_;refine ag _ rfl (fun r1=>?_) (fun r1=>?_)
 · have h1:=r1;obtain ⟨e1,e2⟩:=ayw hls hi hI r1;refine v_8 ?_;exact by rw [e1,e2];exact ⟨CoC.one (aoy (by rw [b5p];dsimp only [gp,bo];omega) (fun a j=>by first | rfl | (simp;rfl))),CoC.refl _,trivial⟩
 have h1:=r1;have hno:ig n ((trL n p m (ai (ak n ps)) (lsT n ps p m).1).getD i default) = false:=r1;refine w_9 ?_;refine hcd (fun h2=>?_) (fun h2=>?_)
 ·
  obtain ⟨e1,e2⟩:=au8 hls fun j hj=>by
   by_cases e:j = i
   · rw [e];exact hno
   exact hI j b8i
  refine v_5 ?_;exact by rw [e1,e2];exact ⟨CoC.one (CoP.sl rfl (.inr rfl) (fun _=>rfl) (fun i j hi _=>absurd hi (b5i i))),CoC.refl _,trivial⟩
 obtain ⟨hx1,hx2,hx3⟩:=aqr b8i (aik htr (i:=i) b8i);refine df ?_;refine qcx (wgx Tryz.func48) (am8 n ((trL n p m (ai (ak n ps)) (lsT n ps p m).1).getD i default) p m ((lsT n ps p m).1.getD i default) hx1 hb hx2 hx3) ?_;refine a7t ?_;refine lpz (i + 1) ⟨tt,⟨⟨_,rfl,(by rw [a1r b8i];exact CoO.refl _)⟩,trivial⟩⟩ ?_;refine ⟨by omega,fun j hj=>?_⟩;by_cases e:j = i
 · rw [e];exact hno
 exact hI j b8i
def ate (n:Int) (ps:List AS) (p m:List Fd) (sts:List RSt):a8 b98 24 [pI n,pP (asl ps),pP (fdl p),pP (fdl m),pP (an1 sts)] (ae [pB (wt n ps p m sts)]):=by
 refine hpx (nt:=57) Tryz.func24 ?_;refine w_9 ?_;refine qcx ad8 (a8m n ps) ?_;refine w_2 ?_;refine aa rfl rfl (fun r0=>?_) (fun r0=>?_)
 ·
  have h0:=tz2 (d6 r0);(iterate 5 refine k9 (gtf r0) ?_);refine w_7 ?_
  exact hx8 rfl rfl rfl (⟨ccb (by first | exact (akm b8j).symm | exact (amx b8j).symm | (symm;simp_all [wt])),trivial⟩)
 have h0:=tz1 (d5 r0);(iterate 3 refine qy ?_ (hg:=(gff r0)));refine qcx abn (a8z n p m) ?_ (hg:=(gff r0));refine qy ?_ (hg:=(gff r0));refine w_2 ?_;refine ag _ rfl (fun r1=>?_) (fun r1=>?_)
 · have h1:=tz2 (d6 (ab r0 r1));refine v_4 ?_;exact ⟨ccb (by first | exact (akm b8j).symm | exact (amx b8j).symm | (symm;simp_all [wt])),trivial⟩
 have h1:=tz1 (d5 (ab r0 r1));have hv:lvE n ps = 0:=by simp_all
 have hb:bw n p m = 0:=by simp_all
 have hz:=aal hv;refine w_5 ?_;refine qcx (wgx Tryz.func53) (ahq n ps hv) ?_;refine w_3 ?_;refine m9 0 ?_;refine ej ?_;refine af (ι:=Nat × Int × List Rw × Int) (ka 0 (ka 2 (ka 3 (ka 11 (ka 32 (ka 33 kn)))))) km (fun x=>⟨[(12,some (vI x.2.2.2)),(34,some (vI x.1))],[(0,some (.box [.p (.raw (.int .i64 x.2.1)), .p (rl x.2.2.1)]))]⟩) (fun x=>zt n ps p m sts x) (fun x=>sts.length - x.1) ((0,n,(ai (ak n ps)),0)) (zt.start) kk ?_;rintro x hC;have hle:=hC.le;refine cu ?_;refine bv 32 rfl fun hsn=>?_;refine w_4 ?_;refine hcd (fun h2=>?_) (fun h2=>?_)
 ·
  refine w_7 ?_;refine m9 1 ?_;refine w_8 ?_;refine hcn (fun h3=>?_) (fun h3=>?_)
  · refine v_4 ?_;exact ⟨ccb (by rw [abk hv hb];exact (hC.no b8j).symm),trivial⟩
  refine w_6 ?_;refine qcx (wgx Tryz.func48) (ahp x.2.1 x.2.2.1 p m (sts.getD x.1 default).1 (sts.getD x.1 default).2.1 (sts.getD x.1 default).2.2.1 (sts.getD x.1 default).2.2.2) ?_;refine df ?_;refine lpz (x.1 + 1,(zc x.2.1 x.2.2.1 p m (sts.getD x.1 default)).1,(zc x.2.1 x.2.2.1 p m (sts.getD x.1 default)).2.1,(zc x.2.1 x.2.2.1 p m (sts.getD x.1 default)).2.2) ⟨⟨⟨_,rfl,(CoR.refl _)⟩,⟨_,rfl,(coi b8r)⟩,tt⟩,uu⟩ ?_;exact hC.step b8i b8j
 have hend:¬ x.1 < sts.length:=by omega
 refine w_6 ?_;refine aa rfl rfl (fun r4=>?_) (fun r4=>?_)
 ·
  have h4:=tz1 r4;(iterate 2 refine qy ?_ (hg:=(gtt r4)));refine qcx a5d (a1q n hz.1 b8i) ?_ (hg:=(gtt r4));refine qcx a1g (a6k x.2.1 x.2.2.1 (bh n)) ?_ (hg:=(gtt r4));refine w_4 ?_
  exact hx8 rfl rfl rfl (⟨ccb (by rw [abk hv hb];first | exact (hC.no b8j).symm | (refine Eq.trans ?_ (hC.no b8j).symm;simp_all;done) | (refine Eq.trans ?_ (hC.fin hend b8j).symm;first | rfl | (simp_all;done) | (simp_all;rfl))),trivial⟩)
 have h4:=tz2 r4;(iterate 4 refine k9 (gft r4) ?_);refine w_4 ?_
 exact hx8 rfl rfl rfl (⟨ccb (by rw [abk hv hb];first | exact (hC.no b8j).symm | (refine Eq.trans ?_ (hC.no b8j).symm;simp_all;done) | (refine Eq.trans ?_ (hC.fin hend b8j).symm;first | rfl | (simp_all;done) | (simp_all;rfl))),trivial⟩)
def ayc (n:Int) (ps:List AS) (p m:List Fd):a8 b98 27 [pI n,pP (asl ps),pP (fdl p),pP (fdl m)] (ae [(fz n ps p m).pc,pI (lb n ps p m)]):=by
 refine hpx (nt:=88) Tryz.func27 ?_;refine sx7 ?_;refine m9 0 ?_;refine w_8 ?_;refine qcx ae9 (a8r n ps p m) ?_;refine w_5 ?_;refine m9 1 ?_;refine m9 2 ?_;refine ej ?_;refine hcn (fun h0=>?_) (fun h0=>?_)
 · refine w_7 ?_;refine hrr ?_;obtain ⟨e1,e2⟩:=amd (p:=p) (m:=m) (n:=n) (ps:=ps) (by rw [<- im];assumption);exact f9 rfl rfl (⟨(by rw [e2];exact CoC.agg ⟨CoP.refl _,lm,lm,trivial⟩),cci (im.trans e1.symm),trivial⟩)
 have hls:lsC n ps p m = 0:=im.symm.trans b8j;obtain ⟨hv,hb,hc,hR⟩:=a6t hls;have hz:=aal hv;obtain ⟨sts0,lend,he0,_,htk,_⟩:=aex hv hb hc;have htok:tok n (lsT n ps p m).2.1.2 = true:=by rw [he0];exact htk
 obtain ⟨_,_,hl256,hlen⟩:=eu htok;refine w_6 ?_;refine qcx a5d (a1q n hz.1 b8i) ?_;refine qcx a1g (a6k (lcR n ps p m).2.2.1.1 (lcR n ps p m).2.2.1.2 (bh n)) ?_;refine w_2 ?_;refine ag _ rfl (fun r1=>?_) (fun r1=>?_)
 ·
  have h1:=r1;have hf:ig n (lsT n ps p m).2.1.2 = true:=by have hq:=r1;rw [hR] at hq;exact hq
  refine w_6 ?_;refine hrr ?_;obtain ⟨e1,e2⟩:=ajv hls hf;exact f9 rfl rfl (⟨(by rw [e2];exact CoC.agg ⟨CoP.refl _,lm,lm,trivial⟩),cci e1.symm,trivial⟩)
 have h1:=r1;have hf:ig n (lsT n ps p m).2.1.2 = false:=by have hq:=r1;rw [hR] at hq;exact hq
 refine w_4 ?_;refine m9 3 ?_;refine w_9 ?_;refine dx 3 1 30 true 1 9 (lf a4d ff) b8n rfl rfl (CoP.sl rfl (.inr rfl) (fun h=>h) (fun i j hi _=>absurd hi (b5i i))) (.inr rfl) rfl rfl ?_;refine cj (ka 8 (ka 12 (ka 14 (ka 41 kn)))) (kb 0 (kb 2 km)) (fun a=>⟨[(42,some (vI a))],[(3,some (.box [.p (.raw (.string ⟨#[116]⟩)), .ref 30 a, .p (ku (.slice none 0 0))])),(30,some (.arr true 1 9 a (lf a4d ff)))]⟩) n.toNat kk ?_;rintro a ha;refine w_5 ?_;refine hcd (fun h2=>?_) (fun h2=>?_)
 · refine pl ?_;refine m9 4 ?_;refine r9 5 true ?_;refine w_7 ?_;exact lpx (a + 1) ⟨tt,⟨u9,⟨_,rfl,(fj (fun h=>h) (lt1 (CoP.of_eq (congrArg (fun s=>PV.raw (.string s)) (alx b8i)))))⟩,uu⟩⟩
 obtain rfl:a = n.toNat:=by omega
 refine w_3 ?_;refine dz 3 1 rfl rfl rfl rfl rfl ?_;refine w_7 ?_;refine dx 3 2 31 true 2 112 (lf Row.c (l5 (lsT n ps p m).2.1.2)) b8n rfl rfl (CoP.sl rfl (.inr rfl) (fun h=>h) (fun i j hi _=>absurd hi (b5i i))) (.inr rfl) rfl rfl ?_;refine cj (ka 8 (ka 14 kn)) (kb 0 km) (fun i=>⟨[(58,some (vI i)),(56,some (vP (rl (lsT n ps p m).2.1.2))),(57,some (vI (lsT n ps p m).2.1.2.length))],[(3,some (.box [.p (.raw (.string ⟨#[116]⟩)), .p (.sl n.toNat 1 false (lf a4d ff)), .ref 31 i])),(31,some (.arr true 2 112 i (lf Row.c (l5 (lsT n ps p m).2.1.2))))]⟩) ((lsT n ps p m).2.1.2.length) ⟨⟨zy,⟨_,rfl,(by rw [hR];exact CoR.refl _)⟩,⟨_,rfl,(by rw [hR];exact CoR.refl _)⟩,trivial⟩,uu⟩ ?_;rintro i hi;refine w_5 ?_;refine hcd (fun h3=>?_) (fun h3=>?_)
 ·
  refine nk ?_;refine m9 6 ?_;refine df ?_;refine dx 6 1 32 true 3 114 (lf Val.c (dl ((lsT n ps p m).2.1.2.getD i default))) b8n rfl rfl (CoP.sl rfl (.inr rfl) (fun h=>h) (fun i j hi _=>absurd hi (b5i i))) (.inr rfl) rfl rfl ?_;refine cj (ka 8 (ka 14 (ka 18 (ka 56 (ka 57 (ka 58 (ka 66 (ka 67 kn)))))))) (kb 3 (kb 31 (kb 0 km))) (fun k=>⟨[(68,some (vI k))],[(6,some (.box [.p (.raw (.int .i64 ((i:Int) + 1))), .ref 32 k])),(32,some (.arr true 3 114 k (lf Val.c (dl ((lsT n ps p m).2.1.2.getD i default)))))]⟩) (((lsT n ps p m).2.1.2.getD i default).length) kk ?_;rintro k hk;have hrl:=hlen i b8i;refine w_5 ?_;refine hcd (fun h4=>?_) (fun h4=>?_)
  ·
   refine m7 ?_;refine qcx (wgx Tryz.func58) (b11 _) ?_;refine m9 7 ?_;refine r9 8 true ?_;refine w_8 ?_;refine ⟨k + 1, ?_, ?_, ?_⟩
   · show k + 1 <= _;omega
   · first | omega | (dsimp only;omega)
   exact ⟨tt,⟨u9,⟨_,rfl,(fj (fun h=>h) fun j hj=>by
   show CoP _ (Val.c ((dl _).getD k default) j);rw [a58 b8i];revert j
   exact a0n (CoP.refl _) (CoP.refl _) (CoP.refl _))⟩,uu⟩⟩
  obtain rfl:k = ((lsT n ps p m).2.1.2.getD i default).length:=by omega
  refine br ?_;refine dz 6 1 rfl rfl rfl rfl rfl ?_;refine w_4 ?_;refine m9 9 ?_;refine r9 10 true ?_;refine w_7 ?_;refine ⟨i + 1, ?_, ?_, ?_⟩
  · show i + 1 <= _;omega
  · first | omega | (dsimp only;omega)
  exact ⟨tt,⟨u9,⟨_,rfl,(fj (fun h=>h) fun j hj=>by
  show CoP _ (Row.c ((l5 (lsT n ps p m).2.1.2).getD i default) j);rw [qz b8i];revert j
  exact lt2 (CoP.refl _) (CoP.sl jl (.inl rfl) (fun h=>h) fun _ _ _ _=>CoP.refl _))⟩,uu⟩⟩
 obtain rfl:i = (lsT n ps p m).2.1.2.length:=by omega
 refine w_2 ?_;refine dz 3 2 rfl rfl rfl rfl rfl ?_;refine w_5 ?_;refine hrr ?_;obtain ⟨e1,e2⟩:=abr hls hf;exact f9 rfl rfl (⟨(by rw [e2];exact CoC.agg ⟨CoP.refl _,a1v (by show n.toNat <= 8;omega),CoP.sl qn (.inl rfl) (fun h=>h) (fun _ _ _ _=>CoP.refl _),trivial⟩),cci e1.symm,trivial⟩)
end
section
open Go.Proofs
def b0k:a8 b98 17 [pI 3,pP (asl [3,6]),pP (fdl [⟨2,4⟩]),pP (fdl [])] (ae [pB true,pI 0]):=by
 have h:=b18 3 [3,6] [⟨2,4⟩] [];rw [aqq.1,aqq.2] at h;exact h
def azo:a8 b98 21 [pI 3,pP (asl [3,6]),pP (fdl [⟨2,4⟩]),pP (fdl [])] (ae [pP (stl [(false,0,0,1)]),pI 0]):=by
 have h:=az9 3 [3,6] [⟨2,4⟩] [];rw [aqg.1,aqg.2] at h;exact h
def b00:a8 b98 24 [pI 3,pP (asl [3,6]),pP (fdl [⟨2,4⟩]),pP (fdl []),pP (an1 [(false,0,0,1)])] (ae [pB true]):=by
 have h:=ate 3 [3,6] [⟨2,4⟩] [] [(false,0,0,1)];rw [azq] at h;exact h
def azn:a8 b98 27 [pI 3,pP (asl [3,6]),pP (fdl []),pP (fdl [])] (ae [awT.pc,pI 0]):=by
 have h:=ayc 3 [3,6] [] [];rw [aqz.1,aqz.2] at h;exact h
def b2d:a8 b98 30 [awT.pc,pP (asl [3,6])] (ae [(jp awT [3,6]).pc,pI 0]):=by
 have h:=ah5 awT [3,6];rw [ar3] at h;exact h
def a88 {cl:Bool} {x:Fd} {f:Nat -> Nat -> PV} (h0:CoP (f 0 0) (Fd.c x 0)) (h1:CoP (f 0 1) (Fd.c x 1)):CoP (.sl 1 2 cl f) (fdl [x]):=as2 (lt2 h0 h1)
def as6 (J:Tbl) (hJ:J.rows.length = 4) (hc:a8 b98 30 [awT.pc,pP (asl [3,6])] (ae [J.pc,pI 0])):a8 b98 11 [] (ae [pB true]):=by
 refine hpx (nt:=77) Tryz.func11 ?_;refine w_6 ?_;refine m9 0 ?_;refine qy ?_;refine m9 1 ?_;refine w_4 ?_;refine bm 1 rfl rfl rfl ?_;refine bm 2 rfl rfl rfl ?_;refine w_3 ?_;refine rc rfl rfl rfl rfl rfl rfl (wgx Tryz.func17) (b0k) (⟨CoC.refl _,CoC.one (xf (CoP.refl _) (CoP.refl _)),CoC.one (a88 (CoP.refl _) (CoP.refl _)),a5t,trivial⟩) rfl rfl ?_;refine df ?_;refine rc rfl rfl rfl rfl rfl rfl (wgx Tryz.func21) (azo) (⟨CoC.refl _,CoC.one (xf (CoP.refl _) (CoP.refl _)),CoC.one (a88 (CoP.refl _) (CoP.refl _)),a5t,trivial⟩) rfl rfl ?_;refine w_9 ?_;refine rc rfl rfl rfl rfl rfl rfl (wgx Tryz.func27) (azn) (⟨CoC.refl _,CoC.one (xf (CoP.refl _) (CoP.refl _)),a5t,a5t,trivial⟩) rfl rfl ?_;refine w_3 ?_;refine m9 2 ?_;refine w_7 ?_;refine rc rfl rfl rfl rfl rfl rfl (wgx Tryz.func30) (hc) (⟨CoC.refl _,CoC.one (xf (CoP.refl _) (CoP.refl _)),trivial⟩) rfl rfl ?_;refine w_3 ?_;refine m9 3 ?_;refine aig ?_;refine rc rfl rfl rfl rfl rfl rfl (wgx Tryz.func24) (b00) (⟨CoC.refl _,CoC.one (xf (CoP.refl _) (CoP.refl _)),CoC.one (a88 (CoP.refl _) (CoP.refl _)),a5t,CoC.one au5,trivial⟩) rfl rfl ?_;refine aig ?_;exact hx8 rfl rfl rfl (⟨ccb (by first | rfl | (show decide ((J.rows.length:Int) = 4) = true;rw [hJ];rfl)),trivial⟩)
def abd:a8 b98 11 [] (ae [pB true]):=as6 (jp awT [3,6]) b0f b2d
end
section
open Go.Proofs
def agq {n:Int} {p m:List Fd}:∀ {sts:List St} {l lend:List Rw},TrZ n p m lend l sts -> (trL n p m l sts).getD sts.length default = lend
 | [],l,lend,h=>h
 | s :: r,l,lend,h=>by
  obtain ⟨_,_,l',e,_,h⟩:=h;have ih:=agq h;unfold trL;rw [e];simpa using ih
def aoj {n:Int} {ps:List AS} {p m:List Fd} (h:lsC n ps p m = 0):(rcR n ps p m).2.1.length = (lsT n ps p m).1.length + 1 /\ ∀ k,k = (lsT n ps p m).1.length -> (rcR n ps p m).2.1.getD k default = (n,(lsT n ps p m).2.1.2):=by
 obtain ⟨hv,hb,hc,_⟩:=a6t h;rw [aav h];refine ⟨u7,fun k hk=>?_⟩;subst hk;show (j4 n p m (ai (ak n ps)) (lsT n ps p m).1).getD (lsT n ps p m).1.length default = _;rw [y7 (b5g _),agq (ads hv hb hc)]
def b0m (N:Nat) (ps:List AS) (p m:List Fd):a8 b98 28 [pI (N:Int),pP (asl ps),pP (fdl p),pP (fdl m)] (ae [(fz (N:Int) ps p m).pc,pI (lb (N:Int) ps p m)]):=by
 refine hpx (nt:=84) Tryz.func28 ?_;refine sx7 ?_;refine m9 0 ?_;refine w_8 ?_;refine qcx (wgx Tryz.func49) (av4 (N:Int) ps p m) ?_;refine v6 ?_;refine hcn (fun h0=>?_) (fun h0=>?_)
 · refine w_7 ?_;refine hrr ?_;obtain ⟨e1,e2⟩:=amd (p:=p) (m:=m) (n:=(N:Int)) (ps:=ps) (by rw [<- ug];assumption);exact f9 rfl rfl (⟨(by rw [e2];exact CoC.agg ⟨CoP.refl _,CoP.sl rfl (.inr rfl) (fun _=>rfl) (fun i j hi _=>absurd hi (b5i i)),CoP.sl rfl (.inr rfl) (fun _=>rfl) (fun i j hi _=>absurd hi (b5i i)),trivial⟩),cci (ug.trans e1.symm),trivial⟩)
 have hls:lsC (N:Int) ps p m = 0:=ug.symm.trans b8j;obtain ⟨hv,hb,hc,_⟩:=a6t hls;have hz:=aal hv;obtain ⟨sts0,lend,he0,_,htk,_⟩:=aex hv hb hc;have htok:tok (N:Int) (lsT (N:Int) ps p m).2.1.2 = true:=by rw [he0];exact htk
 obtain ⟨_,_,hl256,hlen⟩:=eu htok;obtain ⟨hrl,hrg⟩:=aoj hls;have hfew:(lsT (N:Int) ps p m).1.length <= 1300000:=a8h (p:=p) (m:=m) hv hb;have hN8:N <= 8:=by omega
 refine w_9 ?_;refine m9 1 ?_;refine w_2 ?_;refine akx 1 (.box [.p (.raw (.int .i64 (N:Int))), .p (rl (lsT (N:Int) ps p m).2.1.2)]) rfl (by have e:=hrg _ (show ((((rcR (N:Int) ps p m).2.1.length:Nat):Int) - 1).toNat = _ by omega);exact ⟨CoP.of_eq (by show tbC ((rcR (N:Int) ps p m).2.1.getD _ default) 0 = _;rw [e];rfl),CoP.of_eq (by show tbC ((rcR (N:Int) ps p m).2.1.getD _ default) 1 = _;rw [e];rfl),trivial⟩) ?_;refine w_5 ?_;refine qcx (wgx Tryz.func51) (ay9 (N:Int) b8i) ?_;refine qcx ac7 (aeo (N:Int) (lsT (N:Int) ps p m).2.1.2 (bh (N:Int))) ?_;refine w_2 ?_;refine ag _ rfl (fun r1=>?_) (fun r1=>?_)
 · have h1:=r1;have hf:ig (N:Int) (lsT (N:Int) ps p m).2.1.2 = true:=r1;refine w_6 ?_;refine hrr ?_;obtain ⟨e1,e2⟩:=ajv hls hf;exact f9 rfl rfl (⟨(by rw [e2];exact CoC.agg ⟨CoP.refl _,CoP.sl rfl (.inr rfl) (fun _=>rfl) (fun i j hi _=>absurd hi (b5i i)),CoP.sl rfl (.inr rfl) (fun _=>rfl) (fun i j hi _=>absurd hi (b5i i)),trivial⟩),cci e1.symm,trivial⟩)
 have h1:=r1;have hf:ig (N:Int) (lsT (N:Int) ps p m).2.1.2 = false:=r1;refine w_3 ?_;refine m9 2 ?_;refine m9 3 ?_;refine qy ?_;refine anr rfl rfl rfl rfl rfl ?_;refine r9 4 true ?_;refine qy ?_;refine m9 5 ?_;refine w_2 ?_;refine dz 5 1 rfl rfl rfl rfl rfl ?_;refine w_6 ?_;refine dx 5 2 100 true 2 112 (lf Row.c (l5 (lsT (N:Int) ps p m).2.1.2)) b8n rfl rfl (CoP.sl rfl (.inr rfl) (fun h=>h) (fun i j hi _=>absurd hi (b5i i))) (.inr rfl) rfl rfl ?_;refine cj (ka 0 (ka 8 (ka 13 (ka 14 kn)))) (kb 0 (kb 1 km)) (fun i=>⟨[(15,some (vI i))],[(5,some (.box [.p (.raw (.string ⟨#[116]⟩)), .p (x9 (ff.take N)), .ref 100 i])),(100,some (.arr true 2 112 i (lf Row.c (l5 (lsT (N:Int) ps p m).2.1.2))))]⟩) ((lsT (N:Int) ps p m).2.1.2.length) ⟨tt,⟨⟨_,rfl,⟨CoH.refl _,b27 hN8,CoH.refl _,trivial⟩⟩,uu⟩⟩ ?_;rintro i hi;refine w_9 ?_;refine hcd (fun h2=>?_) (fun h2=>?_)
 ·
  refine w_8 ?_;refine m9 6 ?_;refine w_8 ?_;have hrw:=hlen i b8i;refine dx 6 1 101 true 3 114 (lf Val.c (dl ((lsT (N:Int) ps p m).2.1.2.getD i default))) b8n rfl rfl (CoP.sl rfl (.inr rfl) (fun h=>h) (fun i j hi _=>absurd hi (b5i i))) (.inr rfl) rfl rfl ?_;refine cj (ka 0 (ka 8 (ka 13 (ka 14 (ka 15 (ka 16 kn)))))) (kb 5 (kb 100 (kb 0 (kb 1 km)))) (fun k=>⟨[(17,some (vI k))],[(6,some (.box [.p (.raw (.int .i64 ((i:Int) + 1))), .ref 101 k])),(101,some (.arr true 3 114 k (lf Val.c (dl ((lsT (N:Int) ps p m).2.1.2.getD i default)))))]⟩) N kk ?_;rintro k hk;refine w_7 ?_;refine hcd (fun h3=>?_) (fun h3=>?_)
  ·
   refine o4 ?_;refine rq rfl rfl rfl rfl rfl ?_ (hp:=⟨rfl,by omega,by simp only [b5t];omega⟩);refine w_2 ?_;refine m9 7 ?_;refine r9 8 true ?_;refine w_9 ?_;refine ⟨k + 1, ?_, ?_, ?_⟩
   · show k + 1 <= _
     omega
   · first | omega | (dsimp only;omega)
   exact ⟨tt,⟨u9,⟨_,rfl,(fj (fun h=>h) fun j hj=>by
   show CoP _ (Val.c ((dl _).getD k default) j);rw [a58 b8i];revert j
   exact a0n (CoP.refl _) (CoP.refl _) (CoP.refl _))⟩,uu⟩⟩
  obtain rfl:k = N:=by omega
  refine br ?_;refine dz 6 1 rfl rfl rfl rfl rfl ?_;refine w_4 ?_;refine m9 9 ?_;refine r9 10 true ?_;refine w_8 ?_;refine ⟨i + 1, ?_, ?_, ?_⟩
  · show i + 1 <= _
    omega
  · first | omega | (dsimp only;omega)
  exact ⟨tt,⟨u9,⟨_,rfl,(fj (fun h=>h) fun j hj=>by
  show CoP _ (Row.c ((l5 _).getD i default) j);rw [qz b8i];revert j
  exact lt2 (CoP.refl _) (CoP.sl (jl.trans (by have:=hlen i b8i;omega)) (.inl rfl) (fun h=>h) fun _ _ _ _=>CoP.refl _))⟩,uu⟩⟩
 obtain rfl:i = (lsT (N:Int) ps p m).2.1.2.length:=by omega
 refine w_2 ?_;refine dz 5 2 rfl rfl rfl rfl rfl ?_;refine w_5 ?_;refine hrr ?_;obtain ⟨e1,e2⟩:=abr hls hf;exact f9 rfl rfl (⟨(by rw [e2];exact CoC.agg ⟨CoP.refl _,CoP.refl _,CoP.sl qn (.inl rfl) (fun h=>h) (fun _ _ _ _=>CoP.refl _),trivial⟩),cci e1.symm,trivial⟩)
end
section
def w64 (n:Int):IntKind.wrap .u64 n = n % 18446744073709551616:=by simp [IntKind.wrap,IntKind.bits,IntKind.signed]
def w8 (n:Int):IntKind.wrap .u8 n = n % 256:=by simp [IntKind.wrap,IntKind.bits,IntKind.signed]
def a4e (n:Int):Prop:=-9223372036854775808 <= n /\ n <= 9223372036854775807
def aic (n:Int):uN n = ((BitVec.ofInt 64 (n % 18446744073709551616) ^^^ BitVec.ofInt 64 9223372036854775808).toNat:Int):=by
 unfold uN it;rw [w64,w64];show ((BitVec.ofInt 64 (n % 18446744073709551616) ^^^ BitVec.ofInt 64 9223372036854775808).toNat:Int) % 18446744073709551616 = _;have:=(BitVec.ofInt 64 (n % 18446744073709551616) ^^^ BitVec.ofInt 64 9223372036854775808).isLt;omega
def aqn (n:Int):0 <= uN n /\ uN n < 18446744073709551616:=by
 rw [aic];have:=(BitVec.ofInt 64 (n % 18446744073709551616) ^^^ BitVec.ofInt 64 9223372036854775808).isLt;omega
def ayf {n m:Int} (hn:a4e n) (hm:a4e m) (h:uN n = uN m):n = m:=by
 rw [aic,aic] at h;have h1:=b7v (Int.ofNat.inj h)
 have h2:BitVec.ofInt 64 (n % 18446744073709551616) = BitVec.ofInt 64 (m % 18446744073709551616):=by
  have:=congrArg (· ^^^ BitVec.ofInt 64 9223372036854775808) h1;simpa [BitVec.xor_assoc] using this
 have h3:=congrArg BitVec.toNat h2;rw [BitVec.toNat_ofInt,BitVec.toNat_ofInt] at h3;obtain ⟨a1,a2⟩:=hn;obtain ⟨b1,b2⟩:=hm;have e1:(n % 18446744073709551616) % ((2 ^ 64:Nat):Int) = n % 18446744073709551616:=by omega
 have e2:(m % 18446744073709551616) % ((2 ^ 64:Nat):Int) = m % 18446744073709551616:=by omega
 rw [e1,e2] at h3;omega
def aml (u:Int) (s:Nat) (hs:s <= 64):byK u s = u / (2 ^ s) % 256:=by
 unfold byK;rw [w8,b6p hs];congr 1;rw [Int.fdiv_eq_ediv_of_nonneg _ (Int.pow_nonneg b8n)]
def aec {n m:Int} (hn:a4e n) (hm:a4e m) (h:su n = su m):n = m:=by
 refine ayf hn hm ?_;have hu:=aqn n;have hv:=aqn m;unfold su at h;generalize uN n = u at *;generalize uN m = v at *
 have hb:∀ i,i < 8 -> u / 2 ^ (56 - 8 * i) % 256 = v / 2 ^ (56 - 8 * i) % 256:=fun i hi=>by
  have h1:=congrArg (fun l=>l.getD i 0) h;simp only [List.getD,b5s,b6d hi,b63,b6g] at h1;rw [aml _ _ b8i,aml _ _ b8i] at h1;exact h1
 have h0:=hb 0 b8i;have h1:=hb 1 b8i;have h2:=hb 2 b8i;have h3:=hb 3 b8i;have h4:=hb 4 b8i;have h5:=hb 5 b8i;have h6:=hb 6 b8i;have h7:=hb 7 b8i;simp only [Nat.mul_zero,b83,Nat.mul_one,Nat.reduceMul,Nat.reduceSub,Int.reducePow,Int.pow_zero,Int.ediv_one] at h0 h1 h2 h3 h4 h5 h6 h7;clear hb h hn hm;have e0:u / 72057594037927936 = v / 72057594037927936:=by omega
 have e1:u / 281474976710656 = v / 281474976710656:=by omega
 have e2:u / 1099511627776 = v / 1099511627776:=by omega
 have e3:u / 4294967296 = v / 4294967296:=by omega
 have e4:u / 16777216 = v / 16777216:=by omega
 have e5:u / 65536 = v / 65536:=by omega
 have e6:u / 256 = v / 256:=by omega
 omega
def b8 (l:List Int):List UInt8:=l.map fun n=>UInt8.ofNat n.toNat
def af1:∀ {a b:List UInt8} {X Y:List Int},lh a ++ (0 :: 1 :: X) = lh b ++ (0 :: 1 :: Y) -> a = b /\ X = Y
 | [],[],X,Y,h=>by
  simp [lh] at h;exact ⟨rfl,h⟩
 | [],y :: b,X,Y,h=>by
  exfalso;simp only [lh,List.flatMap_nil,b7y,b6u] at h;unfold ww at h;split at h
  · simp at h
  rename_i hy;simp at h;have:y.toNat = 0:=by omega
  exact hy (UInt8.toNat_inj.1 this)
 | x :: a,[],X,Y,h=>by
  exfalso;simp only [lh,List.flatMap_nil,b7y,b6u] at h;unfold ww at h;split at h
  · simp at h
  rename_i hy;simp at h;have:x.toNat = 0:=by omega
  exact hy (UInt8.toNat_inj.1 this)
 | x :: a,y :: b,X,Y,h=>by
  have e1:∀ (z:UInt8) (l:List UInt8) (W:List Int),lh (z :: l) ++ W = ww z ++ (lh l ++ W):=fun z l W=>by simp [lh]
  rw [e1,e1] at h
  have key:x = y /\ lh a ++ (0 :: 1 :: X) = lh b ++ (0 :: 1 :: Y):=by
   unfold ww at h;split at h <;> split at h
   · rename_i h1 h2
     refine ⟨h1.trans h2.symm, ?_⟩;simpa using h
   · rename_i h1 h2
     exfalso;simp at h;exact h2 (UInt8.toNat_inj.1 (by have:=h.1;show y.toNat = 0;omega))
   · rename_i h1 h2
     exfalso;simp at h;exact h1 (UInt8.toNat_inj.1 (by have:=h.1;show x.toNat = 0;omega))
   rename_i h1 h2;simp at h;exact ⟨UInt8.toNat_inj.1 b8i,by simpa using h.2⟩
  obtain ⟨rfl,h2⟩:=key;obtain ⟨rfl,h3⟩:=af1 h2;exact ⟨rfl,h3⟩
def li (v:Val):Prop:=bj v = true /\ a4e v.num
def a68 {v:Val} (h:bj v = true):v.kind = 0 \/ v.kind = 1 \/ v.kind = 2 \/ v.kind = 3:=by
 unfold bj at h;split at h
 · exact .inl b8j
 split at h
 · exact .inr (.inl b8j)
 split at h
 · exact .inr (.inr (.inl b8j))
 simp only [b5j,decide_eq_true_eq] at h;exact .inr (.inr (.inr h.1.1))
def a6q {a b:Val} (h1:a.kind = b.kind) (h2:a.num = b.num) (h3:a.str = b.str):a = b:=by
 obtain ⟨a1,a2,a3⟩:=a;obtain ⟨b1,b2,b3⟩:=b;simp only at h1 h2 h3;subst h1 h2 h3;rfl
def b0q {a b:ByteArray} (h:bl a = bl b):a = b:=by
 obtain ⟨⟨a⟩⟩:=a;obtain ⟨⟨b⟩⟩:=b;have h:a = b:=h;subst h;rfl
def aot {v w:Val} (hv:li v) (hw:li w) {X Y:List Int} (h:jz v ++ X = jz w ++ Y):v = w /\ X = Y:=by
 obtain ⟨hv,nv⟩:=hv;obtain ⟨hw,nw⟩:=hw;have kv:=a68 hv;have kw:=a68 hw;unfold jz at h;rw [b6x,b6x,b7l] at h;obtain ⟨h1,h2⟩:=h;rw [w8,w8] at h1;have hk:v.kind = w.kind:=by omega
 clear h1;unfold bj at hv hw;rw [<- hk] at h2 hw kw
 rcases kv with e | e | e | e <;> rw [e] at h2 hv hw <;> simp only [Int.reduceEq,if_true,if_false,or_true,true_or,or_false,false_or,or_self,b6u,b5j,decide_eq_true_eq,if_pos,true_and,decide_true,ite_true,ite_false] at h2 hv hw
 · exact ⟨a6q hk (hv.1.trans hw.1.symm) (hv.2.trans hw.2.symm),h2⟩
 · obtain ⟨h3,h4⟩:=List.append_inj h2 (by rw [un,un])
   exact ⟨a6q hk (aec nv nw h3) (hv.trans hw.symm),h4⟩
 · rw [b6l,b6l] at h2
   obtain ⟨h3,h4⟩:=af1 h2;exact ⟨a6q hk (hv.1.trans hw.1.symm) (b0q h3),h4⟩
 obtain ⟨h3,h4⟩:=List.append_inj h2 (by rw [un,un]);exact ⟨a6q hk (aec nv nw h3) (hv.2.trans hw.2.symm),h4⟩
def byR (l:List Int):Prop:=∀ x ∈ l,0 <= x /\ x < 256
def amq:∀ {a b:List Int},byR a -> byR b -> b8 a = b8 b -> a = b
 | [],[],_,_,_=>rfl
 | [],_ :: _,_,_,h=>by simp [b8] at h
 | _ :: _,[],_,_,h=>by simp [b8] at h
 | x :: a,y :: b,ha,hb,h=>by
  simp only [b8,b71,b7l] at h;have h1:=ha x b8l;have h2:=hb y b8l;have h3:=congrArg UInt8.toNat h.1;simp only [UInt8.toNat_ofNat'] at h3;have e:x = y:=by omega
  rw [e,amq (fun z hz=>ha z (b65 _ hz)) (fun z hz=>hb z (b65 _ hz)) h.2]
def aul {a b:List Int} (ha:byR a) (hb:byR b):byR (a ++ b):=fun x hx=>by
 rcases b60.1 hx with h | h
 · exact ha x h
 exact hb x h
def asi (v:Val):byR (jz v):=by
 have h8:∀ n:Int,0 <= IntKind.wrap .u8 n /\ IntKind.wrap .u8 n < 256:=fun n=>by rw [w8];omega
 unfold jz;intro x hx
 rcases b5k.1 hx with rfl | hx
 · exact h8 _
 split at hx
 · unfold su at hx
   obtain ⟨i,_,rfl⟩:=b5w.1 hx;exact h8 _
 split at hx
 · rcases b60.1 hx with h | h
   · unfold lh at h
     obtain ⟨z,_,h⟩:=b8h.1 h;unfold ww at h;split at h
     · simp at h;omega
     simp at h;have:=z.toNat_lt;omega
   simp at h;omega
 cases hx
def uh (s:AS):Nat -> List Val -> List Int
 | _,[]=>[]
 | a,v :: vs=>if s.getLsbD a = true then jz v ++ uh s (a + 1) vs else uh s (a + 1) vs
section
variable {s:AS}
def a7x:∀ {l:List Val} {a:Nat},byR (uh s a l)
 | [],_=>fun x hx=>by cases hx
 | v :: l,a=>by
  have h:byR (uh s (a + 1) l):=a7x;unfold uh;split
  · exact aul (asi v) h
  exact h
def a7c:∀ {l:List Val} {a:Nat},(∀ v ∈ l,bj v = true) -> bl (iu s a l) = b8 (uh s a l)
 | [],_,_=>rfl
 | v :: l,a,h=>by
  have ih:bl (iu s (a + 1) l) = b8 (uh s (a + 1) l):=a7c fun x hx=>h x (b65 _ hx);unfold iu uh;split
  · rw [ah4 (h v b8l)]
    show (strOfNums (jz v) ++ iu s (a + 1) l).data.toList = _;rw [ByteArray.data_append,Array.toList_append];show b8 (jz v) ++ bl (iu s (a + 1) l) = _;rw [ih];unfold b8;rw [List.map_append]
  exact ih
def a4r:∀ {l m:List Val} {a:Nat},l.length = m.length -> a + l.length <= 32 -> (∀ v ∈ l,li v) -> (∀ v ∈ m,li v) -> uh s a l = uh s a m -> gi s a l = gi s a m
 | [],[],_,_,_,_,_,_=>rfl
 | [],_ :: _,_,h,_,_,_,_=>by simp at h
 | _ :: _,[],_,h,_,_,_,_=>by simp at h
 | v :: l,w :: m,a,hl,ha,h1,h2,h=>by
  have hl2:l.length = m.length:=by simpa using hl
  have ha2:a + (l.length + 1) <= 32:=ha;unfold uh at h;unfold gi;rw [ef b8i];split at h
  · rename_i hs
    rw [if_pos hs,if_pos hs];obtain ⟨rfl,h3⟩:=aot (h1 v b8l) (h2 w b8l) h;have h4:gi s (a + 1) l = gi s (a + 1) m:=a4r hl2 b8i (fun x hx=>h1 x (b65 _ hx)) (fun x hx=>h2 x (b65 _ hx)) h3;rw [h4]
  rename_i hs;rw [if_neg hs,if_neg hs];exact a4r hl2 b8i (fun x hx=>h1 x (b65 _ hx)) (fun x hx=>h2 x (b65 _ hx)) h
def xd:∀ {l m:List Val} {a:Nat},l.length = m.length -> a + l.length <= 32 -> gi s a l = gi s a m -> iu s a l = iu s a m
 | [],[],_,_,_,_=>rfl
 | [],_ :: _,_,h,_,_=>by simp at h
 | _ :: _,[],_,h,_,_=>by simp at h
 | v :: l,w :: m,a,hl,ha,h=>by
  have hl:l.length = m.length:=by simpa using hl
  have ha:a + (l.length + 1) <= 32:=ha;unfold iu;unfold gi at h;rw [ef b8i] at h;split at h
  · rename_i hs
    rw [b7l] at h;rw [if_pos hs,if_pos hs,h.1,xd hl b8i h.2]
  rename_i hs;rw [if_neg hs,if_neg hs];exact xd hl b8i h
def acs {l m:List Val} (hl:l.length = m.length) (h32:l.length <= 32) (h1:∀ v ∈ l,li v) (h2:∀ v ∈ m,li v):fp l s = fp m s <-> sel l s = sel m s:=by
 constructor
 · intro h
   refine a4r hl b8i h1 h2 (amq a7x a7x ?_);rw [<- a7c fun v hv=>(h1 v hv).1,<- a7c fun v hv=>(h2 v hv).1];exact congrArg bl h
 exact xd hl b8i
end
end
end Go.Hx
