/- A part of the proof: Jw4 Jo2 Jw6 Jb1 Bz6 Ch15 Bz7 Bz8 Bz9 Y12 Jw7 Jw8 Jw9 Jr2. -/
import Derived.Test.YteklilhbjjofbaaGreatDoorLb34
set_option linter.all false
set_option maxRecDepth 100000
set_option maxHeartbeats 1000000
namespace Go.Hx
section
open Go.Proofs
def asd (t:Tbl) (ps:List AS):a8 b62 30 [t.pc,pP (asl ps)] (ah [(a1a t ps).pc,pI (lz t ps)]):=by
 refine hpx (nt:=182) Tryz.func30 ?_;refine sx7 ?_;refine m9 0 ?_;refine m9 1 ?_;refine w_6 ?_;refine qcx (wgx Tryz.func61) (c88 t) ?_;refine w_7 ?_;refine hcn (fun h0=>?_) (fun h0=>?_)
 · refine w_7 ?_;refine hrr ?_;have he:=arh (ps:=ps) (by assumption:¬ cg t = 0);exact f9 rfl rfl (⟨(by rw [a64 he b5d];exact CoC.agg ⟨CoP.refl _,kg,kg,trivial⟩),cci he.symm,trivial⟩)
 have h0:cg t = 0:=by assumption
 have ht:=afi.1 h0;have hna:=ht.na;have hnr:=ht.nr;have hw:∀ i,i < t.rows.length -> (t.rows.getD i default).vals.length = t.attrs.length:=fun i hi=>ht.width hi;have hw':∀ i:Nat,i < t.rows.length -> (t.rows.getD ((i:Int)).toNat default).vals.length = t.attrs.length:=fun i hi=>ht.width hi;refine mj ?_;refine qcx a9u (a78 t.attrs.length ps) ?_;refine w_7 ?_;refine hcn (fun h1=>?_) (fun h1=>?_)
 · refine w_7 ?_;refine hrr ?_;have he:=ar3 h0 (by assumption:¬ lvE t.attrs.length ps = 0);exact f9 rfl rfl (⟨(by rw [a64 he b5d];exact CoC.agg ⟨CoP.refl _,kg,kg,trivial⟩),cci he.symm,trivial⟩)
 have hv:lvE t.attrs.length ps = 0:=by assumption
 have hps:=asc hv;have hp64:=aqd hv;refine w_5 ?_;refine m9 2 ?_;refine qy ?_;refine m9 3 ?_;refine w_9 ?_;refine ce (ka 1 (ka 2 (ka 4 (ka 7 (ka 9 (ka 43 kn)))))) (kb 0 (kb 1 (kb 3 km))) (fun a=>⟨[(44,some (vI a))],[(2,some (.arr true 1 110 t.attrs.length (tc t.rows a)))]⟩) t.attrs.length ⟨tt,⟨⟨_,rfl,(ak3 rfl fun _=>ajr)⟩,trivial⟩⟩ ?_;rintro a ha;refine w_5 ?_;refine hcd (fun h2=>?_) (fun h2=>?_)
 ·
  refine dm ?_;refine a8p 2 a 30 true 3 114 (lf Val.c (nu t.rows a)) b5i rfl b5c asa (CoP.sl rfl (.inr rfl) (fun h=>h) (fun i j hi _=>absurd hi (b2c i))) (.inr rfl) rfl rfl ?_;refine w_7 ?_;refine ce (ka 1 (ka 2 (ka 4 (ka 7 (ka 9 (ka 10 (ka 43 (ka 44 (ka 48 (ka 49 kn)))))))))) (kb 0 (kb 1 (kb 3 km))) (fun i=>⟨[(50,some (vI i))],[(2,some (.arrh 1 110 t.attrs.length [30] (f7 a (.ref 30 i) (tc t.rows a)))),(30,some (.arr true 3 114 i (lf Val.c (nu t.rows a))))]⟩) t.rows.length kk ?_;rintro i hi;refine w_5 ?_;refine hcd (fun h3=>?_) (fun h3=>?_)
  · refine w_7 ?_;refine m9 4 ?_;refine xr ?_;refine rq (out:=Out.mk _ (.v (.one (.ref 30 i)))) rfl rfl rfl (congrArg (fun x=>some (Out.mk _ (.v (.one x)))) xv) rfl ?_;refine w_3 ?_;refine rq rfl rfl rfl rfl rfl ?_ (hp:=⟨rfl,by omega,by rw [hw' i b5c];omega⟩);refine qy ?_;refine m9 5 ?_;refine r9 6 true ?_;refine w_8 ?_;exact lpx (i + 1) ⟨tt,⟨⟨_,rfl,(adi rfl)⟩,⟨_,rfl,(akv b5c (aa7 (CoP.refl _) (CoP.refl _) (CoP.refl _)))⟩,uu⟩⟩
  obtain rfl:i = t.rows.length:=by omega
  refine w_9 ?_;refine rq (out:=Out.mk _ (.v (.one (.ref 30 t.rows.length)))) rfl rfl rfl (congrArg (fun x=>some (Out.mk _ (.v (.one x)))) xv) rfl ?_;refine fl rfl rfl rfl rfl rfl rfl (wgx Tryz.func62) (auh 30 (nu t.rows a) (by rw [xf];omega) _) (⟨congrArg (HV.ref 30) xf.symm,CoP.refl _,trivial⟩) ⟨⟨_,rfl,apc (fun h=>h) xf.symm⟩,trivial⟩ rfl rfl ?_;refine mj ?_;refine rq (out:=Out.mk _ (.v (.one (.ref 30 t.rows.length)))) rfl rfl rfl (congrArg (fun x=>some (Out.mk _ (.v (.one x)))) xv) rfl ?_;refine fl rfl rfl rfl rfl rfl rfl (wgx Tryz.func64) ((auy (a2n iq (nu t.rows a))).swap 900 30) (⟨congrArg (HV.ref 30) (by rw [acx,xf]),trivial⟩) ⟨⟨_,rfl,co_encL' (fun h=>h) (by rw [acx])⟩,trivial⟩ rfl rfl ?_;refine w_8 ?_;exact lpx (a + 1) ⟨tt,⟨⟨_,rfl,(acn rfl ake apj)⟩,uu⟩⟩
 obtain rfl:a = t.attrs.length:=by omega
 refine w_3 ?_;refine er 3 2 31 true 1 127 (lf (lvC t.rows t.attrs.length) ps) b5i rfl rfl (CoP.sl rfl (.inr rfl) (fun h=>h) (fun i j hi _=>absurd hi (b2c i))) (.inr rfl) rfl rfl ?_;refine w_6 ?_;refine ce (ka 2 (ka 4 (ka 7 (ka 9 (ka 98 (ka 99 kn)))))) (kb 2 (kb 0 (kb 1 km))) (fun p=>⟨[(100,some (vI p))],[(3,some (.box [.p (asl ps), .ref 2 t.attrs.length, .ref 31 p, .p (jf (.slice none 0 0))])),(31,some (.arr true 1 127 p (lf (lvC t.rows t.attrs.length) ps)))]⟩) ps.length kk ?_;rintro p hp;refine c7 ?_;refine ca 98 rfl fun hpn=>?_;refine w_4 ?_;refine hcd (fun h4=>?_) (fun h4=>?_)
 ·
  refine mj ?_;refine rm 7 rfl rfl rfl rfl rfl rfl ?_ (hp:=⟨by omega,by omega,by omega,by show (8:Int) * _ <= _;omega⟩);refine dm ?_;refine ce (ka 2 (ka 4 (ka 7 (ka 9 (ka 14 (ka 15 (ka 98 (ka 99 (ka 100 (ka 108 kn)))))))))) (kb 3 (kb 31 (kb 2 (kb 0 (kb 1 km))))) (fun k=>⟨[(109,some (vI k))],[(7,some (.arr true 1 128 (t.attrs.length + 1) (lvT t.rows (ps.getD p default) k)))]⟩) (t.attrs.length + 1) ⟨tt,⟨⟨_,rfl,(anw (by first | rfl | omega) fun _=>CoP.refl _)⟩,trivial⟩⟩ ?_;rintro k hk;refine w_5 ?_;refine hcd (fun h5=>?_) (fun h5=>?_)
  ·
   refine w_9 ?_;refine avy 7 (.arrh 1 128 (t.attrs.length + 1) [] fun i j=>.p (lvT t.rows (ps.getD p default) k i j)) rfl avx ?_;refine w_3 ?_;refine m9 8 ?_;refine dn ?_;refine ce (ka 2 (ka 4 (ka 7 (ka 9 (ka 14 (ka 15 (ka 16 (ka 98 (ka 99 (ka 100 (ka 108 (ka 109 (ka 117 (ka 118 kn)))))))))))))) (kb 3 (kb 31 (kb 2 (kb 0 (kb 1 km))))) (fun i=>⟨[(119,some (vI i))],[(7,some (.arrh 1 128 (t.attrs.length + 1) [8] (f7 k (.ref 8 0) (lvT t.rows (ps.getD p default) k)))),(8,some (.mp .str i (rh (t.rows.take i) (ps.getD p default) k)))]⟩) t.rows.length ⟨tt,⟨⟨_,rfl,(adv rfl)⟩,⟨_,rfl,(aqa fun _=>rfl)⟩,trivial⟩⟩ ?_;rintro i hi;refine w_5 ?_;refine hcd (fun h6=>?_) (fun h6=>?_)
   · refine w_7 ?_;refine m9 9 ?_;refine w_6 ?_;refine rq (out:=Out.mk _ (.v (.one (.ref 8 0)))) rfl rfl rfl (congrArg (fun x=>some (Out.mk _ (.v (.one x)))) xv) rfl ?_;refine w_3 ?_;refine rq rfl rfl rfl rfl rfl ?_ (hp:=⟨rfl,trivial,⟨by omega,by rw [hw' i b5c];omega⟩,trivial⟩);refine qy ?_;refine rc rfl rfl rfl rfl rfl rfl aam (a5p ((t.rows.getD i default).vals.take k) (ps.getD p default) (by rw [b2g];omega)) (⟨CoC.one (anu (by rw [hw' i b5c];omega)),CoC.refl _,trivial⟩) rfl rfl ?_;refine rs rfl rfl rfl rfl rfl ?_ (hp:=⟨rfl,abm (by rw [b2g];omega),by show i < maxLen;unfold maxLen;omega⟩);refine w_6 ?_;exact lpx (i + 1) ⟨tt,⟨u9,⟨_,rfl,(ash b5c rfl)⟩,uu⟩⟩
   obtain rfl:i = t.rows.length:=by omega
   refine cu ?_;refine a4k (id:=8) 7 (lvT t.rows (ps.getD p default) (k + 1)) rfl rfl rfl axa ?_;refine w_4 ?_;exact lpx (k + 1) kk
  obtain rfl:k = t.attrs.length + 1:=by omega
  refine cu ?_;refine bo 15 rfl rfl rfl ?_;refine w_7 ?_;refine m9 10 ?_;refine r9 11 true ?_;refine w_8 ?_;exact lpx (p + 1) ⟨tt,⟨u9,⟨_,rfl,(anq rfl)⟩,uu⟩⟩
 obtain rfl:p = ps.length:=by omega
 refine w_2 ?_;refine fm 3 2 rfl rfl rfl rfl rfl ?_;refine fm 3 1 rfl rfl rfl rfl rfl ?_;refine er 3 3 32 true 1 110 (lf vlC []) b5i rfl rfl (CoP.sl rfl (.inr rfl) (fun h=>h) (fun i j hi _=>absurd hi (b2c i))) (.inr rfl) rfl rfl ?_;refine w_2 ?_;refine fl rfl rfl rfl rfl rfl rfl (wgx Tryz.func66) (((avw t.rows ps t.attrs.length b5c hps t.attrs.length [] [] (b2r _) (b2b _)).swap 1000 3).swap 1001 32) (⟨rfl,kg,trivial⟩) ⟨⟨_,rfl,⟨CoH.refl _,ao0,CoP.refl _,rfl,trivial⟩⟩,uu⟩ rfl rfl ?_;refine dn ?_;refine hcd (fun h7=>?_) (fun h7=>?_)
 · refine w_6 ?_;refine hrr ?_;have he:=aql h0 hv b5d;exact f9 rfl rfl (⟨(by rw [a64 he b5i];exact CoC.agg ⟨CoP.refl _,kg,kg,trivial⟩),cci he.symm,trivial⟩)
 have hJ:(fb t.rows ps (bm t.rows t.attrs.length) t.attrs.length [] []).length = (jx t.rows ps t.attrs.length).length:=rfl;refine w_7 ?_;refine qcx (wgx Tryz.func67) (c77 t.attrs b5c) ?_;refine qy ?_;refine m9 12 ?_;refine w_5 ?_;refine fm 3 3 rfl rfl rfl rfl rfl ?_;refine w_9 ?_;refine er 12 2 33 true 2 112 (lf Row.c (jo (jx t.rows ps t.attrs.length))) b5i rfl rfl (CoP.sl rfl (.inr rfl) (fun h=>h) (fun i j hi _=>absurd hi (b2c i))) (.inr rfl) rfl rfl ?_;refine ce (ka 4 (ka 19 (ka 164 (ka 165 kn)))) (kb 1 km) (fun i=>⟨[(166,some (vI i))],[(12,some (.box [.p (.raw (.string t.name)), .p (ahd t.attrs), .ref 33 i])),(33,some (.arr true 2 112 i (lf Row.c (jo (jx t.rows ps t.attrs.length)))))]⟩) ((jx t.rows ps t.attrs.length).length) kk ?_;rintro i hi;refine w_5 ?_;refine hcd (fun h8=>?_) (fun h8=>?_)
 · refine axl ?_;refine m9 13 ?_;refine r9 14 true ?_;refine w_7 ?_;exact lpx (i + 1) ⟨tt,⟨u9,⟨_,rfl,(adb b5c (CoP.refl _) (CoP.refl _))⟩,uu⟩⟩
 obtain rfl:i = (jx t.rows ps t.attrs.length).length:=by omega
 refine w_2 ?_;refine fm 12 2 rfl rfl rfl rfl rfl ?_;refine w_5 ?_;refine hrr ?_;have he:=afa h0 hv b5d;exact f9 rfl rfl (⟨(by rw [af5 he];exact CoC.agg ⟨CoP.refl _,CoP.refl _,CoP.sl a5i (.inl rfl) (fun h=>h) (fun _ _ _ _=>CoP.refl _),trivial⟩),cci he.symm,trivial⟩)
end
section
section
variable {α:Type} [DecidableEq α] {c:α -> α -> Int}
def a3k (h:Tot c):∀ (l:List α) (p:Option α),l.Pairwise (fun a b=>¬ c b a < 0) -> (∀ x,p = some x -> ∀ y ∈ l,¬ c y x < 0) -> Asc c (it p l) /\ ∀ x,p = some x -> ∀ y ∈ it p l,c x y < 0
 | [],p,_,_=>⟨List.Pairwise.nil,fun _ _ y hy=>by cases hy⟩
 | y :: l,p,hl,hp=>by
  have hl':=b35.1 hl;simp only [it];split
  · rename_i he
    exact a3k h l p hl'.2 fun x hx z hz=>hp x hx z (by simp [hz])
  rename_i he
  obtain ⟨h1,h2⟩:=a3k h l (some y) hl'.2 fun x hx z hz=>by
   simp only [b24] at hx;subst hx;exact hl'.1 z hz
  refine ⟨b35.2 ⟨fun z hz=>h2 y rfl z hz,h1⟩,fun x hx z hz=>?_⟩
  have hxy:c x y < 0:=by
   have h3:=hp x hx y b5f;have h4:=h.anti x y;have h5:c x y ≠ 0:=fun e=>he (by rw [hx,(h.zero x y).1 e]);omega
  rcases b2f.1 hz with rfl | hz
  · exact hxy
  exact h.tr _ _ _ hxy (h2 y rfl z hz)
def anp (h:Tot c) {l:List α} (hl:l.Pairwise fun a b=>¬ c b a < 0):Asc c (j4 l):=(a3k h l none hl fun x hx=>by cases hx).1
def xy (c:α -> α -> Int) (x:α):List α -> List α
 | []=>[x]
 | y :: l=>if c x y < 0 then x :: y :: l else if c x y = 0 then y :: l else y :: xy c x l
def a36 (h:Tot c) {x z:α}:∀ {l:List α},z ∈ xy c x l <-> z = x \/ z ∈ l
 | []=>by simp [xy]
 | y :: l=>by
  unfold xy;split
  · simp
  split
  · rename_i e
    have e:=(h.zero x y).1 e;subst e;simp
  rw [b2f,a36 h (l:=l),b2f];constructor
  · rintro (e | e | e)
    · exact .inr (.inl e)
    · exact .inl e
    exact .inr (.inr e)
  rintro (e | e | e)
  · exact .inr (.inl e)
  · exact .inl e
  exact .inr (.inr e)
def aad (h:Tot c) {x:α}:∀ {l:List α},Asc c l -> Asc c (xy c x l)
 | [],_=>by simp [xy,Asc]
 | y :: l,hl=>by
  have hl':=b35.1 hl;unfold xy;split
  · rename_i e
    exact b35.2 ⟨fun z hz=>by
     rcases b2f.1 hz with rfl | hz
     · exact e
     exact h.tr _ _ _ e (hl'.1 z hz),hl⟩
  split
  · exact hl
  rename_i e1 e2;refine b35.2 ⟨fun z hz=>?_,aad h hl'.2⟩
  rcases (a36 h).1 hz with rfl | hz
  · have:=h.anti z y;omega
  exact hl'.1 z hz
def a3a (c:α -> α -> Int) (l:List α):List α:=l.foldr (xy c) []
def aa5 (h:Tot c) {z:α}:∀ {l:List α},z ∈ a3a c l <-> z ∈ l
 | []=>by simp [a3a]
 | y :: l=>by
  show z ∈ xy c y (a3a c l) <-> _;rw [a36 h,aa5 h (l:=l),b2f]
def ac7 (h:Tot c):∀ {l:List α},Asc c (a3a c l)
 | []=>List.Pairwise.nil
 | y :: l=>aad h (ac7 h (l:=l))
end
section
variable {R:List Row}
def amb {a:Nat}:Asc iq (yp R a):=anp pf (pf.srt _)
def apm {a:Nat}:yp R a = a3a iq (nu R a):=by
 refine pf.ext amb (ac7 pf) fun v=>?_;unfold yp;rw [aav,alq,aa5 pf]
def ank {n:Nat}:bm R n = (List.range n).map fun a=>a3a iq (nu R a):=b3x fun a _=>apm
def ao6:lsB 3 [3,6] [⟨2,4⟩] [] = true /\ lsC 3 [3,6] [⟨2,4⟩] [] = 0:=by decide +kernel
def ao8:prS 3 [3,6] [⟨2,4⟩] [] = [(false,0,0,1)] /\ prC 3 [3,6] [⟨2,4⟩] [] = 0:=by decide +kernel
def awu:nq 3 [3,6] [⟨2,4⟩] [] [(false,0,0,1)] = true:=by decide +kernel
def awR:List Row:=[⟨1,[⟨1,0,emp⟩,⟨1,1,emp⟩,⟨1,5,emp⟩]⟩,⟨2,[⟨1,6,emp⟩,⟨1,1,emp⟩,⟨1,2,emp⟩]⟩]
def awT:Tbl:=⟨⟨#[116]⟩,jg.take 3,awR⟩
def aou:ab2 3 [3,6] [] [] = awT /\ tf 3 [3,6] [] [] = 0:=by decide +kernel
def axb:(fb awR [3,6] ((List.range 3).map fun a=>a3a iq (nu awR a)) 3 [] []).length = 4:=by decide +kernel
def asw:(jx awR [3,6] 3).length = 4:=by
 unfold jx;rw [ank];exact axb
def aon:cg awT = 0 /\ lvE 3 [3,6] = 0:=by decide +kernel
def aoh:lz awT [3,6] = 0:=afa aon.1 aon.2 (by
 show ¬ (1000:Int) < ((jx awR [3,6] 3).length:Int)
 rw [asw];decide)
def awx:(a1a awT [3,6]).rows.length = 4:=by
 rw [af5 aoh];show (jo (jx awR [3,6] 3)).length = 4;rw [a5i,asw]
end
end
section
open Go.Proofs
def awd:a8 b62 17 [pI 3,pP (asl [3,6]),pP (fdl [⟨2,4⟩]),pP (fdl [])] (ah [pB true,pI 0]):=by
 have h:=azi 3 [3,6] [⟨2,4⟩] [];rw [ao6.1,ao6.2] at h;exact h
def aws:a8 b62 21 [pI 3,pP (asl [3,6]),pP (fdl [⟨2,4⟩]),pP (fdl [])] (ah [pP (stl [(false,0,0,1)]),pI 0]):=by
 have h:=avh 3 [3,6] [⟨2,4⟩] [];rw [ao8.1,ao8.2] at h;exact h
def ax2:a8 b62 24 [pI 3,pP (asl [3,6]),pP (fdl [⟨2,4⟩]),pP (fdl []),pP (xg [(false,0,0,1)])] (ah [pB true]):=by
 have h:=aep 3 [3,6] [⟨2,4⟩] [] [(false,0,0,1)];rw [awu] at h;exact h
def axf:a8 b62 27 [pI 3,pP (asl [3,6]),pP (fdl []),pP (fdl [])] (ah [awT.pc,pI 0]):=by
 have h:=axm 3 [3,6] [] [];rw [aou.1,aou.2] at h;exact h
def azr:a8 b62 30 [awT.pc,pP (asl [3,6])] (ah [(a1a awT [3,6]).pc,pI 0]):=by
 have h:=asd awT [3,6];rw [aoh] at h;exact h
def a6w {cl:Bool} {x:Fd} {f:Nat -> Nat -> PV} (h0:CoP (f 0 0) (Fd.c x 0)) (h1:CoP (f 0 1) (Fd.c x 1)):CoP (.sl 1 2 cl f) (fdl [x]):=arl (lt2 h0 h1)
def a5b:goodFn b62 11:=wgx Tryz.func11
def aqh (J:Tbl) (hJ:J.rows.length = 4) (hc:a8 b62 30 [awT.pc,pP (asl [3,6])] (ah [J.pc,pI 0])):a8 b62 11 [] (ah [pB true]):=by
 refine hpx (nt:=77) Tryz.func11 ?_;refine w_6 ?_;refine m9 0 ?_;refine qy ?_;refine m9 1 ?_;refine w_4 ?_;refine bo 1 rfl rfl rfl ?_;refine bo 2 rfl rfl rfl ?_;refine w_3 ?_;refine rc rfl rfl rfl rfl rfl rfl (wgx Tryz.func17) (awd) (⟨CoC.refl _,CoC.one (wg (CoP.refl _) (CoP.refl _)),CoC.one (a6w (CoP.refl _) (CoP.refl _)),a3v,trivial⟩) rfl rfl ?_;refine dm ?_;refine rc rfl rfl rfl rfl rfl rfl (wgx Tryz.func21) (aws) (⟨CoC.refl _,CoC.one (wg (CoP.refl _) (CoP.refl _)),CoC.one (a6w (CoP.refl _) (CoP.refl _)),a3v,trivial⟩) rfl rfl ?_;refine w_9 ?_;refine rc rfl rfl rfl rfl rfl rfl (wgx Tryz.func27) (axf) (⟨CoC.refl _,CoC.one (wg (CoP.refl _) (CoP.refl _)),a3v,a3v,trivial⟩) rfl rfl ?_;refine w_3 ?_;refine m9 2 ?_;refine w_7 ?_;refine rc rfl rfl rfl rfl rfl rfl (wgx Tryz.func30) (hc) (⟨CoC.refl _,CoC.one (wg (CoP.refl _) (CoP.refl _)),trivial⟩) rfl rfl ?_;refine w_3 ?_;refine m9 3 ?_;refine ahf ?_;refine rc rfl rfl rfl rfl rfl rfl (wgx Tryz.func24) (ax2) (⟨CoC.refl _,CoC.one (wg (CoP.refl _) (CoP.refl _)),CoC.one (a6w (CoP.refl _) (CoP.refl _)),a3v,CoC.one aez,trivial⟩) rfl rfl ?_;refine ahf ?_;exact hx8 rfl rfl rfl (⟨ccb (by first | rfl | (show decide ((J.rows.length:Int) = 4) = true;rw [hJ];rfl)),trivial⟩)
def xk:a8 b62 11 [] (ah [pB true]):=aqh (a1a awT [3,6]) awx azr
end
section
section
variable {n:Int} {ps:List AS} {p m:List Fd}
def aq1 (h:prC n ps p m = 0):lsC n ps p m = 0 /\ ∃ i,i <= (lsT n ps p m).1.length /\ prS n ps p m = (lsT n ps p m).1.take i /\ fg n ((trL n p m (ae (ai n ps)) (lsT n ps p m).1).getD i default) = true:=by
 have hls:lsC n ps p m = 0:=by
  apply Classical.byContradiction;intro hn;have:=(aaq hn).2;exact hn (this ▸ h)
 refine ⟨hls, ?_⟩
 have key:∀ k,k <= (lsT n ps p m).1.length + 1 -> (∀ j,j < k -> fg n ((trL n p m (ae (ai n ps)) (lsT n ps p m).1).getD j default) = false) \/ ∃ i,i < k /\ (∀ j,j < i -> fg n ((trL n p m (ae (ai n ps)) (lsT n ps p m).1).getD j default) = false) /\ fg n ((trL n p m (ae (ai n ps)) (lsT n ps p m).1).getD i default) = true:=by
  intro k
  induction k with
  | zero=>intro _;exact .inl fun j hj=>absurd hj (b2c j)
  | succ k ih =>
   intro hk
   rcases ih b5c with h1 | ⟨i,h1,h2,h3⟩
   · cases hf:fg n ((trL n p m (ae (ai n ps)) (lsT n ps p m).1).getD k default) with
     | true=>exact .inr ⟨k,by omega,h1,hf⟩
     | false =>
      refine .inl fun j hj=>?_;by_cases e:j = k
      · rw [e];exact hf
      exact h1 j b5c
   exact .inr ⟨i,by omega,h2,h3⟩
 rcases key _ (b29 _) with h1 | ⟨i,h1,h2,h3⟩
 · have:=(aet hls h1).2
   rw [this] at h;cases h
 exact ⟨i,by omega,(ahv hls b5c h2 h3).1,h3⟩
end
def sgB (n:Int) (c:AS) (z:Int):Int:=if ci c (z % n) = true then z % n else z
section
variable {n:Int} {P Q:AS} {p:List Fd}
end
end
section
def fdP (d:Fd) (r k:AS):Option AS:=if (r ^^^ k) &&& d.lhs = 0 then (if (r ^^^ k) &&& d.rhs = 0 then none else some ((r ^^^ k) &&& d.rhs)) else none
def fdQ (d:Fd) (T:List AS) (r:AS):Option AS:=T.findSome? (fdP d r)
def fdT (d:Fd) (T:List AS):Option AS:=T.findSome? (fdQ d T)
section
variable {T:List AS} {d:Fd}
def al6 {s:AS} (h:fdT d T = some s):∃ r ∈ T,∃ k ∈ T,agB d r k = true /\ s = (r ^^^ k) &&& d.rhs /\ s ≠ 0:=by
 unfold fdT at h;obtain ⟨r,hr,h⟩:=b4y h;unfold fdQ at h;obtain ⟨k,hk,h⟩:=b4y h;unfold fdP at h;split at h
 · rename_i h1
   split at h
   · cases h
   rename_i h2;cases h;exact ⟨r,hr,k,hk,decide_eq_true h1,rfl,h2⟩
 cases h
def ue (h:T.Nodup):T.length <= 4294967296:=by
 have h1:(T.map BitVec.toNat).Nodup:=List.Pairwise.map _ (fun a b hab e=>hab (b59 e)) h
 have h2:∀ x ∈ T.map BitVec.toNat,x < 4294967296:=by
  intro x hx;obtain ⟨a,_,rfl⟩:=b32.1 hx;exact a.isLt
 have hlen:(T.map BitVec.toNat).length = T.length:=b33 _;rw [<- hlen]
 have key:∀ (N:Nat) (l:List Nat),l.Nodup -> (∀ x ∈ l,x < N) -> l.length <= N:=by
  intro N
  induction N with
  | zero =>
   intro l _ hl
   cases l with
   | nil=>exact b29 _
   | cons a l=>exact absurd (hl a b5f) (b2c _)
  | succ N ih =>
   intro l hn hl
   have h3:=ih (l.filter fun x=>!decide (x = N)) (hn.filter _) fun x hx=>by
    rw [b4i] at hx;have:=hl x hx.1;have hx2:¬ x = N:=by simpa using hx.2
    omega
   have h4:l.length <= (l.filter fun x=>!decide (x = N)).length + 1:=by
    have h5:∀ l:List Nat,l.length = (l.filter fun x=>!decide (x = N)).length + l.countP fun x=>decide (x = N):=by
     intro l
     induction l with
     | nil=>rfl
     | cons a l ih =>
      by_cases e:a = N
      · simp [b4e,b4f,e,ih];omega
      simp [b4e,b4f,e,ih];omega
    have h6:=h5 l
    have h7:(l.countP fun x=>decide (x = N)) <= 1:=by
     have:=hn.count (a:=N)
     have e:(l.countP fun x=>decide (x = N)) = l.count N:=by
      unfold List.count;congr 1
     rw [e]
     first | exact List.nodup_iff_count.1 hn N | (rw [this];split <;> omega)
    omega
   omega
 exact key _ _ h1 h2
def te {i:Nat} (hi:i < 32):(orL T).getLsbD i = T.any fun r=>r.getLsbD i:=by
 unfold orL
 have:∀ (T:List AS) (o:AS),(T.foldl (· ||| ·) o).getLsbD i = (o.getLsbD i || T.any fun r=>r.getLsbD i):=by
  intro T
  induction T with
  | nil=>intro o;simp
  | cons a T ih=>intro o;rw [List.foldl_cons,ih,b4k,List.any_cons,Bool.or_assoc]
 rw [this];simp
def aq8 {s:AS}:orL (mh T s) = orL T &&& ~~~s:=by
 apply ac9;intro i hi;rw [te hi,m8 hi,te hi]
 cases hs:s.getLsbD i with
 | true =>
  simp only [Bool.not_true,Bool.and_false];rw [b3n];intro z hz;obtain ⟨r,hr,rfl⟩:=a31.1 hz;rw [m8 hi,hs];simp
 | false =>
  simp only [Bool.not_false,Bool.and_true];rw [b51,b3a,b3a];constructor
  · rintro ⟨z,hz,hb⟩
    obtain ⟨r,hr,rfl⟩:=a31.1 hz;rw [m8 hi,b2h] at hb;exact ⟨r,hr,hb.1⟩
  rintro ⟨r,hr,hb⟩;exact ⟨r &&& ~~~s,a31.2 ⟨r,hr,rfl⟩,by rw [m8 hi,hb,hs];rfl⟩
def a6p {s:AS} (h:fdT d T = some s):(orL (mh T s)).toNat < (orL T).toNat:=by
 obtain ⟨r,hr,k,hk,_,rfl,hz⟩:=al6 h;rw [aq8];refine ach aik fun e=>?_;obtain ⟨i,hi,hb⟩:=avf hz;have h1:=congrArg (fun z:AS=>z.getLsbD i) e;simp only [m8 hi,hb,Bool.not_true,Bool.and_false] at h1;have h1:(orL T).getLsbD i = false:=h1.symm;rw [te hi,b3n] at h1;rw [b3j,BitVec.getLsbD_xor,b2h] at hb;have h2:r.getLsbD i = false:=by simpa using h1 r hr
 have h3:k.getLsbD i = false:=by simpa using h1 k hk
 rw [h2,h3] at hb;simp at hb
def lc (d:Fd):Nat -> List AS -> List AS
 | 0,T=>T
 | f + 1,T=>match fdT d T with
  | none=>T
  | some s=>lc d f (mh T s)
def mvS (d:Fd) (T:List AS) (i k:Nat):List AS:=if agB d (T.getD i default) (T.getD k default) = true then l7 T (vf d (T.getD i default) (T.getD k default)) else T
def mvI (d:Fd):Nat -> List AS -> Nat -> Nat -> List AS
 | 0,T,_,_=>T
 | f + 1,T,i,k=>if k < T.length then mvI d f (mvS d T i k) i (k + 1) else T
def mvO (d:Fd):Nat -> List AS -> Nat -> List AS
 | 0,T,_=>T
 | f + 1,T,i=>if i < T.length then mvO d f (mvI d 8589934592 T i 0) (i + 1) else T
def a0w (d:Fd) (T:List AS) (i k:Nat):T <+: mvS d T i k:=by
 unfold mvS l7;split
 · split
   · exact b4g _
   exact List.prefix_append _ _
 exact b4g _
def a13 (d:Fd):∀ (f:Nat) (T:List AS) (i k:Nat),T <+: mvI d f T i k
 | 0,T,_,_=>b4g _
 | f + 1,T,i,k=>by
  unfold mvI;split
  · exact (a0w d T i k).trans (a13 d f _ i (k + 1))
  exact b4g _
def ae4 (d:Fd):∀ (f:Nat) (T:List AS) (i:Nat),T <+: mvO d f T i
 | 0,T,_=>b4g _
 | f + 1,T,i=>by
  unfold mvO;split
  · exact (a13 d _ T i 0).trans (ae4 d f _ (i + 1))
  exact b4g _
def ak5 {i k:Nat} (h:T.Nodup):(mvS d T i k).Nodup:=by
 unfold mvS;split
 · exact rr h
 exact h
def a9k:∀ {f:Nat} {T:List AS} {i k:Nat},T.Nodup -> (mvI d f T i k).Nodup
 | 0,T,_,_,h=>h
 | f + 1,T,i,k,h=>by
  unfold mvI;split
  · exact a9k (ak5 h)
  exact h
def a9n:∀ {f:Nat} {T:List AS} {i:Nat},T.Nodup -> (mvO d f T i).Nodup
 | 0,T,_,h=>h
 | f + 1,T,i,h=>by
  unfold mvO;split
  · exact a9n (a9k h)
  exact h
abbrev TC:=List AS × Bool
def FU2:Nat:=8589934592
def fdR (x:TC) (d:Fd):TC:=(lc d FU2 x.1,x.2 || (fdT d x.1).isSome)
def mvR (x:TC) (d:Fd):TC:=(mvO d FU2 x.1 0,x.2 || decide (x.1.length < (mvO d FU2 x.1 0).length))
def qr (fs ms:List Fd) (T:List AS):TC:=ms.foldl mvR (fs.foldl fdR (T,false))
def chF (fs ms:List Fd):Nat -> List AS -> List AS
 | 0,T=>T
 | f + 1,T=>if (qr fs ms T).2 = true then chF fs ms f (qr fs ms T).1 else (qr fs ms T).1
def muT (T:List AS):Nat:=(orL T).toNat * FU2 + (4294967296 - T.length)
def ux {f:Nat} {s:AS} (h:fdT d T = some s):lc d (f + 1) T = lc d f (mh T s):=by
 show (match fdT d T with | none=>T | some s=>lc d f (mh T s)) = _;rw [h]
def zh {f:Nat} (h:fdT d T = none):lc d f T = T:=by
 cases f with
 | zero=>rfl
 | succ f =>
  show (match fdT d T with | none=>T | some s=>lc d f (mh T s)) = _;rw [h]
variable {P:List AS -> Prop}
def ac3 (hP:∀ T s,P T -> fdT d T = some s -> P (mh T s)):∀ (f:Nat) (T:List AS),P T -> P (lc d f T)
 | 0,T,h=>h
 | f + 1,T,h=>by
  cases hq:fdT d T with
  | none=>rw [zh hq];exact h
  | some s=>rw [ux hq];exact ac3 hP f _ (hP T s h hq)
def aee (hP:∀ T r k,P T -> r ∈ T -> k ∈ T -> agB d r k = true -> P (l7 T (vf d r k))):∀ (f:Nat) (T:List AS) (i k:Nat),i < T.length -> P T -> P (mvI d f T i k)
 | 0,T,_,_,_,h=>h
 | f + 1,T,i,k,hi,h=>by
  unfold mvI;split
  · rename_i hk
    refine aee hP f _ i (k + 1) (b41 hi (a0w d T i k).length_le) ?_;unfold mvS;split
    · rename_i ha
      exact hP T _ _ h (a85 hi) (a85 hk) ha
    exact h
  exact h
def a5x (hP:∀ T r k,P T -> r ∈ T -> k ∈ T -> agB d r k = true -> P (l7 T (vf d r k))):∀ (f:Nat) (T:List AS) (i:Nat),P T -> P (mvO d f T i)
 | 0,T,_,h=>h
 | f + 1,T,i,h=>by
  unfold mvO;split
  · rename_i hi
    exact a5x hP f _ (i + 1) (aee hP _ T i 0 hi h)
  exact h
variable {fs:List Fd}
def a67 (hP:∀ d ∈ fs,∀ T s,P T -> fdT d T = some s -> P (mh T s)):∀ (ds:List Fd) (x:TC),(∀ d ∈ ds,d ∈ fs) -> P x.1 -> P (ds.foldl fdR x).1
 | [],x,_,h=>h
 | d :: ds,x,hd,h=>a67 hP ds (fdR x d) (fun e he=>hd e (by simp [he])) (ac3 (hP d (hd d b5f)) _ _ h)
variable {ms:List Fd}
def af4 (hP:∀ d ∈ ms,∀ T r k,P T -> r ∈ T -> k ∈ T -> agB d r k = true -> P (l7 T (vf d r k))):∀ (ds:List Fd) (x:TC),(∀ d ∈ ds,d ∈ ms) -> P x.1 -> P (ds.foldl mvR x).1
 | [],x,_,h=>h
 | d :: ds,x,hd,h=>af4 hP ds (mvR x d) (fun e he=>hd e (by simp [he])) (a5x (hP d (hd d b5f)) _ _ _ h)
def aq7 (h1:∀ d ∈ fs,∀ T s,P T -> fdT d T = some s -> P (mh T s)) (h2:∀ d ∈ ms,∀ T r k,P T -> r ∈ T -> k ∈ T -> agB d r k = true -> P (l7 T (vf d r k))) (h:P T):P (qr fs ms T).1 :=
 af4 h2 ms _ (fun _ h=>h) (a67 h1 fs (T,false) (fun _ h=>h) h)
def aoa:∀ d ∈ fs,∀ (T:List AS) (s:AS),T.Nodup -> fdT d T = some s -> (mh T s).Nodup:=fun _ _ T s _ _=>a5o T s
def awr:∀ d ∈ ms,∀ (T:List AS) (r k:AS),T.Nodup -> r ∈ T -> k ∈ T -> agB d r k = true -> (l7 T (vf d r k)).Nodup:=fun _ _ _ _ _ h _ _ _=>rr h
def aie {A B:List AS} (h:(orL B).toNat < (orL A).toNat):muT B < muT A:=by
 unfold muT;have h1:((orL B).toNat + 1) * FU2 <= (orL A).toNat * FU2:=b2d _ h;rw [b2y] at h1;have:FU2 = 8589934592:=rfl;omega
def as1 {A B:List AS} (hp:A <+: B) (ho:(orL B).toNat = (orL A).toNat) (hB:B.length <= 4294967296):muT B <= muT A /\ (A.length < B.length -> muT B < muT A):=by
 unfold muT;rw [ho];have:=hp.length_le;omega
def ar7 {r k:AS} (hr:r ∈ T) (hk:k ∈ T):orL (l7 T (vf d r k)) = orL T:=by
 apply ac9;intro i hi;rw [te hi,te hi,b51,b3a,b3a];constructor
 · rintro ⟨z,hz,hb⟩
   rcases a3e.1 hz with hz | rfl
   · exact ⟨z,hz,hb⟩
   rw [an6 hi] at hb;split at hb
   · exact ⟨r,hr,hb⟩
   exact ⟨k,hk,hb⟩
 rintro ⟨z,hz,hb⟩;exact ⟨z,a3e.2 (.inl hz),hb⟩
def aoz {f:Nat} {i:Nat}:orL (mvO d f T i) = orL T :=
 a5x (P:=fun X=>orL X = orL T) (fun X r k h hr hk _=>(ar7 hr hk).trans h) f T i rfl
def aff {T0:List AS} (f:Nat):∀ (T:List AS),muT T <= muT T0 -> muT (lc d f T) <= muT T0:=by
 induction f with
 | zero=>intro T h;exact h
 | succ f ih =>
  intro T h
  cases hq:fdT d T with
  | none=>rw [zh hq];exact h
  | some s =>
   rw [ux hq];have h1:=aie (a6p hq);exact ih _ b5c
def auk (x:TC) (d:Fd):muT (fdR x d).1 <= muT x.1 /\ (x.2 = false -> (fdR x d).2 = true -> muT (fdR x d).1 < muT x.1):=by
 refine ⟨aff _ _ (b29 _),fun h1 h2=>?_⟩;unfold fdR at h2 ⊢;rw [h1,Bool.false_or,Option.isSome_iff_exists] at h2;obtain ⟨s,hs⟩:=h2;show muT (lc d FU2 x.1) < _;rw [show FU2 = 8589934591 + 1 from rfl,ux hs];exact Nat.lt_of_le_of_lt (aff _ _ (b29 _)) (aie (a6p hs))
def at8 {x:TC} (hn:x.1.Nodup) (d:Fd):muT (mvR x d).1 <= muT x.1 /\ (x.2 = false -> (mvR x d).2 = true -> muT (mvR x d).1 < muT x.1):=by
 have h:=as1 (ae4 d FU2 x.1 0) (congrArg BitVec.toNat aoz) (ue (a9n hn));refine ⟨h.1,fun h1 h2=>h.2 ?_⟩;unfold mvR at h2;rw [h1,Bool.false_or] at h2;exact of_decide_eq_true h2
def aeq:∀ (ds:List Fd) (x:TC),muT (ds.foldl fdR x).1 <= muT x.1 /\ (x.2 = false -> (ds.foldl fdR x).2 = true -> muT (ds.foldl fdR x).1 < muT x.1)
 | [],x=>⟨b29 _,fun h k=>by simp only [List.foldl_nil] at k;rw [h] at k;cases k⟩
 | d :: ds,x=>by
  obtain ⟨a1,a2⟩:=auk x d;obtain ⟨b1,b2⟩:=aeq ds (fdR x d);refine ⟨b37 b1 a1,fun h k=>?_⟩
  cases hq:(fdR x d).2 with
  | true=>exact Nat.lt_of_le_of_lt b1 (a2 h hq)
  | false=>exact b41 (b2 hq k) a1
def aev:∀ (ds:List Fd) (x:TC),x.1.Nodup -> muT (ds.foldl mvR x).1 <= muT x.1 /\ (x.2 = false -> (ds.foldl mvR x).2 = true -> muT (ds.foldl mvR x).1 < muT x.1)
 | [],x,_=>⟨b29 _,fun h k=>by simp only [List.foldl_nil] at k;rw [h] at k;cases k⟩
 | d :: ds,x,hn=>by
  obtain ⟨a1,a2⟩:=at8 hn d;obtain ⟨b1,b2⟩:=aev ds (mvR x d) (a9n hn);refine ⟨b37 b1 a1,fun h k=>?_⟩
  cases hq:(mvR x d).2 with
  | true=>exact Nat.lt_of_le_of_lt b1 (a2 h hq)
  | false=>exact b41 (b2 hq k) a1
def au8 (hn:T.Nodup) (h:(qr fs ms T).2 = true):muT (qr fs ms T).1 < muT T:=by
 unfold qr at h ⊢;obtain ⟨a1,a2⟩:=aeq fs (T,false);have hn2:(fs.foldl fdR (T,false)).1.Nodup:=a67 aoa fs (T,false) (fun _ h=>h) hn;obtain ⟨b1,b2⟩:=aev ms (fs.foldl fdR (T,false)) hn2
 cases hq:(fs.foldl fdR (T,false)).2 with
 | true=>exact Nat.lt_of_le_of_lt b1 (a2 rfl hq)
 | false=>exact b41 (b2 hq h) a1
def MU:Nat:=73786976294838206464
def avn (T:List AS):muT T < MU:=by
 unfold muT;have h:=(orL T).isLt;have h1:((orL T).toNat + 1) * FU2 <= 4294967296 * FU2:=b2d _ h;rw [b2y] at h1;have e:FU2 = 8589934592:=rfl;have e2:MU = 73786976294838206464:=rfl;omega
def an2 (rest:AS):List AS:=l7 [0] rest
def chT (fs ms:List Fd) (rest:AS):List AS:=chF fs ms MU (an2 rest)
def awe (rest:AS):(an2 rest).Nodup:=rr b5f
end
end
section
open Go.Proofs
def sT:List Rw:=[[0,1,5],[0,7,2]]
def fdX:List Fd:=[⟨1,2⟩]
end
section
structure MvO (d:Fd) (T0:List AS) (x:Nat × List AS × Nat):Prop where
 nd:x.2.1.Nodup
 pre:T0 <+: x.2.1
 res:mvO d x.1 x.2.1 x.2.2 = mvO d FU2 T0 0
 le:x.2.2 <= x.2.1.length
 fuel:4294967296 < x.1 + x.2.2
structure MvI (d:Fd) (T:List AS) (i:Nat) (x:Nat × List AS × Nat):Prop where
 nd:x.2.1.Nodup
 pre:T <+: x.2.1
 res:mvI d x.1 x.2.1 i x.2.2 = mvI d 8589934592 T i 0
 le:x.2.2 <= x.2.1.length
 fuel:4294967296 < x.1 + x.2.2
section
variable {d:Fd} {T0 T:List AS} {i f k:Nat}
theorem MvO.start (h:T.Nodup):MvO d T (FU2,T,0):=⟨h,b4g _,rfl,b2b _,by show 4294967296 < 8589934592 + 0;omega⟩
theorem MvI.start (h:T.Nodup):MvI d T i (8589934592,T,0):=⟨h,b4g _,rfl,b2b _,by show 4294967296 < 8589934592 + 0;omega⟩
theorem MvO.pos (h:MvO d T0 (f,T,i)):0 < f /\ T.length <= 4294967296:=by
 have h1:=ue h.nd;have h2:=h.le;have h3:=h.fuel;dsimp only at h1 h2 h3;omega
section
variable {U:List AS}
theorem MvI.pos (h:MvI d T i (f,U,k)):0 < f /\ U.length <= 4294967296:=by
 have h1:=ue h.nd;have h2:=h.le;have h3:=h.fuel;dsimp only at h1 h2 h3;omega
theorem MvO.done (h:MvO d T0 (f,T,i)) (hi:¬ i < T.length):T = mvO d FU2 T0 0:=by
 have hp:=h.pos.1;have hr:mvO d f T i = mvO d FU2 T0 0:=h.res;obtain ⟨g,rfl⟩:∃ g,f = g + 1:=⟨f - 1,by omega⟩;unfold mvO at hr;rw [if_neg hi] at hr;exact hr
theorem MvI.done (h:MvI d T i (f,U,k)) (hk:¬ k < U.length):U = mvI d 8589934592 T i 0:=by
 have hp:=h.pos.1;have hr:mvI d f U i k = mvI d 8589934592 T i 0:=h.res;obtain ⟨g,rfl⟩:∃ g,f = g + 1:=⟨f - 1,by omega⟩;unfold mvI at hr;rw [if_neg hk] at hr;exact hr
theorem MvI.next (h:MvI d T i (f,U,k)) (hk:k < U.length):MvI d T i (f - 1,mvS d U i k,k + 1):=by
 have hp:=h.pos.1;have hr:mvI d f U i k = mvI d 8589934592 T i 0:=h.res;obtain ⟨g,rfl⟩:∃ g,f = g + 1:=⟨f - 1,by omega⟩;unfold mvI at hr;rw [if_pos hk] at hr;have hf:4294967296 < g + 1 + k:=h.fuel;exact ⟨ak5 h.nd,h.pre.trans (a0w d U i k),hr,b37 hk (a0w d U i k).length_le,by show 4294967296 < g + (k + 1);omega⟩
theorem MvO.next (h:MvO d T0 (f,T,i)) (hi:i < T.length) (hU:U = mvI d 8589934592 T i 0):MvO d T0 (f - 1,U,i + 1):=by
 subst hU;have hp:=h.pos.1;have hr:mvO d f T i = mvO d FU2 T0 0:=h.res;obtain ⟨g,rfl⟩:∃ g,f = g + 1:=⟨f - 1,by omega⟩;unfold mvO at hr;rw [if_pos hi] at hr;have hf:4294967296 < g + 1 + i:=h.fuel;exact ⟨a9k h.nd,h.pre.trans (a13 d _ T i 0),hr,b37 hi (a13 d _ T i 0).length_le,by show 4294967296 < g + (i + 1);omega⟩
end
end
end
section
structure ChI (l m:List Fd) (R:List AS) (x:Nat × List AS × Bool):Prop where
 nd:x.2.1.Nodup
 t:x.2.2 = true -> chF l m x.1 x.2.1 = R /\ muT x.2.1 < x.1
 f:x.2.2 = false -> x.2.1 = R
def b1g (x:Nat × List AS × Bool):Nat:=x.1 + (bif x.2.2 then 1 else 0)
theorem ChI.start (l m:List Fd) (rest:AS):ChI l m (chT l m rest) (MU,an2 rest,true):=⟨awe rest,fun _=>⟨rfl,avn _⟩,fun h=>by cases h⟩
theorem ChI.next {l m:List Fd} {R T:List AS} {f:Nat} (h:ChI l m R (f,T,true)):ChI l m R (f - 1,(qr l m T).1,(qr l m T).2) /\ 0 < f:=by
 obtain ⟨h1,h2⟩:=h.t rfl;have h2:muT T < f:=h2;have h1:chF l m f T = R:=h1;have hn:T.Nodup:=h.nd;obtain ⟨g,rfl⟩:∃ g,f = g + 1:=⟨f - 1,by omega⟩;unfold chF at h1;refine ⟨⟨aq7 aoa awr hn,fun hc=>?_,fun hc=>?_⟩,by omega⟩
 · have hc:(qr l m T).2 = true:=hc
   rw [if_pos hc] at h1;have:=au8 hn hc;exact ⟨h1,by show muT (qr l m T).1 < g;omega⟩
 have hc:(qr l m T).2 = false:=hc;rw [if_neg (by rw [hc];decide)] at h1;exact h1
def b0t (l:List Fd) (T:List AS) (i:Nat):TC:=(l.take i).foldl fdR (T,false)
def mvX (m:List Fd) (x:TC) (i:Nat):TC:=(m.take i).foldl mvR x
structure FdI (d:Fd) (U0:List AS) (x:Nat × List AS × Bool):Prop where
 nd:x.2.1.Nodup
 res:lc d x.1 x.2.1 = lc d FU2 U0
 fuel:(orL x.2.1).toNat < x.1
 f:x.2.2 = false -> x.2.1 = U0
 t:x.2.2 = true -> (fdT d U0).isSome = true
section
variable {d:Fd} {U0 U:List AS} {g:Nat} {b c:Bool} {s:AS}
theorem FdI.start (h:U0.Nodup):FdI d U0 (FU2,U0,false):=⟨h,rfl,b41 (orL U0).isLt (show 2 ^ 32 <= FU2 by decide),fun _=>rfl,fun h=>by cases h⟩
theorem FdI.len (h:FdI d U0 (g,U,b)):U.length <= 8589934592:=b37 (ue (show U.Nodup from h.nd)) b5i
theorem FdI.next (h:FdI d U0 (g,U,b)) (hq:fdT d U = some s):FdI d U0 (g - 1,mh U s,true) /\ 0 < g:=by
 have h3:(orL U).toNat < g:=h.fuel;have h2:lc d g U = lc d FU2 U0:=h.res;obtain ⟨k,rfl⟩:∃ k,g = k + 1:=⟨g - 1,by omega⟩;rw [ux hq] at h2;have h4:=a6p hq;refine ⟨⟨a5o U s,h2,(by show (orL (mh U s)).toNat < k;omega),(fun hc=>by cases hc),fun _=>?_⟩,by omega⟩
 cases hb:b with
 | true=>exact h.t hb
 | false =>
  have e:U = U0:=h.f hb;rw [<- e,hq];rfl
theorem FdI.done (h:FdI d U0 (g,U,b)) (hq:fdT d U = none):(U,c || b) = fdR (U0,c) d:=by
 have h2:lc d g U = lc d FU2 U0:=h.res;rw [zh hq] at h2;unfold fdR;rw [<- h2]
 cases hb:b with
 | true=>rw [h.t hb]
 | false =>
  have e:U = U0:=h.f hb;rw [<- e,hq];rfl
end
end
section
def avr (a b:AS):Bool:=a9b b a
def b20 (l:List AS):List AS:=aok avr l
def okM (l:List AS) (i k:Nat):Bool:=(List.range k).all fun j=>decide (j = i) || !a9b (l.getD j default) (l.getD i default)
def b0a (l:List AS) (i:Nat):List AS:=((ord l).take i).filter fun x=>!abi avr (ord l) x
def yq (rest L x:AS) (T:List AS) (y:AS):Bool:=!decide (y = 0) && (decide (y &&& ~~~rest = 0) && decide ((L &&& ~~~(x ||| y)) ∈ T))
def yL (rest L x:AS) (T:List AS) (k:Nat):List AS:=((List.range k).map (BitVec.ofNat 32)).filter (yq rest L x T)
section
variable {rest L x:AS} {T:List AS} {k:Nat}
end
end
section
open Go.Proofs
def c6 (n:Int) (ps:List AS):List AS:=if ps.length = 0 then [bi n] else ps.set (ps.length - 1) (ps.getD (ps.length - 1) default ||| (bi n &&& ~~~(orL ps)))
section
variable {ps:List AS}
def arw {n:Int} (h:ps.length = 0):c6 n ps = [bi n]:=if_pos h
def ase {n:Int} (h:¬ ps.length = 0):c6 n ps = ps.set (ps.length - 1) (ps.getD (ps.length - 1) default ||| (bi n &&& ~~~(orL ps))):=if_neg h
def ap1 {e:TypeId} {l:List AS} {f:Nat -> Nat -> PV} {m:Nat} (hm:m = l.length):CoO (.arr true 1 e (0 + m) (d6 0 f (lf sC l))) (.arr true 1 e l.length (lf sC l)):=by
 subst hm;exact ⟨fun h=>h,rfl,rfl,(b2r _).symm,fun i j _ _=>CoP.of_eq (by simp [d6])⟩
def azn {n:Int} {j k:Nat} (h:k = j):j0 .or .u32 (asI (ps.getD k default)) (j0 .andNot .u32 (asI (bi n)) (asI (orL ps))) = asI (ps.getD j default ||| (bi n &&& ~~~(orL ps))):=by
 subst h;rw [ay3,bOr]
def ar8 {x:AS} {cl:Bool} {f:Nat -> Nat -> PV} (h:CoP (f 0 0) (asC x)):CoP (.sl 1 1 cl f) (asl [x]):=CoP.sl rfl (.inl rfl) (fun h=>by cases h) fun i j hi hj=>by
 obtain rfl:i = 0:=by omega
 obtain rfl:j = 0:=by omega
 exact h
def avo (n:Int) (ps:List AS) (hps:ps.length <= 8589934592):a8 b62 16 [pI n,pP (asl ps)] (ah [pP (asl (c6 n ps))]):=by
 refine hpx (nt:=42) Tryz.func16 ?_;refine ca 1 rfl fun hb=>?_;refine xr ?_;refine ce (ka 0 (ka 1 kn)) km (fun i=>⟨[(5,some (vA (orL (ps.take i)))),(6,some (vI i))],[]⟩) ps.length ⟨⟨⟨_,rfl,(CoR.refl _)⟩,⟨_,rfl,(CoR.refl _)⟩,trivial⟩,trivial⟩ ?_;rintro i hi;refine w_8 ?_;refine hcd (fun h0=>?_) (fun h0=>?_)
 · refine za ?_;exact lpx (i + 1) ⟨⟨⟨_,rfl,(qz ((bOr _ _).trans (congrArg asI (a2z b5c).symm)))⟩,⟨_,rfl,(CoR.refl _)⟩,tt⟩,trivial⟩
 obtain rfl:i = ps.length:=by omega
 rw [show ps.take ps.length = ps from b31];refine w_3 ?_;refine m9 900 ?_;refine qy ?_;refine r9 901 true ?_;refine w_2 ?_;refine a9d ⟨[(0,some _),(5,some _),(7,some (.v (.one (.ref 900 ps.length))))],[(900,some (.arr true 1 28 ps.length (lf sC ps)))]⟩ (by exact ⟨⟨c9,c9,⟨_,rfl,CoR.of_eq (congrArg (fun z=>HR.v (.one (.ref 900 z))) (b2r _))⟩,trivial⟩,⟨⟨_,rfl,ap1 rfl⟩,trivial⟩⟩) ?_;refine w_7 ?_;refine hcd (fun h1=>?_) (fun h1=>?_)
 ·
  have h0:ps.length = 0:=by omega
  refine w_3 ?_;refine qcx tv (tz n) ?_;refine m9 902 ?_;refine w_2 ?_;refine bo 4 rfl rfl rfl ?_;exact hx8 rfl rfl rfl (⟨CoC.one (by rw [arw h0];exact ar8 (CoP.refl _)),trivial⟩)
 have h0:¬ ps.length = 0:=by omega
 refine dm ?_;refine qcx tv (tz n) ?_;refine w_7 ?_;refine a9d ⟨[(7,some _)],[(900,some (.arr true 1 28 ps.length (lf sC (ps.set (ps.length - 1) (ps.getD (ps.length - 1) default ||| (bi n &&& ~~~(orL ps)))))))]⟩ (by exact ⟨tt,⟨⟨_,rfl,(a7e (fun h=>h) rfl b5c b5c (congrArg (fun z=>PV.raw (.int .u32 z)) (azn b5c)))⟩,trivial⟩⟩) ?_;refine w_5 ?_;refine bo 4 rfl rfl rfl ?_;exact hx8 rfl rfl rfl (⟨CoC.one (CoP.of_eq (by rw [ase h0];exact (congrArg (fun z=>PV.sl z 1 false (lf sC (ps.set (ps.length - 1) (ps.getD (ps.length - 1) default ||| (bi n &&& ~~~(orL ps)))))) List.length_set.symm))),trivial⟩)
end
end
section
open Go.Proofs
def b1u (n:Int) (ps:List AS) (p m:List Fd):Int:=if lvE n ps = 0 then bj n p m else lvE n ps
section
variable {n:Int} {ps:List AS} {p m:List Fd}
end
end
section
open Go.Proofs
def b1j (n:Int) (a b:BitVec 8):AS:=if (b.toNat:Int) < 128 then u8S n b ||| (bi n &&& ~~~u8S n a) else u8S n b
end
section
open Go.Proofs
def aqf (n:Int) (ps:List AS) (p m:List Fd) (sts:List RSt):a8 b62 43 [pI n,pP (asl ps),pP (fdl p),pP (fdl m),pP (xg sts)] (ah [pB (nq n ps p m sts)]):=by
 refine hpx (nt:=60) Tryz.func43 ?_;refine w_9 ?_;refine qcx (wgx Tryz.func14) (abx n ps) ?_;refine w_2 ?_;refine ag rfl rfl (fun r0=>?_) (fun r0=>?_)
 ·
  have h0:=tz2 (dq r0);(iterate 5 refine k9 (gtf r0) ?_);refine w_7 ?_
  exact hx8 rfl rfl rfl (⟨ccb (by first | exact (a58 b5d).symm | exact (a40 b5d).symm | (symm;simp_all [nq])),trivial⟩)
 have h0:=tz1 (dt r0);(iterate 3 refine qy ?_ (hg:=(gff r0)));refine qcx zz (t8 n p m) ?_ (hg:=(gff r0));refine qy ?_ (hg:=(gff r0));refine w_2 ?_;refine al _ rfl (fun r1=>?_) (fun r1=>?_)
 · have h1:=tz2 (dq (af r0 r1));refine v_4 ?_;exact ⟨ccb (by first | exact (a58 b5d).symm | exact (a40 b5d).symm | (symm;simp_all [nq])),trivial⟩
 have h1:=tz1 (dt (af r0 r1));have hv:lvE n ps = 0:=by simp_all
 have hb:bj n p m = 0:=by simp_all
 have hz:=a96 hv;refine w_5 ?_;refine qcx (wgx Tryz.func84) (acd n ps hv) ?_;refine w_3 ?_;refine m9 0 ?_;refine w_9 ?_;refine am (ι:=Nat × Int × List Rw × Int) (ka 0 (ka 2 (ka 3 (ka 4 (ka 11 kn))))) km (fun x=>⟨[(12,some (vI x.2.2.2)),(13,some (vI x.1))],[(0,some (.box [.p (.raw (.int .i64 x.2.1)), .p (rl x.2.2.1)]))]⟩) (fun x=>so n ps p m sts x) (fun x=>sts.length - x.1) ((0,n,(ae (ai n ps)),0)) (so.start) kk ?_;rintro x hC;have hle:=hC.le;refine w_2 ?_;refine ca 4 rfl fun hsn=>?_;refine w_6 ?_;refine ag rfl rfl (fun r2=>?_) (fun r2=>?_)
 ·
  have h2:=tz1 r2;(iterate 2 refine qy ?_ (hg:=(gtt r2)));refine w_2 ?_;refine al _ rfl (fun r3=>?_) (fun r3=>?_)
  · have h3:=tz1 (cn r2 r3);refine dn ?_;refine qcx ab1 (an8 x.2.1 x.2.2.1 p m (sts.getD x.1 default).1 (sts.getD x.1 default).2.1 (sts.getD x.1 default).2.2.1 (sts.getD x.1 default).2.2.2) ?_;refine pe ?_;refine lpz (x.1 + 1,(nj x.2.1 x.2.2.1 p m (sts.getD x.1 default)).1,(nj x.2.1 x.2.2.1 p m (sts.getD x.1 default)).2.1,(nj x.2.1 x.2.2.1 p m (sts.getD x.1 default)).2.2) ⟨⟨⟨_,rfl,(CoR.refl _)⟩,⟨_,rfl,(coi b5k)⟩,tt⟩,uu⟩ ?_;exact hC.step b5c b5h
  have h3:=tz2 (cn r2 r3);refine w_6 ?_;refine ag rfl rfl (fun r4=>?_) (fun r4=>?_)
  ·
   have h4:=tz1 r4;(iterate 2 refine qy ?_ (hg:=(gtt r4)));refine qcx a9w (a9l n b5c) ?_ (hg:=(gtt r4));refine qcx a0d (ze x.2.1 x.2.2.1 (br n)) ?_ (hg:=(gtt r4));refine w_4 ?_
   exact hx8 rfl rfl rfl (⟨ccb (by rw [qf hv hb];first | exact (hC.no b5d).symm | (refine Eq.trans ?_ (hC.no b5d).symm;simp_all;done) | (refine Eq.trans ?_ (hC.fin b5c b5d).symm;first | rfl | (simp_all;done) | (simp_all;rfl))),trivial⟩)
  have h4:=tz2 r4;(iterate 4 refine k9 (gft r4) ?_);refine w_4 ?_
  exact hx8 rfl rfl rfl (⟨ccb (by rw [qf hv hb];first | exact (hC.no b5d).symm | (refine Eq.trans ?_ (hC.no b5d).symm;simp_all;done) | (refine Eq.trans ?_ (hC.fin b5c b5d).symm;first | rfl | (simp_all;done) | (simp_all;rfl))),trivial⟩)
 have h2:=tz2 r2;(iterate 2 refine k9 (gft r2) ?_);refine w_9 ?_;refine ag rfl rfl (fun r5=>?_) (fun r5=>?_)
 ·
  have h5:=tz1 r5;(iterate 2 refine qy ?_ (hg:=(gtt r5)));refine qcx a9w (a9l n b5c) ?_ (hg:=(gtt r5));refine qcx a0d (ze x.2.1 x.2.2.1 (br n)) ?_ (hg:=(gtt r5));refine w_4 ?_
  exact hx8 rfl rfl rfl (⟨ccb (by rw [qf hv hb];first | exact (hC.no b5d).symm | (refine Eq.trans ?_ (hC.no b5d).symm;simp_all;done) | (refine Eq.trans ?_ (hC.fin b5c b5d).symm;first | rfl | (simp_all;done) | (simp_all;rfl))),trivial⟩)
 have h5:=tz2 r5;(iterate 4 refine k9 (gft r5) ?_);refine w_4 ?_
 exact hx8 rfl rfl rfl (⟨ccb (by rw [qf hv hb];first | exact (hC.no b5d).symm | (refine Eq.trans ?_ (hC.no b5d).symm;simp_all;done) | (refine Eq.trans ?_ (hC.fin b5c b5d).symm;first | rfl | (simp_all;done) | (simp_all;rfl))),trivial⟩)
end
section
section
variable {k:Nat}
def asm {α:Type} [Inhabited α] {s:Nat} {e:TypeId} {c:α -> Nat -> PV} {l:List α} {n p j m b d n':Nat} {z:List Value} (hk:k < l.length) (hn:n = n') (hn2:n' = (l.eraseIdx k).length) (hp:p = k) (hj:j = k + 1) (hm:m = l.length - (k + 1)) (hc:l.length - 1 <= b):
 CoO (.arr true s e n (k7 (mvF (lf c l) p j m) b d z)) (.arr true s e n' (lf c (l.eraseIdx k))):=by
 subst hp hj hm hn;rw [b3t,if_pos hk] at hn2;refine ⟨fun h=>h,rfl,rfl,rfl,fun i q hi hq=>CoP.of_eq ?_⟩;show k7 (mvF (lf c l) p (p + 1) (l.length - (p + 1))) b d z i q = lf c (l.eraseIdx p) i q;unfold k7;rw [if_neg b5c];unfold mvF;simp only [lf,List.getD];rw [List.getElem?_eraseIdx];by_cases h:i < p
 · rw [if_neg b5c,if_pos h]
 rw [if_pos b5c,if_neg h,show i - p + (p + 1) = i + 1 by omega]
def pn {α:Type} (k:Nat) (v:α) (l:List α):List α:=l.take k ++ v :: l.drop k
def a8e {α:Type} {v:α} {l:List α} (hk:k <= l.length):(pn k v l).length = l.length + 1:=by
 unfold pn;rw [b2s,b2g,b3m,b3q];omega
def apf {α:Type} [Inhabited α] {s n m:Nat} {e:TypeId} {c:α -> Nat -> PV} {l:List α} {v:α} {g:Nat -> Nat -> PV} (hn:n = l.length + 1) (hm:m = (pn k v l).length) (hk:k <= l.length) (hg:∀ j,j < s -> CoP (g 0 j) (c v j)):
 CoO (.arr true s e n (tj k (lf c l) g)) (.arr true s e m (lf c (pn k v l))):=by
 rw [a8e hk] at hm;subst hn hm;refine ⟨fun h=>h,rfl,rfl,rfl,fun i q hi hq=>?_⟩;unfold tj;have hl:(l.take k).length = k:=by rw [b2g];omega
 by_cases h:i < k
 · rw [if_pos h]
   refine CoP.of_eq ?_;simp only [lf,pn,List.getD];rw [b3l b5c,b2o,if_pos h]
 rw [if_neg h];by_cases h2:i = k
 · rw [if_pos h2]
   have:lf c (pn k v l) i q = c v q:=by
    simp only [lf,pn,List.getD];rw [b3e b5c,hl,h2,Nat.sub_self];rfl
   rw [this];exact hg q hq
 rw [if_neg h2];refine CoP.of_eq ?_;simp only [lf,pn,List.getD];rw [b3e b5c,hl,show i - k = (i - 1 - k) + 1 by omega,List.getElem?_cons_succ,b42,show k + (i - 1 - k) = i - 1 by omega]
def qt (r:List RSt) (k:Nat) (v:Int):List RSt:=r.set k ((r.getD k default).1,(r.getD k default).2.1,v,(r.getD k default).2.2.2)
variable {r:List RSt}
def pg {L:List RSt} {k':Nat} {v:Int} {q:PV} (hk:k < r.length) (hk':k' = k) (hq:q = .raw (.int .i64 v)) (hL:L = qt r k v):CoP (.sl r.length 4 false (dw (lf RSt.c r) k' (0 + 2) [q])) (xg L):=by
 subst hk' hq hL;refine CoP.sl (by unfold qt;rw [b4q]) (.inl rfl) (fun h=>h) fun i j hi hj=>CoP.of_eq ?_;have hl:(qt r k' v).length = r.length:=by unfold qt;rw [b4q]
 have hi:i < r.length:=by omega
 by_cases e:i = k'
 · subst e
   have e2:(qt r i v).getD i default = ((r.getD i default).1,(r.getD i default).2.1,v,(r.getD i default).2.2.2):=by
    unfold qt;simp [List.getD,hi]
   show _ = RSt.c ((qt r i v).getD i default) j;rw [e2]
   match j,hj with
   | 0,_=>exact if_neg b5c
   | 1,_=>exact if_neg b5c
   | 2,_=>exact if_pos ⟨rfl,by omega,by show 2 < 0 + 2 + 1;omega⟩
   | 3,_=>exact if_neg (by rintro ⟨_,_,h⟩;have h:3 < 0 + 2 + 1:=h;omega)
 have e2:(qt r k' v).getD i default = r.getD i default:=by
  unfold qt;simp [List.getD,List.getElem?_set_ne (Ne.symm e)]
 show _ = RSt.c ((qt r k' v).getD i default) j;rw [e2];exact if_neg fun h=>e h.1
def xa {L:List RSt} {n:Nat} (hn:n = L.length):CoP (.sl n 4 false (lf RSt.c L)) (xg L):=by
 subst hn;exact CoP.refl _
def vm (r:List RSt) (b:Nat):Nat:=b % r.length
def w3 {b:Nat}:(b:Int) % (r.length:Int) = (vm r b:Int):=(Int.natCast_emod _ _).symm
def kf {b:Nat}:((b:Int) % (r.length:Int)).toNat = vm r b:=by rw [w3];rfl
def a5y {b:Nat} (h:(0:Int) < (r.length:Int)):vm r b < r.length:=b4u _ b5c
def a97 {k' j:Nat} (h:k' = k):CoP (lf RSt.c r k' j) (lf RSt.c [r.getD k default] 0 j):=by
 subst h;exact CoP.refl _
def xi (r:List RSt) (b0 b1 b2:Nat):List RSt :=
 if (0:Int) < (r.length:Int) then
  if (b0:Int) % 4 = 1 then qt r (vm r b1) ((b2:Int) % 6 - 1)
  else if (b0:Int) % 4 = 2 then r.eraseIdx (vm r b1)
  else if (b0:Int) % 4 = 3 then pn (vm r b1) (r.getD (vm r b2) default) r
  else r
 else r
def nf (sts r:List RSt) (e:Int) (b0 b1 b2:Nat):List RSt:=if e = 0 /\ 0 < (b0:Int) % 4 then xi r b0 b1 b2 else sts
def oe {v:RSt} (hk:k <= r.length):CoP (.sl (r.length + 1) 4 false (tj k (lf RSt.c r) (lf RSt.c [v]))) (xg (pn k v r)):=by
 have h:=apf (s:=4) (e:=85) (c:=RSt.c) (l:=r) (k:=k) (v:=v) (g:=lf RSt.c [v]) rfl rfl hk (fun j hj=>CoP.refl _);exact CoP.sl h.2.2.2.1 (.inl rfl) (fun h=>h) h.2.2.2.2
def ao4 {sts:List RSt} {e:Int} {b0 b1 b2:Nat}:(nf sts r e b0 b1 b2).length <= sts.length + (r.length + 1):=by
 unfold nf;split
 · unfold xi
   split
   · rename_i h0
     split
     · unfold qt
       rw [b4q];omega
     split
     · rw [b3t]
       split <;> omega
     split
     · rw [a8e (by have:=a5y (b:=b1) h0;omega)]
       omega
     omega
   omega
 omega
def acr {c b:Bool} {P:Prop} [Decidable P] (h:c = true -> P -> b = true):(bif (bif !c then true else !decide P) then true else b) = true:=by
 cases c with
 | false=>rfl
 | true =>
  by_cases hp:P
  · rw [h rfl hp]
    simp
  simp [hp]
def azt {P:Nat -> Prop} (h0:P 0) (h1:P 1) (h2:P 2) (h3:P 3):∀ j,j < 4 -> P j:=fun j hj=>by
 match j,hj with
 | 0,_=>exact h0
 | 1,_=>exact h1
 | 2,_=>exact h2
 | 3,_=>exact h3
end
section
variable {n:Int} {ps:List AS} {p m:List Fd} {l l0:List Rw}
def alr {s:RSt} (h:(nj n l p m s).2.2 = 0):tok n l = true /\ ∃ s':St,ag9 l p m s' /\ nj n l p m s = bu n l p m s':=by
 obtain ⟨mu,i,a,b⟩:=s;show _ /\ ∃ s':St,_ /\ bw n l p m mu i a b = _;have h:(bw n l p m mu i a b).2.2 = 0:=h;unfold bw at h ⊢;split at h
 · rename_i hc
   have hT:tok n l = true:=by
    cases e:tok n l with
    | true=>rfl
    | false =>
     unfold ckE at hc;rw [if_neg (by rw [e];decide)] at hc;exact absurd hc b5i
   refine ⟨hT, ?_⟩;rw [if_pos hc];split at h
   · exact absurd h b5i
   rename_i hbad;rw [if_neg hbad];refine ⟨_, ?_,rfl⟩;unfold ep at hbad;refine ⟨?_, ?_,fun e=>?_,fun e=>?_⟩ <;> dsimp only at * <;> simp only [not_or,not_and] at hbad <;> obtain ⟨h1,h2,h3,h4,h5,h6,h7,h8⟩:=hbad
   · omega
   · omega
   · have:=h8 e;omega
   have:=h7 e;omega
 rename_i hc;exact absurd h hc
def aj5 (hl0:∀ r,r ∈ l0 -> r.length = n.toNat) (hp:p.all (inU n) = true):∀ {sts:List RSt} {l:List Rw} {σ:Int -> Int},Ch n.toNat p m l0 l σ -> qv n p m n l sts = true -> LR n.toNat p m l0 (br n)
 | [],l,σ,hC,h=>by
  unfold qv fg at h;rw [qk,decide_eq_true_iff] at h;exact hC.rows _ h
 | s :: r,l,σ,hC,h=>by
  unfold qv at h;split at h
  · rename_i he
    obtain ⟨hT,s',hok,e⟩:=alr he;rw [e] at he h;obtain ⟨h1,σ',h2⟩:=Ch.app hl0 hT hp hC hok he;rw [h1] at h;exact aj5 hl0 hp h2 h
  cases h
def nv {sts:List RSt} (h:nq n ps p m sts = true) (hc:lsC n ps p m = 0):lsB n ps p m = true:=by
 obtain ⟨hv,hb⟩:=su hc;obtain ⟨h0,h8,h64,_⟩:=o4 hv;obtain ⟨_,h16,_,hp,_⟩:=ov hb;rw [qf hv hb] at h;have hT:=yc h0 h16 h64;have hl:=aj5 (fun r hr=>(jt hT r hr).1) hp Ch.start h;rw [aja (l':=ai n ps) fun r=>dy] at hl
 rcases zt (m:=m) h64 hb with ⟨e,_⟩ | ⟨sts',lend,e,h1,_⟩
 · rw [a4o hv hb] at hc
   unfold lsT at hc;rw [e] at hc;cases hc
 unfold lsB lsT;rw [hc,e,decide_eq_true rfl,b4c];show (lend.any fun r=>decide (r = br n)) = true;rw [qk,decide_eq_true_iff,h1];exact hl
def api:(prS n ps p m).length <= 1300000:=by
 by_cases h:prC n ps p m = 0
 · obtain ⟨hls,i,_,e,_⟩:=aq1 h
   obtain ⟨hv,hb⟩:=su hls;have:(lsT n ps p m).1.length <= 1300000:=a0r (p:=p) (m:=m) hv hb;rw [e,b2g];omega
 by_cases hls:lsC n ps p m = 0
 · obtain ⟨_,_,_,hR⟩:=abl hls
   unfold prS;unfold prC at h;split at h
   · rename_i e
     rw [if_pos e];split at h
     · rename_i e2
       rw [if_pos e2];exact b2b _
     exact absurd rfl h
   rename_i e;rw [if_neg e];exact b2b _
 rw [(aaq hls).1];exact b2b _
end
end
end Go.Hx
