/- A part of the proof: Jw4 Jo2 Jw6 Jb1 Bz6 Ch15 Y4 Bz7 Bz8 Bz9 Y12. -/
import Derived.Test.YteklilhbjjofbaaGreatDoorLa34
set_option linter.all false
set_option maxRecDepth 100000
set_option maxHeartbeats 1000000
namespace Go.Hx
section
open Go.Proofs
def aq7 (t:Tbl) (ps:List AS):a8 b6e 30 [t.pc,pP (asl ps)] (aa [(a1a t ps).pc,pI (m7 t ps)]):=by
 refine hpx (nt:=182) Tryz.func30 ?_;refine sx7 ?_;refine m9 0 ?_;refine m9 1 ?_;refine w_6 ?_;refine qcx (wgx Tryz.func61) (c88 t) ?_;refine w_7 ?_;refine hcn (fun h0=>?_) (fun h0=>?_)
 · refine w_7 ?_;refine hrr ?_;have he:=arv (ps:=ps) (by assumption:¬ ce t = 0);exact f9 rfl rfl (⟨(by rw [a6r he b5p];exact CoC.agg ⟨CoP.refl _,kg,kg,trivial⟩),cci he.symm,trivial⟩)
 have h0:ce t = 0:=by assumption
 have ht:=afv.1 h0;have hna:=ht.na;have hnr:=ht.nr;have hw:∀ i,i < t.rows.length -> (t.rows.getD i default).vals.length = t.attrs.length:=fun i hi=>ht.width hi;have hw':∀ i:Nat,i < t.rows.length -> (t.rows.getD ((i:Int)).toNat default).vals.length = t.attrs.length:=fun i hi=>ht.width hi;refine kj ?_;refine qcx a3r (a19 t.attrs.length ps) ?_;refine w_7 ?_;refine hcn (fun h1=>?_) (fun h1=>?_)
 · refine w_7 ?_;refine hrr ?_;have he:=ary h0 (by assumption:¬ lvE t.attrs.length ps = 0);exact f9 rfl rfl (⟨(by rw [a6r he b5p];exact CoC.agg ⟨CoP.refl _,kg,kg,trivial⟩),cci he.symm,trivial⟩)
 have hv:lvE t.attrs.length ps = 0:=by assumption
 have hps:=aqa hv;have hp64:=apw hv;refine w_5 ?_;refine m9 2 ?_;refine qy ?_;refine m9 3 ?_;refine w_9 ?_;refine bw (ka 1 (ka 2 (ka 4 (ka 7 (ka 9 (ka 43 kn)))))) (kb 0 (kb 1 (kb 3 km))) (fun a=>⟨[(44,some (vI a))],[(2,some (.arr true 1 110 t.attrs.length (tw t.rows a)))]⟩) t.attrs.length ⟨tt,⟨⟨_,rfl,(ak8 rfl fun _=>aj2)⟩,trivial⟩⟩ ?_;rintro a ha;refine w_5 ?_;refine hcd (fun h2=>?_) (fun h2=>?_)
 ·
  refine dh ?_;refine a8r 2 a 30 true 3 114 (lf Val.c (o7 t.rows a)) b5t rfl b5o ari (CoP.sl rfl (.inr rfl) (fun h=>h) (fun i j hi _=>absurd hi (b2y i))) (.inr rfl) rfl rfl ?_;refine w_7 ?_;refine bw (ka 1 (ka 2 (ka 4 (ka 7 (ka 9 (ka 10 (ka 43 (ka 44 (ka 48 (ka 49 kn)))))))))) (kb 0 (kb 1 (kb 3 km))) (fun i=>⟨[(50,some (vI i))],[(2,some (.arrh 1 110 t.attrs.length [30] (fc a (.ref 30 i) (tw t.rows a)))),(30,some (.arr true 3 114 i (lf Val.c (o7 t.rows a))))]⟩) t.rows.length kk ?_;rintro i hi;refine w_5 ?_;refine hcd (fun h3=>?_) (fun h3=>?_)
  · refine w_7 ?_;refine m9 4 ?_;refine v7 ?_;refine rq (out:=Out.mk _ (.v (.one (.ref 30 i)))) rfl rfl rfl (congrArg (fun x=>some (Out.mk _ (.v (.one x)))) xh) rfl ?_;refine w_3 ?_;refine rq rfl rfl rfl rfl rfl ?_ (hp:=⟨rfl,by omega,by rw [hw' i b5o];omega⟩);refine qy ?_;refine m9 5 ?_;refine r9 6 true ?_;refine w_8 ?_;exact lpx (i + 1) ⟨tt,⟨⟨_,rfl,(adw rfl)⟩,⟨_,rfl,(ai8 b5o (ada (CoP.refl _) (CoP.refl _) (CoP.refl _)))⟩,uu⟩⟩
  obtain rfl:i = t.rows.length:=by omega
  refine w_9 ?_;refine rq (out:=Out.mk _ (.v (.one (.ref 30 t.rows.length)))) rfl rfl rfl (congrArg (fun x=>some (Out.mk _ (.v (.one x)))) xh) rfl ?_;refine iq rfl rfl rfl rfl rfl rfl (wgx Tryz.func62) (att 30 (o7 t.rows a) (by rw [x2];omega) _) (⟨congrArg (HV.ref 30) x2.symm,CoP.refl _,trivial⟩) ⟨⟨_,rfl,aph (fun h=>h) x2.symm⟩,trivial⟩ rfl rfl ?_;refine kj ?_;refine rq (out:=Out.mk _ (.v (.one (.ref 30 t.rows.length)))) rfl rfl rfl (congrArg (fun x=>some (Out.mk _ (.v (.one x)))) xh) rfl ?_;refine iq rfl rfl rfl rfl rfl rfl (wgx Tryz.func64) ((awk (a2k iz (o7 t.rows a))).swap 900 30) (⟨congrArg (HV.ref 30) (by rw [abr,x2]),trivial⟩) ⟨⟨_,rfl,co_encL' (fun h=>h) (by rw [abr])⟩,trivial⟩ rfl rfl ?_;refine w_8 ?_;exact lpx (a + 1) ⟨tt,⟨⟨_,rfl,(a9m rfl akq aqn)⟩,uu⟩⟩
 obtain rfl:a = t.attrs.length:=by omega
 refine w_3 ?_;refine eo 3 2 31 true 1 127 (lf (lvC t.rows t.attrs.length) ps) b5t rfl rfl (CoP.sl rfl (.inr rfl) (fun h=>h) (fun i j hi _=>absurd hi (b2y i))) (.inr rfl) rfl rfl ?_;refine w_6 ?_;refine bw (ka 2 (ka 4 (ka 7 (ka 9 (ka 98 (ka 99 kn)))))) (kb 2 (kb 0 (kb 1 km))) (fun p=>⟨[(100,some (vI p))],[(3,some (.box [.p (asl ps), .ref 2 t.attrs.length, .ref 31 p, .p (jo (.slice none 0 0))])),(31,some (.arr true 1 127 p (lf (lvC t.rows t.attrs.length) ps)))]⟩) ps.length kk ?_;rintro p hp;refine c0 ?_;refine c5 98 rfl fun hpn=>?_;refine w_4 ?_;refine hcd (fun h4=>?_) (fun h4=>?_)
 ·
  refine kj ?_;refine rm 7 rfl rfl rfl rfl rfl rfl ?_ (hp:=⟨by omega,by omega,by omega,by show (8:Int) * _ <= _;omega⟩);refine dh ?_;refine bw (ka 2 (ka 4 (ka 7 (ka 9 (ka 14 (ka 15 (ka 98 (ka 99 (ka 100 (ka 108 kn)))))))))) (kb 3 (kb 31 (kb 2 (kb 0 (kb 1 km))))) (fun k=>⟨[(109,some (vI k))],[(7,some (.arr true 1 128 (t.attrs.length + 1) (lvT t.rows (ps.getD p default) k)))]⟩) (t.attrs.length + 1) ⟨tt,⟨⟨_,rfl,(an0 (by first | rfl | omega) fun _=>CoP.refl _)⟩,trivial⟩⟩ ?_;rintro k hk;refine w_5 ?_;refine hcd (fun h5=>?_) (fun h5=>?_)
  ·
   refine w_9 ?_;refine atl 7 (.arrh 1 128 (t.attrs.length + 1) [] fun i j=>.p (lvT t.rows (ps.getD p default) k i j)) rfl aub ?_;refine w_3 ?_;refine m9 8 ?_;refine dq ?_;refine bw (ka 2 (ka 4 (ka 7 (ka 9 (ka 14 (ka 15 (ka 16 (ka 98 (ka 99 (ka 100 (ka 108 (ka 109 (ka 117 (ka 118 kn)))))))))))))) (kb 3 (kb 31 (kb 2 (kb 0 (kb 1 km))))) (fun i=>⟨[(119,some (vI i))],[(7,some (.arrh 1 128 (t.attrs.length + 1) [8] (fc k (.ref 8 0) (lvT t.rows (ps.getD p default) k)))),(8,some (.mp .str i (rp (t.rows.take i) (ps.getD p default) k)))]⟩) t.rows.length ⟨tt,⟨⟨_,rfl,(adr rfl)⟩,⟨_,rfl,(as1 fun _=>rfl)⟩,trivial⟩⟩ ?_;rintro i hi;refine w_5 ?_;refine hcd (fun h6=>?_) (fun h6=>?_)
   · refine w_7 ?_;refine m9 9 ?_;refine w_6 ?_;refine rq (out:=Out.mk _ (.v (.one (.ref 8 0)))) rfl rfl rfl (congrArg (fun x=>some (Out.mk _ (.v (.one x)))) xh) rfl ?_;refine w_3 ?_;refine rq rfl rfl rfl rfl rfl ?_ (hp:=⟨rfl,trivial,⟨by omega,by rw [hw' i b5o];omega⟩,trivial⟩);refine qy ?_;refine rc rfl rfl rfl rfl rfl rfl ac2 (a6q ((t.rows.getD i default).vals.take k) (ps.getD p default) (by rw [b3h];omega)) (⟨CoC.one (an3 (by rw [hw' i b5o];omega)),CoC.refl _,trivial⟩) rfl rfl ?_;refine rs rfl rfl rfl rfl rfl ?_ (hp:=⟨rfl,aab (by rw [b3h];omega),by show i < maxLen;unfold maxLen;omega⟩);refine w_6 ?_;exact lpx (i + 1) ⟨tt,⟨u9,⟨_,rfl,(are b5o rfl)⟩,uu⟩⟩
   obtain rfl:i = t.rows.length:=by omega
   refine cr ?_;refine a5h (id:=8) 7 (lvT t.rows (ps.getD p default) (k + 1)) rfl rfl rfl aws ?_;refine w_4 ?_;exact lpx (k + 1) kk
  obtain rfl:k = t.attrs.length + 1:=by omega
  refine cr ?_;refine bf 15 rfl rfl rfl ?_;refine w_7 ?_;refine m9 10 ?_;refine r9 11 true ?_;refine w_8 ?_;exact lpx (p + 1) ⟨tt,⟨u9,⟨_,rfl,(an7 rfl)⟩,uu⟩⟩
 obtain rfl:p = ps.length:=by omega
 refine w_2 ?_;refine fu 3 2 rfl rfl rfl rfl rfl ?_;refine fu 3 1 rfl rfl rfl rfl rfl ?_;refine eo 3 3 32 true 1 110 (lf vlC []) b5t rfl rfl (CoP.sl rfl (.inr rfl) (fun h=>h) (fun i j hi _=>absurd hi (b2y i))) (.inr rfl) rfl rfl ?_;refine w_2 ?_;refine iq rfl rfl rfl rfl rfl rfl (wgx Tryz.func66) (((au5 t.rows ps t.attrs.length b5o hps t.attrs.length [] [] (b3b _) (b2z _)).swap 1000 3).swap 1001 32) (⟨rfl,kg,trivial⟩) ⟨⟨_,rfl,⟨CoH.refl _,aln,CoP.refl _,rfl,trivial⟩⟩,uu⟩ rfl rfl ?_;refine dq ?_;refine hcd (fun h7=>?_) (fun h7=>?_)
 · refine w_6 ?_;refine hrr ?_;have he:=asy h0 hv b5p;exact f9 rfl rfl (⟨(by rw [a6r he b5t];exact CoC.agg ⟨CoP.refl _,kg,kg,trivial⟩),cci he.symm,trivial⟩)
 have hJ:(fb t.rows ps (bn t.rows t.attrs.length) t.attrs.length [] []).length = (k8 t.rows ps t.attrs.length).length:=rfl;refine w_7 ?_;refine qcx (wgx Tryz.func67) (c77 t.attrs b5o) ?_;refine qy ?_;refine m9 12 ?_;refine w_5 ?_;refine fu 3 3 rfl rfl rfl rfl rfl ?_;refine w_9 ?_;refine eo 12 2 33 true 2 112 (lf Row.c (ju (k8 t.rows ps t.attrs.length))) b5t rfl rfl (CoP.sl rfl (.inr rfl) (fun h=>h) (fun i j hi _=>absurd hi (b2y i))) (.inr rfl) rfl rfl ?_;refine bw (ka 4 (ka 19 (ka 164 (ka 165 kn)))) (kb 1 km) (fun i=>⟨[(166,some (vI i))],[(12,some (.box [.p (.raw (.string t.name)), .p (aha t.attrs), .ref 33 i])),(33,some (.arr true 2 112 i (lf Row.c (ju (k8 t.rows ps t.attrs.length)))))]⟩) ((k8 t.rows ps t.attrs.length).length) kk ?_;rintro i hi;refine w_5 ?_;refine hcd (fun h8=>?_) (fun h8=>?_)
 · refine atj ?_;refine m9 13 ?_;refine r9 14 true ?_;refine w_7 ?_;exact lpx (i + 1) ⟨tt,⟨u9,⟨_,rfl,(adk b5o (CoP.refl _) (CoP.refl _))⟩,uu⟩⟩
 obtain rfl:i = (k8 t.rows ps t.attrs.length).length:=by omega
 refine w_2 ?_;refine fu 12 2 rfl rfl rfl rfl rfl ?_;refine w_5 ?_;refine hrr ?_;have he:=aep h0 hv b5p;exact f9 rfl rfl (⟨(by rw [afo he];exact CoC.agg ⟨CoP.refl _,CoP.refl _,CoP.sl a49 (.inl rfl) (fun h=>h) (fun _ _ _ _=>CoP.refl _),trivial⟩),cci he.symm,trivial⟩)
end
section
section
variable {α:Type} [DecidableEq α] {c:α -> α -> Int}
def a2h (h:Tot c):∀ (l:List α) (p:Option α),l.Pairwise (fun a b=>¬ c b a < 0) -> (∀ x,p = some x -> ∀ y ∈ l,¬ c y x < 0) -> Asc c (io p l) /\ ∀ x,p = some x -> ∀ y ∈ io p l,c x y < 0
 | [],p,_,_=>⟨List.Pairwise.nil,fun _ _ y hy=>by cases hy⟩
 | y :: l,p,hl,hp=>by
  have hl':=b3s.1 hl;simp only [io];split
  · rename_i he
    exact a2h h l p hl'.2 fun x hx z hz=>hp x hx z (by simp [hz])
  rename_i he
  obtain ⟨h1,h2⟩:=a2h h l (some y) hl'.2 fun x hx z hz=>by
   simp only [b2r] at hx;subst hx;exact hl'.1 z hz
  refine ⟨b3s.2 ⟨fun z hz=>h2 y rfl z hz,h1⟩,fun x hx z hz=>?_⟩
  have hxy:c x y < 0:=by
   have h3:=hp x hx y b5r;have h4:=h.anti x y;have h5:c x y ≠ 0:=fun e=>he (by rw [hx,(h.zero x y).1 e]);omega
  rcases b33.1 hz with rfl | hz
  · exact hxy
  exact h.tr _ _ _ hxy (h2 y rfl z hz)
def ans (h:Tot c) {l:List α} (hl:l.Pairwise fun a b=>¬ c b a < 0):Asc c (j7 l):=(a2h h l none hl fun x hx=>by cases hx).1
def xp (c:α -> α -> Int) (x:α):List α -> List α
 | []=>[x]
 | y :: l=>if c x y < 0 then x :: y :: l else if c x y = 0 then y :: l else y :: xp c x l
def a34 (h:Tot c) {x z:α}:∀ {l:List α},z ∈ xp c x l <-> z = x \/ z ∈ l
 | []=>by simp [xp]
 | y :: l=>by
  unfold xp;split
  · simp
  split
  · rename_i e
    have e:=(h.zero x y).1 e;subst e;simp
  rw [b33,a34 h (l:=l),b33];constructor
  · rintro (e | e | e)
    · exact .inr (.inl e)
    · exact .inl e
    exact .inr (.inr e)
  rintro (e | e | e)
  · exact .inr (.inl e)
  · exact .inl e
  exact .inr (.inr e)
def a9g (h:Tot c) {x:α}:∀ {l:List α},Asc c l -> Asc c (xp c x l)
 | [],_=>by simp [xp,Asc]
 | y :: l,hl=>by
  have hl':=b3s.1 hl;unfold xp;split
  · rename_i e
    exact b3s.2 ⟨fun z hz=>by
     rcases b33.1 hz with rfl | hz
     · exact e
     exact h.tr _ _ _ e (hl'.1 z hz),hl⟩
  split
  · exact hl
  rename_i e1 e2;refine b3s.2 ⟨fun z hz=>?_,a9g h hl'.2⟩
  rcases (a34 h).1 hz with rfl | hz
  · have:=h.anti z y;omega
  exact hl'.1 z hz
def a2y (c:α -> α -> Int) (l:List α):List α:=l.foldr (xp c) []
def aa6 (h:Tot c) {z:α}:∀ {l:List α},z ∈ a2y c l <-> z ∈ l
 | []=>by simp [a2y]
 | y :: l=>by
  show z ∈ xp c y (a2y c l) <-> _;rw [a34 h,aa6 h (l:=l),b33]
def acy (h:Tot c):∀ {l:List α},Asc c (a2y c l)
 | []=>List.Pairwise.nil
 | y :: l=>a9g h (acy h (l:=l))
end
section
variable {R:List Row}
def anb {a:Nat}:Asc iz (yn R a):=ans ol (ol.srt _)
def arc {a:Nat}:yn R a = a2y iz (o7 R a):=by
 refine ol.ext anb (acy ol) fun v=>?_;unfold yn;rw [a9u,alq,aa6 ol]
def alu {n:Nat}:bn R n = (List.range n).map fun a=>a2y iz (o7 R a):=b4g fun a _=>arc
def aoq:lsB 3 [3,6] [⟨2,4⟩] [] = true /\ lsC 3 [3,6] [⟨2,4⟩] [] = 0:=by decide +kernel
def aox:prS 3 [3,6] [⟨2,4⟩] [] = [(false,0,0,1)] /\ prC 3 [3,6] [⟨2,4⟩] [] = 0:=by decide +kernel
def axw:qn 3 [3,6] [⟨2,4⟩] [] [(false,0,0,1)] = true:=by decide +kernel
def awR:List Row:=[⟨1,[⟨1,0,emp⟩,⟨1,1,emp⟩,⟨1,5,emp⟩]⟩,⟨2,[⟨1,6,emp⟩,⟨1,1,emp⟩,⟨1,2,emp⟩]⟩]
def awT:Tbl:=⟨⟨#[116]⟩,jm.take 3,awR⟩
def apb:a5r 3 [3,6] [] [] = awT /\ qp 3 [3,6] [] [] = 0:=by decide +kernel
def ax5:(fb awR [3,6] ((List.range 3).map fun a=>a2y iz (o7 awR a)) 3 [] []).length = 4:=by decide +kernel
def awo:(k8 awR [3,6] 3).length = 4:=by
 unfold k8;rw [alu];exact ax5
def aoi:ce awT = 0 /\ lvE 3 [3,6] = 0:=by decide +kernel
def aoj:m7 awT [3,6] = 0:=aep aoi.1 aoi.2 (by
 show ¬ (1000:Int) < ((k8 awR [3,6] 3).length:Int)
 rw [awo];decide)
def axa:(a1a awT [3,6]).rows.length = 4:=by
 rw [afo aoj];show (ju (k8 awR [3,6] 3)).length = 4;rw [a49,awo]
end
end
section
open Go.Proofs
def ay7:a8 b6e 17 [pI 3,pP (asl [3,6]),pP (fdl [⟨2,4⟩]),pP (fdl [])] (aa [pB true,pI 0]):=by
 have h:=ale 3 [3,6] [⟨2,4⟩] [];rw [aoq.1,aoq.2] at h;exact h
def ax1:a8 b6e 21 [pI 3,pP (asl [3,6]),pP (fdl [⟨2,4⟩]),pP (fdl [])] (aa [pP (stl [(false,0,0,1)]),pI 0]):=by
 have h:=aax 3 [3,6] [⟨2,4⟩] [];rw [aox.1,aox.2] at h;exact h
def axq:a8 b6e 24 [pI 3,pP (asl [3,6]),pP (fdl [⟨2,4⟩]),pP (fdl []),pP (ag4 [(false,0,0,1)])] (aa [pB true]):=by
 have h:=a6j 3 [3,6] [⟨2,4⟩] [] [(false,0,0,1)];rw [axw] at h;exact h
def ax7:a8 b6e 27 [pI 3,pP (asl [3,6]),pP (fdl []),pP (fdl [])] (aa [awT.pc,pI 0]):=by
 have h:=ath 3 [3,6] [] [];rw [apb.1,apb.2] at h;exact h
def aym:a8 b6e 30 [awT.pc,pP (asl [3,6])] (aa [(a1a awT [3,6]).pc,pI 0]):=by
 have h:=aq7 awT [3,6];rw [aoj] at h;exact h
def a5j {cl:Bool} {x:Fd} {f:Nat -> Nat -> PV} (h0:CoP (f 0 0) (Fd.c x 0)) (h1:CoP (f 0 1) (Fd.c x 1)):CoP (.sl 1 2 cl f) (fdl [x]):=apt (lt2 h0 h1)
def o0:goodFn b6e 11:=wgx Tryz.func11
def apv (J:Tbl) (hJ:J.rows.length = 4) (hc:a8 b6e 30 [awT.pc,pP (asl [3,6])] (aa [J.pc,pI 0])):a8 b6e 11 [] (aa [pB true]):=by
 refine hpx (nt:=77) Tryz.func11 ?_;refine w_6 ?_;refine m9 0 ?_;refine qy ?_;refine m9 1 ?_;refine w_4 ?_;refine bf 1 rfl rfl rfl ?_;refine bf 2 rfl rfl rfl ?_;refine w_3 ?_;refine rc rfl rfl rfl rfl rfl rfl ac4 (ay7) (⟨CoC.refl _,CoC.one (s6 (CoP.refl _) (CoP.refl _)),CoC.one (a5j (CoP.refl _) (CoP.refl _)),a18,trivial⟩) rfl rfl ?_;refine dh ?_;refine rc rfl rfl rfl rfl rfl rfl aa7 (ax1) (⟨CoC.refl _,CoC.one (s6 (CoP.refl _) (CoP.refl _)),CoC.one (a5j (CoP.refl _) (CoP.refl _)),a18,trivial⟩) rfl rfl ?_;refine w_9 ?_;refine rc rfl rfl rfl rfl rfl rfl (wgx Tryz.func27) (ax7) (⟨CoC.refl _,CoC.one (s6 (CoP.refl _) (CoP.refl _)),a18,a18,trivial⟩) rfl rfl ?_;refine w_3 ?_;refine m9 2 ?_;refine w_7 ?_;refine rc rfl rfl rfl rfl rfl rfl (wgx Tryz.func30) (hc) (⟨CoC.refl _,CoC.one (s6 (CoP.refl _) (CoP.refl _)),trivial⟩) rfl rfl ?_;refine w_3 ?_;refine m9 3 ?_;refine agw ?_;refine rc rfl rfl rfl rfl rfl rfl aac (axq) (⟨CoC.refl _,CoC.one (s6 (CoP.refl _) (CoP.refl _)),CoC.one (a5j (CoP.refl _) (CoP.refl _)),a18,CoC.one aes,trivial⟩) rfl rfl ?_;refine agw ?_;exact hx8 rfl rfl rfl (⟨ccb (by first | rfl | (show decide ((J.rows.length:Int) = 4) = true;rw [hJ];rfl)),trivial⟩)
def jr:a8 b6e 11 [] (aa [pB true]):=apv (a1a awT [3,6]) axa aym
end
section
section
variable {n:Int} {ps:List AS} {p m:List Fd}
def akp (hb:bi n p m = 0):∀ {sts:List St} {l lend:List Rw} {i:Nat},TrZ n p m lend l sts -> i <= sts.length -> sj n p m n l ((sts.take i).map St.r) = fg n ((trL n p m l sts).getD i default)
 | sts,l,lend,0,_,_=>by
  rw [a6a,List.take_zero];rfl
 | [],_,_,i + 1,_,hi=>by simp at hi
 | s :: r,l,lend,i + 1,h,hi=>by
  obtain ⟨hT,hok,l',e,_,h⟩:=h;have ea:vj n l p m (St.r s) = bu n l p m s:=a7y hT hb hok;have ih:=akp hb (i:=i) h (by simpa using hi);simp only [List.take_succ_cons,b4e,sj];rw [ea,e,if_pos rfl];unfold trL;rw [e];exact ih
def aq4 (h:prC n ps p m = 0):lsC n ps p m = 0 /\ ∃ i,i <= (lsT n ps p m).1.length /\ prS n ps p m = (lsT n ps p m).1.take i /\ fg n ((trL n p m (ae (ah n ps)) (lsT n ps p m).1).getD i default) = true:=by
 have hls:lsC n ps p m = 0:=by
  apply Classical.byContradiction;intro hn;have:=(adb hn).2;exact hn (this ▸ h)
 refine ⟨hls, ?_⟩
 have key:∀ k,k <= (lsT n ps p m).1.length + 1 -> (∀ j,j < k -> fg n ((trL n p m (ae (ah n ps)) (lsT n ps p m).1).getD j default) = false) \/ ∃ i,i < k /\ (∀ j,j < i -> fg n ((trL n p m (ae (ah n ps)) (lsT n ps p m).1).getD j default) = false) /\ fg n ((trL n p m (ae (ah n ps)) (lsT n ps p m).1).getD i default) = true:=by
  intro k
  induction k with
  | zero=>intro _;exact .inl fun j hj=>absurd hj (b2y j)
  | succ k ih =>
   intro hk
   rcases ih b5o with h1 | ⟨i,h1,h2,h3⟩
   · cases hf:fg n ((trL n p m (ae (ah n ps)) (lsT n ps p m).1).getD k default) with
     | true=>exact .inr ⟨k,by omega,h1,hf⟩
     | false =>
      refine .inl fun j hj=>?_;by_cases e:j = k
      · rw [e];exact hf
      exact h1 j b5o
   exact .inr ⟨i,by omega,h2,h3⟩
 rcases key _ (b2x _) with h1 | ⟨i,h1,h2,h3⟩
 · have:=(aev hls h1).2
   rw [this] at h;cases h
 exact ⟨i,by omega,(al0 hls b5o h2 h3).1,h3⟩
def ao4 (h:prC n ps p m = 0):qn n ps p m ((prS n ps p m).map St.r) = true:=by
 obtain ⟨hls,i,h1,h2,h3⟩:=aq4 h;obtain ⟨hv,hb,hc,_⟩:=ac0 hls;rw [a4d hv hb,h2,akp hb (a9h hv hb hc) h1];exact h3
end
def sgB (n:Int) (c:AS) (z:Int):Int:=if bc c (z % n) = true then z % n else z
section
variable {n:Int} {P Q:AS} {p:List Fd}
def aif {c:AS} {i:Nat} {q:AS} {j:Nat} (h0:0 <= n) (hj:j < n.toNat) (h:bc c (j:Int) = true):sgB n c (stV n i q j) = (j:Int):=by
 unfold sgB;rw [a5n h0 hj,if_pos h]
def a5z {c:AS} {i:Nat} {q:AS} {j:Nat} (h0:0 <= n) (hj:j < n.toNat) (h:bc c (j:Int) = false):sgB n c (stV n i q j) = stV n i q j:=by
 unfold sgB;rw [a5n h0 hj,if_neg (by simp [h])]
def ax4 {c:AS} {j:Nat} (hj:j < n.toNat):sgB n c (j:Int) = (j:Int):=by
 unfold sgB;have:(j:Int) % n = j:=Int.emod_eq_of_lt b5o b5o;rw [this];split <;> rfl
def a8c {a b:AS} {i:Int}:bc (a &&& b) i = (bc a i && bc b i):=by
 unfold bc;rw [b40];cases decide (0 <= i /\ i < 32) <;> simp
def alj {f:Int -> Int} {r s:Rw} (he:r.map f = s.map f) {i:Nat} (h1:i < r.length) (h2:i < s.length):f (r.getD i default) = f (s.getD i default):=by
 have h:=congrArg (fun l:Rw=>l.getD i default) he;skip;rw [fp h1,fp h2] at h;exact h
def aqb {s:AS} {i:Int} (h:bc s i = true):0 <= i /\ i < 32:=by
 unfold bc at h;rw [b30,decide_eq_true_eq] at h;exact h.1
def a9t {a b:AS} (h:∀ i:Nat,i < 32 -> bc a (i:Int) = true -> bc b (i:Int) = true):sub a b:=da.2 fun i hi ha=>by
 have:=h i hi (by rw [ef hi];exact ha);rw [ef hi] at this;exact this
def ajk {s:AS} (h0:0 <= n) (h16:n <= 16) (hs:sub s (ax n)) {i:Nat} (hi:bc s (i:Int) = true):i < n.toNat:=by
 have h32:=aqb hi;have hf:=gt hs hi;rw [ef b5o] at hf;unfold ax at hf;rw [b48 b5o,kf _ _ b5o] at hf;exact of_decide_eq_true hf
def arm (h0:0 <= n) (h16:n <= 16) (hp:p.all (inU n) = true) (hPQ:sub (P &&& Q) (clo p (P &&& Q))) :
 Mdl n.toNat p [] (fun x y=>sgB n (clo p (P &&& Q)) x = sgB n (clo p (P &&& Q)) y) (fun r=>r.length = n.toNat /\ (r.map (sgB n (clo p (P &&& Q))) = (stR n 0 P).map (sgB n (clo p (P &&& Q))) \/ r.map (sgB n (clo p (P &&& Q))) = (stR n 1 Q).map (sgB n (clo p (P &&& Q))))) where
 refl x:=rfl
 symm h:=h.symm
 trans h k:=h.trans k
 len h:=h.1
 cong {r r'} h hl he:=by
  have e:r'.map (sgB n (clo p (P &&& Q))) = r.map (sgB n (clo p (P &&& Q))):=by
   refine List.ext_getElem (by simp [hl]) fun i h1 h2=>?_;have:=he i (by simpa using h2);rw [b2t,b2t,b2s (by simpa using h2),b2s (by simpa using h1)] at this;simpa using this.symm
  exact ⟨hl.trans h.1,by rw [e];exact h.2⟩
 fd {x} hx {a b} ha hb hag:=by
  generalize hc:clo p (P &&& Q) = c at *;have hcl:n7 p c:=by rw [<- hc];exact se
  have hu:=(ng h0 h16).1 (b3x.1 hp x hx)
  have at_:∀ {r:Rw} {k:Nat} {q:AS},r.length = n.toNat -> r.map (sgB n c) = (stR n k q).map (sgB n c) -> ∀ i,i < n.toNat -> sgB n c (r.getD i default) = sgB n c (stV n k q i):=fun {r k q} hr he i hi=>by
   rw [alj he b5o (by rw [oq];exact hi),wu hi]
  have cross:∀ {a b:Rw},a.length = n.toNat -> b.length = n.toNat -> a.map (sgB n c) = (stR n 0 P).map (sgB n c) -> b.map (sgB n c) = (stR n 1 Q).map (sgB n c) -> AgE (fun x y=>sgB n c x = sgB n c y) a b x.lhs -> AgE (fun x y=>sgB n c x = sgB n c y) a b x.rhs:=by
   intro a b hal hbl ha hb hag
   have hlc:sub x.lhs c:=a9t fun i hi hh=>by
    have hin:=ajk h0 h16 hu.1 hh;have h1:sgB n c (a.getD i default) = sgB n c (b.getD i default):=hag i b5o hh;rw [at_ hal ha i hin,at_ hbl hb i hin] at h1;apply Classical.byContradiction;intro hno;have hno:bc c (i:Int) = false:=by simpa using hno
    rw [a5z h0 hin hno,a5z h0 hin hno] at h1;unfold stV at h1
    have hnn:¬ (bc P (i:Int) = true /\ bc Q (i:Int) = true):=fun hh2=>by
     have:bc (P &&& Q) (i:Int) = true:=by rw [a8c,hh2.1,hh2.2];rfl
     rw [gt hPQ this] at hno;cases hno
    split at h1 <;> split at h1
    · rename_i e1 e2;exact hnn ⟨e1,e2⟩
    · omega
    · omega
    omega
   have hrc:=hcl x hx hlc;intro i hi hh;have hin:i < n.toNat:=by omega
   show sgB n c (a.getD i default) = sgB n c (b.getD i default);rw [at_ hal ha i hin,at_ hbl hb i hin,aif h0 hin (gt hrc hh),aif h0 hin (gt hrc hh)]
  have same:∀ {a b:Rw},a.length = n.toNat -> b.length = n.toNat -> a.map (sgB n c) = b.map (sgB n c) -> ∀ s,AgE (fun x y=>sgB n c x = sgB n c y) a b s:=fun {a b} hal hbl he s i hi _=>by
   exact alj he hi b5o
  obtain ⟨hal,ha⟩:=ha;obtain ⟨hbl,hb⟩:=hb
  rcases ha with ha | ha <;> rcases hb with hb | hb
  · exact same hal hbl (ha.trans hb.symm) _
  · exact cross hal hbl ha hb hag
  · have:=cross hbl hal hb ha fun i hi hh=>(hag i b5o hh).symm
    exact fun i hi hh=>(this i b5o hh).symm
  exact same hal hbl (ha.trans hb.symm) _
 mv hx:=by cases hx
def awr (h0:0 <= n) (h16:n <= 16) (hp:p.all (inU n) = true) (hP:sub P (ax n)) (hQ:sub Q (ax n)) (ho:P ||| Q = ax n) :
 LR n.toNat p [] (ah n [P,Q]) (bg n) <-> sub P (clo p (P &&& Q)) \/ sub Q (clo p (P &&& Q)):=by
 constructor
 · intro h
   have hm:=arm (P:=P) (Q:=Q) h0 h16 hp a3q
   have hR:=h _ _ hm (fun r hr=>by
    unfold ah at hr;rw [b3k] at hr;obtain ⟨i,hi,rfl⟩:=hr;have hi:=b3i.1 hi;refine ⟨oq _ _ _, ?_⟩;have hi:i < 2:=hi
    rcases (by omega:i = 0 \/ i = 1) with rfl | rfl
    · exact .inl rfl
    exact .inr rfl)
   obtain ⟨_,hR⟩:=hR;generalize hc:clo p (P &&& Q) = c at *;have hcge:sub (P &&& Q) c:=by rw [<- hc];exact a3q
   have half:∀ {k:Nat} {q q':AS},(bg n).map (sgB n c) = (stR n k q).map (sgB n c) -> sub q' (ax n) -> sub (q &&& q') c -> sub q' c:=fun {k q q'} he hq hqq=>a9t fun i hi hh=>by
    have hin:=ajk h0 h16 hq hh;apply Classical.byContradiction;intro hno;have hno:bc c (i:Int) = false:=by simpa using hno
    have h1:sgB n c ((bg n).getD i default) = sgB n c ((stR n k q).getD i default):=alj he (by rw [qw];exact hin) (by rw [oq];exact hin);rw [aad hin,ax4 hin,wu hin,a5z h0 hin hno] at h1;unfold stV at h1;split at h1
    · rename_i e
      have:bc (q &&& q') (i:Int) = true:=by rw [a8c,e,hh];rfl
      rw [gt hqq this] at hno;cases hno
    have:0 <= (k:Int) * n:=Int.mul_nonneg b5o h0;omega
   rcases hR with hR | hR
   · exact .inr (half hR hQ hcge)
   exact .inl (half hR hP (by rw [show Q &&& P = P &&& Q from BitVec.and_comm _ _];exact hcge))
 intro h E R hm hl;have hp1:=a87 (ps:=[P,Q]) h0 hm hl (q:=P) b5r;have hq1:=a87 (ps:=[P,Q]) h0 hm hl (q:=Q) b5r;refine aje h16 hm ?_
 rcases h with h | h
 · obtain ⟨r,hr,hz⟩:=hq1
   refine ⟨r,hr, ?_⟩;have:=abh hm hr hz hp1 (c:=P) (by rw [show Q &&& P = P &&& Q from BitVec.and_comm _ _];exact h) (sub_self _);rw [show Q ||| P = ax n by rw [BitVec.or_comm];exact ho] at this;exact this
 obtain ⟨r,hr,hz⟩:=hp1;refine ⟨r,hr, ?_⟩;have:=abh hm hr hz hq1 (c:=Q) h (sub_self _);rw [ho] at this;exact this
def avr (h:lsC n [P,Q] p [] = 0):a2q n P Q p = lsB n [P,Q] p []:=by
 obtain ⟨hv,hb⟩:=w9 h;obtain ⟨h0,h8,_,_,ho⟩:=lp hv
 have hve:c6 n p = 0:=by
  apply Classical.byContradiction;intro hn;exact hn ((acw hn).trans hb)
 have hp:=(rz hve).2.2.2;have ho':P ||| Q = ax n:=by rw [<- ho];show _ = orL [P,Q];unfold orL;simp
 have hP:sub P (ax n):=acj hv b5r;have hQ:sub Q (ax n):=acj hv b5r;rw [wa hve ho'];have h1:=(arf hv hb).2;rw [awr h0 b5o hp hP hQ ho'] at h1
 cases hl:lsB n [P,Q] p [] with
 | true =>
  have:=h1.1 hl;rw [b44,decide_eq_true_iff,decide_eq_true_iff];exact this
 | false =>
  rw [Bool.or_eq_false_iff,decide_eq_false_iff_not,decide_eq_false_iff_not];refine ⟨fun h2=>?_,fun h2=>?_⟩
  · rw [h1.2 (.inl h2)] at hl;cases hl
  rw [h1.2 (.inr h2)] at hl;cases hl
end
end
section
def fdP (d:Fd) (r k:AS):Option AS:=if (r ^^^ k) &&& d.lhs = 0 then (if (r ^^^ k) &&& d.rhs = 0 then none else some ((r ^^^ k) &&& d.rhs)) else none
def fdQ (d:Fd) (T:List AS) (r:AS):Option AS:=T.findSome? (fdP d r)
def fdT (d:Fd) (T:List AS):Option AS:=T.findSome? (fdQ d T)
section
variable {T:List AS} {d:Fd}
def amh {s:AS} (h:fdT d T = some s):∃ r ∈ T,∃ k ∈ T,agB d r k = true /\ s = (r ^^^ k) &&& d.rhs /\ s ≠ 0:=by
 unfold fdT at h;obtain ⟨r,hr,h⟩:=b5c h;unfold fdQ at h;obtain ⟨k,hk,h⟩:=b5c h;unfold fdP at h;split at h
 · rename_i h1
   split at h
   · cases h
   rename_i h2;cases h;exact ⟨r,hr,k,hk,decide_eq_true h1,rfl,h2⟩
 cases h
def uf (h:T.Nodup):T.length <= 4294967296:=by
 have h1:(T.map BitVec.toNat).Nodup:=List.Pairwise.map _ (fun a b hab e=>hab (b5k e)) h
 have h2:∀ x ∈ T.map BitVec.toNat,x < 4294967296:=by
  intro x hx;obtain ⟨a,_,rfl⟩:=b3k.1 hx;exact a.isLt
 have hlen:(T.map BitVec.toNat).length = T.length:=b3l _;rw [<- hlen]
 have key:∀ (N:Nat) (l:List Nat),l.Nodup -> (∀ x ∈ l,x < N) -> l.length <= N:=by
  intro N
  induction N with
  | zero =>
   intro l _ hl
   cases l with
   | nil=>exact b2x _
   | cons a l=>exact absurd (hl a b5r) (b2y _)
  | succ N ih =>
   intro l hn hl
   have h3:=ih (l.filter fun x=>!decide (x = N)) (hn.filter _) fun x hx=>by
    rw [b51] at hx;have:=hl x hx.1;have hx2:¬ x = N:=by simpa using hx.2
    omega
   have h4:l.length <= (l.filter fun x=>!decide (x = N)).length + 1:=by
    have h5:∀ l:List Nat,l.length = (l.filter fun x=>!decide (x = N)).length + l.countP fun x=>decide (x = N):=by
     intro l
     induction l with
     | nil=>rfl
     | cons a l ih =>
      by_cases e:a = N
      · simp [b4y,b4z,e,ih];omega
      simp [b4y,b4z,e,ih];omega
    have h6:=h5 l
    have h7:(l.countP fun x=>decide (x = N)) <= 1:=by
     have:=hn.count (a:=N)
     have e:(l.countP fun x=>decide (x = N)) = l.count N:=by
      unfold List.count;congr 1
     rw [e]
     first | exact List.nodup_iff_count.1 hn N | (rw [this];split <;> omega)
    omega
   omega
 exact key _ _ h1 h2
def sy {i:Nat} (hi:i < 32):(orL T).getLsbD i = T.any fun r=>r.getLsbD i:=by
 unfold orL
 have:∀ (T:List AS) (o:AS),(T.foldl (· ||| ·) o).getLsbD i = (o.getLsbD i || T.any fun r=>r.getLsbD i):=by
  intro T
  induction T with
  | nil=>intro o;simp
  | cons a T ih=>intro o;rw [List.foldl_cons,ih,b52,List.any_cons,Bool.or_assoc]
 rw [this];simp
def apj {s:AS}:orL (mo T s) = orL T &&& ~~~s:=by
 apply aal;intro i hi;rw [sy hi,ml hi,sy hi]
 cases hs:s.getLsbD i with
 | true =>
  simp only [Bool.not_true,Bool.and_false];rw [b47];intro z hz;obtain ⟨r,hr,rfl⟩:=a35.1 hz;rw [ml hi,hs];simp
 | false =>
  simp only [Bool.not_false,Bool.and_true];rw [b5d,b3z,b3z];constructor
  · rintro ⟨z,hz,hb⟩
    obtain ⟨r,hr,rfl⟩:=a35.1 hz;rw [ml hi,b30] at hb;exact ⟨r,hr,hb.1⟩
  rintro ⟨r,hr,hb⟩;exact ⟨r &&& ~~~s,a35.2 ⟨r,hr,rfl⟩,by rw [ml hi,hb,hs];rfl⟩
def a6t {s:AS} (h:fdT d T = some s):(orL (mo T s)).toNat < (orL T).toNat:=by
 obtain ⟨r,hr,k,hk,_,rfl,hz⟩:=amh h;rw [apj];refine ta a7x fun e=>?_;obtain ⟨i,hi,hb⟩:=aw6 hz;have h1:=congrArg (fun z:AS=>z.getLsbD i) e;simp only [ml hi,hb,Bool.not_true,Bool.and_false] at h1;have h1:(orL T).getLsbD i = false:=h1.symm;rw [sy hi,b47] at h1;rw [b40,BitVec.getLsbD_xor,b30] at hb;have h2:r.getLsbD i = false:=by simpa using h1 r hr
 have h3:k.getLsbD i = false:=by simpa using h1 k hk
 rw [h2,h3] at hb;simp at hb
def lj (d:Fd):Nat -> List AS -> List AS
 | 0,T=>T
 | f + 1,T=>match fdT d T with
  | none=>T
  | some s=>lj d f (mo T s)
def mvS (d:Fd) (T:List AS) (i k:Nat):List AS:=if agB d (T.getD i default) (T.getD k default) = true then ld T (ve d (T.getD i default) (T.getD k default)) else T
def mvI (d:Fd):Nat -> List AS -> Nat -> Nat -> List AS
 | 0,T,_,_=>T
 | f + 1,T,i,k=>if k < T.length then mvI d f (mvS d T i k) i (k + 1) else T
def mvO (d:Fd):Nat -> List AS -> Nat -> List AS
 | 0,T,_=>T
 | f + 1,T,i=>if i < T.length then mvO d f (mvI d 8589934592 T i 0) (i + 1) else T
def a0d (d:Fd) (T:List AS) (i k:Nat):T <+: mvS d T i k:=by
 unfold mvS ld;split
 · split
   · exact b50 _
   exact List.prefix_append _ _
 exact b50 _
def a0u (d:Fd):∀ (f:Nat) (T:List AS) (i k:Nat),T <+: mvI d f T i k
 | 0,T,_,_=>b50 _
 | f + 1,T,i,k=>by
  unfold mvI;split
  · exact (a0d d T i k).trans (a0u d f _ i (k + 1))
  exact b50 _
def afp (d:Fd):∀ (f:Nat) (T:List AS) (i:Nat),T <+: mvO d f T i
 | 0,T,_=>b50 _
 | f + 1,T,i=>by
  unfold mvO;split
  · exact (a0u d _ T i 0).trans (afp d f _ (i + 1))
  exact b50 _
def aju {i k:Nat} (h:T.Nodup):(mvS d T i k).Nodup:=by
 unfold mvS;split
 · exact qu h
 exact h
def act:∀ {f:Nat} {T:List AS} {i k:Nat},T.Nodup -> (mvI d f T i k).Nodup
 | 0,T,_,_,h=>h
 | f + 1,T,i,k,h=>by
  unfold mvI;split
  · exact act (aju h)
  exact h
def abz:∀ {f:Nat} {T:List AS} {i:Nat},T.Nodup -> (mvO d f T i).Nodup
 | 0,T,_,h=>h
 | f + 1,T,i,h=>by
  unfold mvO;split
  · exact abz (act h)
  exact h
abbrev TC:=List AS × Bool
def FU2:Nat:=8589934592
def fdR (x:TC) (d:Fd):TC:=(lj d FU2 x.1,x.2 || (fdT d x.1).isSome)
def mvR (x:TC) (d:Fd):TC:=(mvO d FU2 x.1 0,x.2 || decide (x.1.length < (mvO d FU2 x.1 0).length))
def qk (fs ms:List Fd) (T:List AS):TC:=ms.foldl mvR (fs.foldl fdR (T,false))
def chF (fs ms:List Fd):Nat -> List AS -> List AS
 | 0,T=>T
 | f + 1,T=>if (qk fs ms T).2 = true then chF fs ms f (qk fs ms T).1 else (qk fs ms T).1
def muT (T:List AS):Nat:=(orL T).toNat * FU2 + (4294967296 - T.length)
def ur {f:Nat} {s:AS} (h:fdT d T = some s):lj d (f + 1) T = lj d f (mo T s):=by
 show (match fdT d T with | none=>T | some s=>lj d f (mo T s)) = _;rw [h]
def yz {f:Nat} (h:fdT d T = none):lj d f T = T:=by
 cases f with
 | zero=>rfl
 | succ f =>
  show (match fdT d T with | none=>T | some s=>lj d f (mo T s)) = _;rw [h]
variable {P:List AS -> Prop}
def ac7 (hP:∀ T s,P T -> fdT d T = some s -> P (mo T s)):∀ (f:Nat) (T:List AS),P T -> P (lj d f T)
 | 0,T,h=>h
 | f + 1,T,h=>by
  cases hq:fdT d T with
  | none=>rw [yz hq];exact h
  | some s=>rw [ur hq];exact ac7 hP f _ (hP T s h hq)
def afe (hP:∀ T r k,P T -> r ∈ T -> k ∈ T -> agB d r k = true -> P (ld T (ve d r k))):∀ (f:Nat) (T:List AS) (i k:Nat),i < T.length -> P T -> P (mvI d f T i k)
 | 0,T,_,_,_,h=>h
 | f + 1,T,i,k,hi,h=>by
  unfold mvI;split
  · rename_i hk
    refine afe hP f _ i (k + 1) (b4j hi (a0d d T i k).length_le) ?_;unfold mvS;split
    · rename_i ha
      exact hP T _ _ h (a85 hi) (a85 hk) ha
    exact h
  exact h
def a7g (hP:∀ T r k,P T -> r ∈ T -> k ∈ T -> agB d r k = true -> P (ld T (ve d r k))):∀ (f:Nat) (T:List AS) (i:Nat),P T -> P (mvO d f T i)
 | 0,T,_,h=>h
 | f + 1,T,i,h=>by
  unfold mvO;split
  · rename_i hi
    exact a7g hP f _ (i + 1) (afe hP _ T i 0 hi h)
  exact h
variable {fs:List Fd}
def a5m (hP:∀ d ∈ fs,∀ T s,P T -> fdT d T = some s -> P (mo T s)):∀ (ds:List Fd) (x:TC),(∀ d ∈ ds,d ∈ fs) -> P x.1 -> P (ds.foldl fdR x).1
 | [],x,_,h=>h
 | d :: ds,x,hd,h=>a5m hP ds (fdR x d) (fun e he=>hd e (by simp [he])) (ac7 (hP d (hd d b5r)) _ _ h)
variable {ms:List Fd}
def af0 (hP:∀ d ∈ ms,∀ T r k,P T -> r ∈ T -> k ∈ T -> agB d r k = true -> P (ld T (ve d r k))):∀ (ds:List Fd) (x:TC),(∀ d ∈ ds,d ∈ ms) -> P x.1 -> P (ds.foldl mvR x).1
 | [],x,_,h=>h
 | d :: ds,x,hd,h=>af0 hP ds (mvR x d) (fun e he=>hd e (by simp [he])) (a7g (hP d (hd d b5r)) _ _ _ h)
def aqx (h1:∀ d ∈ fs,∀ T s,P T -> fdT d T = some s -> P (mo T s)) (h2:∀ d ∈ ms,∀ T r k,P T -> r ∈ T -> k ∈ T -> agB d r k = true -> P (ld T (ve d r k))) (h:P T):P (qk fs ms T).1 :=
 af0 h2 ms _ (fun _ h=>h) (a5m h1 fs (T,false) (fun _ h=>h) h)
def ap6:∀ d ∈ fs,∀ (T:List AS) (s:AS),T.Nodup -> fdT d T = some s -> (mo T s).Nodup:=fun _ _ T s _ _=>a40 T s
def awy:∀ d ∈ ms,∀ (T:List AS) (r k:AS),T.Nodup -> r ∈ T -> k ∈ T -> agB d r k = true -> (ld T (ve d r k)).Nodup:=fun _ _ _ _ _ h _ _ _=>qu h
def al9 {A B:List AS} (h:(orL B).toNat < (orL A).toNat):muT B < muT A:=by
 unfold muT;have h1:((orL B).toNat + 1) * FU2 <= (orL A).toNat * FU2:=b32 _ h;rw [b3n] at h1;have:FU2 = 8589934592:=rfl;omega
def ast {A B:List AS} (hp:A <+: B) (ho:(orL B).toNat = (orL A).toNat) (hB:B.length <= 4294967296):muT B <= muT A /\ (A.length < B.length -> muT B < muT A):=by
 unfold muT;rw [ho];have:=hp.length_le;omega
def asm {r k:AS} (hr:r ∈ T) (hk:k ∈ T):orL (ld T (ve d r k)) = orL T:=by
 apply aal;intro i hi;rw [sy hi,sy hi,b5d,b3z,b3z];constructor
 · rintro ⟨z,hz,hb⟩
   rcases a3n.1 hz with hz | rfl
   · exact ⟨z,hz,hb⟩
   rw [aly hi] at hb;split at hb
   · exact ⟨r,hr,hb⟩
   exact ⟨k,hk,hb⟩
 rintro ⟨z,hz,hb⟩;exact ⟨z,a3n.2 (.inl hz),hb⟩
def ar1 {f:Nat} {i:Nat}:orL (mvO d f T i) = orL T :=
 a7g (P:=fun X=>orL X = orL T) (fun X r k h hr hk _=>(asm hr hk).trans h) f T i rfl
def aer {T0:List AS} (f:Nat):∀ (T:List AS),muT T <= muT T0 -> muT (lj d f T) <= muT T0:=by
 induction f with
 | zero=>intro T h;exact h
 | succ f ih =>
  intro T h
  cases hq:fdT d T with
  | none=>rw [yz hq];exact h
  | some s =>
   rw [ur hq];have h1:=al9 (a6t hq);exact ih _ b5o
def atd (x:TC) (d:Fd):muT (fdR x d).1 <= muT x.1 /\ (x.2 = false -> (fdR x d).2 = true -> muT (fdR x d).1 < muT x.1):=by
 refine ⟨aer _ _ (b2x _),fun h1 h2=>?_⟩;unfold fdR at h2 ⊢;rw [h1,Bool.false_or,Option.isSome_iff_exists] at h2;obtain ⟨s,hs⟩:=h2;show muT (lj d FU2 x.1) < _;rw [show FU2 = 8589934591 + 1 from rfl,ur hs];exact Nat.lt_of_le_of_lt (aer _ _ (b2x _)) (al9 (a6t hs))
def awd {x:TC} (hn:x.1.Nodup) (d:Fd):muT (mvR x d).1 <= muT x.1 /\ (x.2 = false -> (mvR x d).2 = true -> muT (mvR x d).1 < muT x.1):=by
 have h:=ast (afp d FU2 x.1 0) (congrArg BitVec.toNat ar1) (uf (abz hn));refine ⟨h.1,fun h1 h2=>h.2 ?_⟩;unfold mvR at h2;rw [h1,Bool.false_or] at h2;exact of_decide_eq_true h2
def afb:∀ (ds:List Fd) (x:TC),muT (ds.foldl fdR x).1 <= muT x.1 /\ (x.2 = false -> (ds.foldl fdR x).2 = true -> muT (ds.foldl fdR x).1 < muT x.1)
 | [],x=>⟨b2x _,fun h k=>by simp only [List.foldl_nil] at k;rw [h] at k;cases k⟩
 | d :: ds,x=>by
  obtain ⟨a1,a2⟩:=atd x d;obtain ⟨b1,b2⟩:=afb ds (fdR x d);refine ⟨b3r b1 a1,fun h k=>?_⟩
  cases hq:(fdR x d).2 with
  | true=>exact Nat.lt_of_le_of_lt b1 (a2 h hq)
  | false=>exact b4j (b2 hq k) a1
def afi:∀ (ds:List Fd) (x:TC),x.1.Nodup -> muT (ds.foldl mvR x).1 <= muT x.1 /\ (x.2 = false -> (ds.foldl mvR x).2 = true -> muT (ds.foldl mvR x).1 < muT x.1)
 | [],x,_=>⟨b2x _,fun h k=>by simp only [List.foldl_nil] at k;rw [h] at k;cases k⟩
 | d :: ds,x,hn=>by
  obtain ⟨a1,a2⟩:=awd hn d;obtain ⟨b1,b2⟩:=afi ds (mvR x d) (abz hn);refine ⟨b3r b1 a1,fun h k=>?_⟩
  cases hq:(mvR x d).2 with
  | true=>exact Nat.lt_of_le_of_lt b1 (a2 h hq)
  | false=>exact b4j (b2 hq k) a1
def auu (hn:T.Nodup) (h:(qk fs ms T).2 = true):muT (qk fs ms T).1 < muT T:=by
 unfold qk at h ⊢;obtain ⟨a1,a2⟩:=afb fs (T,false);have hn2:(fs.foldl fdR (T,false)).1.Nodup:=a5m ap6 fs (T,false) (fun _ h=>h) hn;obtain ⟨b1,b2⟩:=afi ms (fs.foldl fdR (T,false)) hn2
 cases hq:(fs.foldl fdR (T,false)).2 with
 | true=>exact Nat.lt_of_le_of_lt b1 (a2 rfl hq)
 | false=>exact b4j (b2 hq h) a1
def MU:Nat:=73786976294838206464
def aw3 (T:List AS):muT T < MU:=by
 unfold muT;have h:=(orL T).isLt;have h1:((orL T).toNat + 1) * FU2 <= 4294967296 * FU2:=b32 _ h;rw [b3n] at h1;have e:FU2 = 8589934592:=rfl;have e2:MU = 73786976294838206464:=rfl;omega
def ao5 (rest:AS):List AS:=ld [0] rest
def chT (fs ms:List Fd) (rest:AS):List AS:=chF fs ms MU (ao5 rest)
def ay5 (rest:AS):(ao5 rest).Nodup:=qu b5r
end
end
section
open Go.Proofs
def sT:List Rw:=[[0,1,5],[0,7,2]]
def fdX:List Fd:=[⟨1,2⟩]
end
section
open Go.Proofs
def aqj (n:Int) (l:List Dp) (hl:l.length <= 16777216):a8 b6e 55 [pI n,pP (dpl l)] (aa [pP (fdl (l.map (Dp.fd n)))]):=by
 refine hpx (nt:=32) Tryz.func55 ?_;refine jh ?_;refine qcx (wgx Tryz.func95) (ap3 n l hl) ?_;refine w_8 ?_;refine dn 5 900 true 2 45 (lf Fd.c []) b5t rfl (CoP.sl rfl (.inr rfl) (fun h=>h) (fun i j hi _=>absurd hi (b2y i))) (.inr rfl) rfl ?_;have hll:(l.map (Dp.fd n)).length <= 16777216:=by rw [b3l];exact hl
 refine bw (ka 6 kn) km (fun i=>⟨[(5,some (.v (.one (.ref 900 ((l.map (Dp.fd n)).take i).length)))),(7,some (vI i))],[(900,some (.arr true 2 45 ((l.map (Dp.fd n)).take i).length (lf Fd.c ((l.map (Dp.fd n)).take i))))]⟩) ((l.map (Dp.fd n)).length) ⟨⟨⟨_,rfl,(CoR.refl _)⟩,⟨_,rfl,(CoR.refl _)⟩,trivial⟩,uu⟩ ?_;rintro i hi;have hlen:((l.map (Dp.fd n)).take i).length <= i:=by rw [b3h];omega
 refine w_8 ?_;refine hcd (fun h0=>?_) (fun h0=>?_)
 · refine mj ?_;refine m9 0 ?_;refine r9 1 true ?_;refine w_8 ?_;exact lpx (i + 1) ⟨⟨⟨_,rfl,(i6 (bq b5o))⟩,⟨_,rfl,(CoR.refl _)⟩,tt⟩,⟨⟨_,rfl,(tc (bq b5o) (CoP.refl _) (CoP.refl _))⟩,trivial⟩⟩
 obtain rfl:i = (l.map (Dp.fd n)).length:=by omega
 refine w_6 ?_;refine bf 4 rfl rfl rfl ?_;exact hx8 rfl rfl rfl (⟨CoC.one (CoP.of_eq (by rw [b37];rfl)),trivial⟩)
def axe (x:Mx) (hl:x.d.l.length <= 16777216) (hm:x.m.length <= 16777216):a8 b6e 25 [x.pc] (aa [pI x.d.num,pP (fdl x.d.fds),pP (fdl x.mv),pB x.ok]):=by
 refine hpx (nt:=29) Tryz.func25 ?_;refine sx7 ?_;refine m9 0 ?_;refine w_9 ?_;refine qcx (wgx Tryz.func54) (cOf x.d hl) ?_;refine kw ?_;refine qcx (wgx Tryz.func55) (aqj x.d.num x.m hm) ?_;refine w_2 ?_;refine ag rfl rfl (fun r0=>?_) (fun r0=>?_)
 ·
  have h0:=r0;(iterate 4 refine qy ?_ (hg:=(gtt r0)));refine w_7 ?_
  exact hx8 rfl rfl rfl (⟨CoC.refl _,CoC.refl _,CoC.refl _,ccb (by unfold Mx.ok;try first | rfl | (rw [(by assumption:decide (x.d.l.length <= 6) = false),Bool.false_and]) | (rw [(by assumption:decide (x.d.l.length <= 6) = true),b4o];exact decide_eq_decide.2 b5o)),trivial⟩)
 have h0:=r0;(iterate 4 refine k9 (gft r0) ?_);refine w_7 ?_
 exact hx8 rfl rfl rfl (⟨CoC.refl _,CoC.refl _,CoC.refl _,ccb (by unfold Mx.ok;try first | rfl | (rw [(by assumption:decide (x.d.l.length <= 6) = false),Bool.false_and]) | (rw [(by assumption:decide (x.d.l.length <= 6) = true),b4o];exact decide_eq_decide.2 b5o)),trivial⟩)
end
section
structure MvO (d:Fd) (T0:List AS) (x:Nat × List AS × Nat):Prop where
 nd:x.2.1.Nodup
 pre:T0 <+: x.2.1
 res:mvO d x.1 x.2.1 x.2.2 = mvO d FU2 T0 0
 le:x.2.2 <= x.2.1.length
 fuel:4294967296 < x.1 + x.2.2
structure MvI (d:Fd) (T:List AS) (i:Nat) (x:Nat × List AS × Nat):Prop where
 nd:x.2.1.Nodup
 pre:T <+: x.2.1
 res:mvI d x.1 x.2.1 i x.2.2 = mvI d 8589934592 T i 0
 le:x.2.2 <= x.2.1.length
 fuel:4294967296 < x.1 + x.2.2
section
variable {d:Fd} {T0 T:List AS} {i f k:Nat}
theorem MvO.start (h:T.Nodup):MvO d T (FU2,T,0):=⟨h,b50 _,rfl,b2z _,by show 4294967296 < 8589934592 + 0;omega⟩
theorem MvI.start (h:T.Nodup):MvI d T i (8589934592,T,0):=⟨h,b50 _,rfl,b2z _,by show 4294967296 < 8589934592 + 0;omega⟩
theorem MvO.pos (h:MvO d T0 (f,T,i)):0 < f /\ T.length <= 4294967296:=by
 have h1:=uf h.nd;have h2:=h.le;have h3:=h.fuel;dsimp only at h1 h2 h3;omega
section
variable {U:List AS}
theorem MvI.pos (h:MvI d T i (f,U,k)):0 < f /\ U.length <= 4294967296:=by
 have h1:=uf h.nd;have h2:=h.le;have h3:=h.fuel;dsimp only at h1 h2 h3;omega
theorem MvO.done (h:MvO d T0 (f,T,i)) (hi:¬ i < T.length):T = mvO d FU2 T0 0:=by
 have hp:=h.pos.1;have hr:mvO d f T i = mvO d FU2 T0 0:=h.res;obtain ⟨g,rfl⟩:∃ g,f = g + 1:=⟨f - 1,by omega⟩;unfold mvO at hr;rw [if_neg hi] at hr;exact hr
theorem MvI.done (h:MvI d T i (f,U,k)) (hk:¬ k < U.length):U = mvI d 8589934592 T i 0:=by
 have hp:=h.pos.1;have hr:mvI d f U i k = mvI d 8589934592 T i 0:=h.res;obtain ⟨g,rfl⟩:∃ g,f = g + 1:=⟨f - 1,by omega⟩;unfold mvI at hr;rw [if_neg hk] at hr;exact hr
theorem MvI.next (h:MvI d T i (f,U,k)) (hk:k < U.length):MvI d T i (f - 1,mvS d U i k,k + 1):=by
 have hp:=h.pos.1;have hr:mvI d f U i k = mvI d 8589934592 T i 0:=h.res;obtain ⟨g,rfl⟩:∃ g,f = g + 1:=⟨f - 1,by omega⟩;unfold mvI at hr;rw [if_pos hk] at hr;have hf:4294967296 < g + 1 + k:=h.fuel;exact ⟨aju h.nd,h.pre.trans (a0d d U i k),hr,b3r hk (a0d d U i k).length_le,by show 4294967296 < g + (k + 1);omega⟩
theorem MvO.next (h:MvO d T0 (f,T,i)) (hi:i < T.length) (hU:U = mvI d 8589934592 T i 0):MvO d T0 (f - 1,U,i + 1):=by
 subst hU;have hp:=h.pos.1;have hr:mvO d f T i = mvO d FU2 T0 0:=h.res;obtain ⟨g,rfl⟩:∃ g,f = g + 1:=⟨f - 1,by omega⟩;unfold mvO at hr;rw [if_pos hi] at hr;have hf:4294967296 < g + 1 + i:=h.fuel;exact ⟨act h.nd,h.pre.trans (a0u d _ T i 0),hr,b3r hi (a0u d _ T i 0).length_le,by show 4294967296 < g + (i + 1);omega⟩
end
end
end
section
structure ChI (l m:List Fd) (R:List AS) (x:Nat × List AS × Bool):Prop where
 nd:x.2.1.Nodup
 t:x.2.2 = true -> chF l m x.1 x.2.1 = R /\ muT x.2.1 < x.1
 f:x.2.2 = false -> x.2.1 = R
def b2l (x:Nat × List AS × Bool):Nat:=x.1 + (bif x.2.2 then 1 else 0)
theorem ChI.start (l m:List Fd) (rest:AS):ChI l m (chT l m rest) (MU,ao5 rest,true):=⟨ay5 rest,fun _=>⟨rfl,aw3 _⟩,fun h=>by cases h⟩
theorem ChI.next {l m:List Fd} {R T:List AS} {f:Nat} (h:ChI l m R (f,T,true)):ChI l m R (f - 1,(qk l m T).1,(qk l m T).2) /\ 0 < f:=by
 obtain ⟨h1,h2⟩:=h.t rfl;have h2:muT T < f:=h2;have h1:chF l m f T = R:=h1;have hn:T.Nodup:=h.nd;obtain ⟨g,rfl⟩:∃ g,f = g + 1:=⟨f - 1,by omega⟩;unfold chF at h1;refine ⟨⟨aqx ap6 awy hn,fun hc=>?_,fun hc=>?_⟩,by omega⟩
 · have hc:(qk l m T).2 = true:=hc
   rw [if_pos hc] at h1;have:=auu hn hc;exact ⟨h1,by show muT (qk l m T).1 < g;omega⟩
 have hc:(qk l m T).2 = false:=hc;rw [if_neg (by rw [hc];decide)] at h1;exact h1
def b2h (l:List Fd) (T:List AS) (i:Nat):TC:=(l.take i).foldl fdR (T,false)
def mvX (m:List Fd) (x:TC) (i:Nat):TC:=(m.take i).foldl mvR x
structure FdI (d:Fd) (U0:List AS) (x:Nat × List AS × Bool):Prop where
 nd:x.2.1.Nodup
 res:lj d x.1 x.2.1 = lj d FU2 U0
 fuel:(orL x.2.1).toNat < x.1
 f:x.2.2 = false -> x.2.1 = U0
 t:x.2.2 = true -> (fdT d U0).isSome = true
section
variable {d:Fd} {U0 U:List AS} {g:Nat} {b c:Bool} {s:AS}
theorem FdI.start (h:U0.Nodup):FdI d U0 (FU2,U0,false):=⟨h,rfl,b4j (orL U0).isLt (show 2 ^ 32 <= FU2 by decide),fun _=>rfl,fun h=>by cases h⟩
theorem FdI.len (h:FdI d U0 (g,U,b)):U.length <= 8589934592:=b3r (uf (show U.Nodup from h.nd)) b5t
theorem FdI.next (h:FdI d U0 (g,U,b)) (hq:fdT d U = some s):FdI d U0 (g - 1,mo U s,true) /\ 0 < g:=by
 have h3:(orL U).toNat < g:=h.fuel;have h2:lj d g U = lj d FU2 U0:=h.res;obtain ⟨k,rfl⟩:∃ k,g = k + 1:=⟨g - 1,by omega⟩;rw [ur hq] at h2;have h4:=a6t hq;refine ⟨⟨a40 U s,h2,(by show (orL (mo U s)).toNat < k;omega),(fun hc=>by cases hc),fun _=>?_⟩,by omega⟩
 cases hb:b with
 | true=>exact h.t hb
 | false =>
  have e:U = U0:=h.f hb;rw [<- e,hq];rfl
theorem FdI.done (h:FdI d U0 (g,U,b)) (hq:fdT d U = none):(U,c || b) = fdR (U0,c) d:=by
 have h2:lj d g U = lj d FU2 U0:=h.res;rw [yz hq] at h2;unfold fdR;rw [<- h2]
 cases hb:b with
 | true=>rw [h.t hb]
 | false =>
  have e:U = U0:=h.f hb;rw [<- e,hq];rfl
end
end
section
def au4 (a b:AS):Bool:=abe b a
def b1u (l:List AS):List AS:=aon au4 l
def okM (l:List AS) (i k:Nat):Bool:=(List.range k).all fun j=>decide (j = i) || !abe (l.getD j default) (l.getD i default)
def b15 (l:List AS) (i:Nat):List AS:=((ord l).take i).filter fun x=>!aca au4 (ord l) x
def yq (rest L x:AS) (T:List AS) (y:AS):Bool:=!decide (y = 0) && (decide (y &&& ~~~rest = 0) && decide ((L &&& ~~~(x ||| y)) ∈ T))
def yL (rest L x:AS) (T:List AS) (k:Nat):List AS:=((List.range k).map (BitVec.ofNat 32)).filter (yq rest L x T)
section
variable {rest L x:AS} {T:List AS} {k:Nat}
end
end
section
open Go.Proofs
def ez (n:Int) (ps:List AS):List AS:=if ps.length = 0 then [ax n] else ps.set (ps.length - 1) (ps.getD (ps.length - 1) default ||| (ax n &&& ~~~(orL ps)))
section
variable {ps:List AS}
def aqi {n:Int} (h:ps.length = 0):ez n ps = [ax n]:=if_pos h
def asb {n:Int} (h:¬ ps.length = 0):ez n ps = ps.set (ps.length - 1) (ps.getD (ps.length - 1) default ||| (ax n &&& ~~~(orL ps))):=if_neg h
def ai4 (n:Int) (ps:List AS):(ez n ps).length <= ps.length + 1:=by
 unfold ez;split
 · simp
 rw [List.length_set];omega
def aru {e:TypeId} {l:List AS} {f:Nat -> Nat -> PV} {m:Nat} (hm:m = l.length):CoO (.arr true 1 e (0 + m) (cq 0 f (lf sC l))) (.arr true 1 e l.length (lf sC l)):=by
 subst hm;exact ⟨fun h=>h,rfl,rfl,(b3b _).symm,fun i j _ _=>CoP.of_eq (by simp [cq])⟩
def b06 {n:Int} {j k:Nat} (h:k = j):er .or .u32 (asI (ps.getD k default)) (er .andNot .u32 (asI (ax n)) (asI (orL ps))) = asI (ps.getD j default ||| (ax n &&& ~~~(orL ps))):=by
 subst h;rw [ai0,bOr]
def asd {x:AS} {cl:Bool} {f:Nat -> Nat -> PV} (h:CoP (f 0 0) (asC x)):CoP (.sl 1 1 cl f) (asl [x]):=CoP.sl rfl (.inl rfl) (fun h=>by cases h) fun i j hi hj=>by
 obtain rfl:i = 0:=by omega
 obtain rfl:j = 0:=by omega
 exact h
def avl (n:Int) (ps:List AS) (hps:ps.length <= 8589934592):a8 b6e 16 [pI n,pP (asl ps)] (aa [pP (asl (ez n ps))]):=by
 refine hpx (nt:=42) Tryz.func16 ?_;refine c5 1 rfl fun hb=>?_;refine v7 ?_;refine bw (ka 0 (ka 1 kn)) km (fun i=>⟨[(5,some (vA (orL (ps.take i)))),(6,some (vI i))],[]⟩) ps.length ⟨⟨⟨_,rfl,(CoR.refl _)⟩,⟨_,rfl,(CoR.refl _)⟩,trivial⟩,trivial⟩ ?_;rintro i hi;refine w_8 ?_;refine hcd (fun h0=>?_) (fun h0=>?_)
 · refine yo ?_;exact lpx (i + 1) ⟨⟨⟨_,rfl,(la ((bOr _ _).trans (congrArg asI (a2m b5o).symm)))⟩,⟨_,rfl,(CoR.refl _)⟩,tt⟩,trivial⟩
 obtain rfl:i = ps.length:=by omega
 rw [show ps.take ps.length = ps from b37];refine w_3 ?_;refine m9 900 ?_;refine qy ?_;refine r9 901 true ?_;refine w_2 ?_;refine a9d ⟨[(0,some _),(5,some _),(7,some (.v (.one (.ref 900 ps.length))))],[(900,some (.arr true 1 28 ps.length (lf sC ps)))]⟩ (by exact ⟨⟨c9,c9,⟨_,rfl,CoR.of_eq (congrArg (fun z=>HR.v (.one (.ref 900 z))) (b3b _))⟩,trivial⟩,⟨⟨_,rfl,aru rfl⟩,trivial⟩⟩) ?_;refine w_7 ?_;refine hcd (fun h1=>?_) (fun h1=>?_)
 ·
  have h0:ps.length = 0:=by omega
  refine w_3 ?_;refine qcx lr (lv n) ?_;refine m9 902 ?_;refine w_2 ?_;refine bf 4 rfl rfl rfl ?_;exact hx8 rfl rfl rfl (⟨CoC.one (by rw [aqi h0];exact asd (CoP.refl _)),trivial⟩)
 have h0:¬ ps.length = 0:=by omega
 refine dh ?_;refine qcx lr (lv n) ?_;refine w_7 ?_;refine a9d ⟨[(7,some _)],[(900,some (.arr true 1 28 ps.length (lf sC (ps.set (ps.length - 1) (ps.getD (ps.length - 1) default ||| (ax n &&& ~~~(orL ps)))))))]⟩ (by exact ⟨tt,⟨⟨_,rfl,(a5q (fun h=>h) rfl b5o b5o (congrArg (fun z=>PV.raw (.int .u32 z)) (b06 b5o)))⟩,trivial⟩⟩) ?_;refine w_5 ?_;refine bf 4 rfl rfl rfl ?_;exact hx8 rfl rfl rfl (⟨CoC.one (CoP.of_eq (by rw [asb h0];exact (congrArg (fun z=>PV.sl z 1 false (lf sC (ps.set (ps.length - 1) (ps.getD (ps.length - 1) default ||| (ax n &&& ~~~(orL ps)))))) List.length_set.symm))),trivial⟩)
end
end
end Go.Hx
