/- A part of the proof: Jp2 Jb1 Jp3 Bz6 Ch15 Bz7 Bz8 Bz9 Y12 Sp5 Jp4 Kl1 Bz11 Kl2 Kb8. -/
import Derived.Test.YtnlcekpflogjkaaGreatDoorTx43
set_option linter.all false
set_option maxRecDepth 100000
namespace Go.Hx
section
section
variable {R:List Row} {ps:List AS} {cols:List (List Val)} {s:AS} {n:Nat}
def alp:∀ {l m:List Val} {a:Nat},l.length = m.length -> (jl s a l = jl s a m <-> ∀ i,i < l.length -> c8 s ((a + i:Nat):Int) = true -> l.getD i default = m.getD i default)
 | [],[],a,_=>⟨fun _ i hi _=>absurd hi (brg i),fun _=>rfl⟩
 | [],_ :: _,_,h=>by simp at h
 | _ :: _,[],_,h=>by simp at h
 | v :: l,w :: m,a,hl=>by
  have hl2:l.length = m.length:=by simpa using hl
  have ih:=alp (l:=l) (m:=m) (a:=a + 1) hl2;unfold jl;by_cases hs:c8 s (a:Int) = true
  · rw [if_pos hs,if_pos hs,bue,ih]
    constructor
    · rintro ⟨h1,h2⟩ i hi hh
      cases i with
      | zero=>exact h1
      | succ i=>exact h2 i (by simpa using hi) (by rw [show a + 1 + i = a + (i + 1) by omega];exact hh)
    intro h;refine ⟨h 0 bvd hs,fun i hi hh=>?_⟩;exact h (i + 1) (by simpa using hi) (by rw [show a + (i + 1) = a + 1 + i by omega];exact hh)
  rw [if_neg hs,if_neg hs,ih];constructor
  · intro h i hi hh
    cases i with
    | zero=>exact absurd hh hs
    | succ i=>exact h i (by simpa using hi) (by rw [show a + 1 + i = a + (i + 1) by omega];exact hh)
  intro h i hi hh;exact h (i + 1) (by simpa using hi) (by rw [show a + (i + 1) = a + 1 + i by omega];exact hh)
theorem rt {l m:List Val} (hl:l.length = m.length):sel l s = sel m s <-> ∀ i:Nat,i < l.length -> c8 s (i:Int) = true -> l.getD i default = m.getD i default:=by
 unfold sel;rw [alp hl]
 grind
def okJ (R:List Row) (ps:List AS) (vs:List Val):Bool:=ps.all fun s=>od R s vs.length (fb vs s)
def u6 (R:List Row) (ps:List AS) (cols:List (List Val)):Nat -> List Val -> List (List Val)
 | 0,vs=>if okJ R ps vs = true then [vs] else []
 | d + 1,vs=>if okJ R ps vs = true then (cols.getD vs.length default).flatMap fun v=>u6 R ps cols d (vs ++ [v]) else []
def azw (hp:0 < ps.length) {vs:List Val} {m:Nat} (h:1000 < m):mh R ps vs m = true:=by
 unfold mh;rw [bsf];exact ⟨_,brs hp,by simp [pk,h]⟩
theorem b2j {vs:List Val} {m:Nat} (h:m <= 1000):mh R ps vs m = !okJ R ps vs:=by
 unfold mh okJ pk
 grind
theorem ajz {α:Type} {a b:List α} {k:Nat}:(a.take k ++ b).take k = (a ++ b).take k:=by
 rw [List.take_append,List.take_append,List.take_take,Nat.min_self,brl]
 grind
def ajj {α β:Type} {f:List α -> β -> List α} {g:β -> List α} {k:Nat} (h:∀ acc b,acc.length <= k -> f acc b = (acc ++ g b).take k):∀ {l:List β} {acc:List α},acc.length <= k -> l.foldl f acc = (acc ++ l.flatMap g).take k
 | [],acc,ha=>by simp [bt9 ha]
 | b :: l,acc,ha=>by
  rw [btp,h acc b ha,ajj h (l:=l) (by rw [brl];omega),ajz,bup,bsm]
def aqe (hp:0 < ps.length):∀ {d:Nat} {vs:List Val} {acc:List (List Val)},acc.length <= 1001 -> i9 R ps cols d vs acc = (acc ++ u6 R ps cols d vs).take 1001
 | d,vs,acc,h=>by
  by_cases hm:acc.length <= 1000
  · have hs:=b2j (R:=R) (ps:=ps) (vs:=vs) hm
    cases hk:okJ R ps vs with
    | false =>
     rw [hk] at hs;have e:u6 R ps cols d vs = []:=by cases d <;> (unfold u6;rw [if_neg (by simp [hk])])
     rw [ui hs,e,bse,bt9 h]
    | true =>
     rw [hk] at hs
     cases d with
     | zero =>
      unfold i9 u6;rw [if_neg (by rw [hs];decide),if_pos hk,bt9 (by rw [brh,bst];omega)]
     | succ d =>
      unfold i9 u6;rw [if_neg (by rw [hs];decide),if_pos hk];exact ajj (f:=fun acc v=>i9 R ps cols d (vs ++ [v]) acc) (g:=fun v=>u6 R ps cols d (vs ++ [v])) (fun acc b ha=>aqe hp ha) h
  have hs:=azw (R:=R) hp (vs:=vs) (m:=acc.length) bv9;rw [ui hs,List.take_append,bt9 h,show 1001 - acc.length = 0 by omega,bu7,bse]
def azo (hp:0 < ps.length):pj R ps n = (u6 R ps (ca R n) n []).take 1001:=by
 unfold pj;rw [aqe hp (bre _),btg]
theorem zz:∀ {d:Nat} {vs w:List Val},w ∈ u6 R ps cols d vs <-> ∃ u,w = vs ++ u /\ u.length = d /\ (∀ j,j < d -> u.getD j default ∈ cols.getD (vs.length + j) default) /\ ∀ j,j <= d -> okJ R ps (vs ++ u.take j) = true
 | 0,vs,w=>by
  unfold u6;constructor
  · simp_all
  grind
 | d + 1,vs,w=>by
  unfold u6;constructor
  · intro h
    split at h
    · rename_i hk
      obtain ⟨v,hv,hw⟩:=List.mem_flatMap.1 h;obtain ⟨u,rfl,hl,h1,h2⟩:=zz.1 hw;refine ⟨v :: u,by simp,by simp [hl],fun j hj=>?_,fun j hj=>?_⟩
      · cases j with
        | zero=>exact hv
        | succ j =>
         have:=h1 j bv9;rw [brh,bst,show vs.length + 1 + j = vs.length + (j + 1) by omega] at this;exact this
      cases j with
      | zero=>simpa using hk
      | succ j =>
       grind
    cases h
  rintro ⟨u,rfl,hl,h1,h2⟩;have h0:=h2 0 (bre _);rw [bu7,bse] at h0;rw [if_pos h0]
  cases u with
  | nil=>simp at hl
  | cons v u =>
   refine List.mem_flatMap.2 ⟨v,h1 0 bv9,zz.2 ⟨u,by simp,by simpa using hl,fun j hj=>?_,fun j hj=>?_⟩⟩
   · grind
   grind
def ayr {p x y:List Val}:dl (p ++ x) (p ++ y) = dl x y:=by
 induction p with
 | nil=>rfl
 | cons v p ih =>
  rw [btc,btc,dl,if_neg (by rw [w7.self];simp),ih]
theorem aqp (hc:∀ a,Asc ig (cols.getD a default)):∀ {d:Nat} {vs:List Val},Asc dl (u6 R ps cols d vs)
 | 0,vs=>by
  unfold u6;split
  · grind
  simp_all
 | d + 1,vs=>by
  unfold u6;split
  · refine List.pairwise_flatMap.2 ⟨fun v _=>aqp hc,(hc vs.length).imp fun {v w} hvw x hx y hy=>?_⟩
    obtain ⟨u,rfl,_⟩:=zz.1 hx;obtain ⟨u',rfl,_⟩:=zz.1 hy;rw [bsm,bsm,ayr];exact a5u.2 (.inl hvw)
  simp_all
def ay3 (a:Nat):Asc ig ((ca R n).getD a default):=by
 by_cases h:a < n
 · rw [a0w h]
   exact b44
 rw [show (ca R n).getD a default = [] by simp [ca,List.getD,h];rfl];simp_all
def a0b (R:List Row) (ps:List AS) (n:Nat):List (List Val):=u6 R ps (ca R n) n []
def b6j:Asc dl (a0b R ps n):=aqp ay3
def b4m (hp:0 < ps.length):pj R ps n = (a0b R ps n).take 1001:=azo hp
def alu {r:Row} (hr:r ∈ R) (he:∀ r ∈ R,∀ v ∈ r.vals,ly v) {k:Nat}:∀ v ∈ r.vals.take k,ly v:=fun v hv=>he r hr v (buf hv)
def atg (he:∀ r ∈ R,∀ v ∈ r.vals,ly v) (hw:∀ r ∈ R,r.vals.length = n) {w:List Val} (hl:w.length <= n) (hn:n <= 16) (hv:∀ v ∈ w,ly v) :
 okJ R ps w = true <-> ∀ s ∈ ps,∃ r ∈ R,sel (r.vals.take w.length) s = sel w s:=by
 unfold okJ od;rw [bs2];constructor
 · intro h s hs
   have:=h s hs;obtain ⟨r,hr,e⟩:=bsf.1 this;refine ⟨r,hr, ?_⟩;have hlen:(r.vals.take w.length).length = w.length:=by rw [brl,hw r hr];omega
   exact (aq7 hlen bv9 (alu hr he) hv).1 (of_decide_eq_true e)
 intro h s hs;obtain ⟨r,hr,e⟩:=h s hs;refine bsf.2 ⟨r,hr,decide_eq_true ?_⟩;have hlen:(r.vals.take w.length).length = w.length:=by rw [brl,hw r hr];omega
 exact (aq7 hlen bv9 (alu hr he) hv).2 e
theorem b57 (he:∀ r ∈ R,∀ v ∈ r.vals,ly v) (hw:∀ r ∈ R,r.vals.length = n) (hn:n <= 16) (hf:orL ps = aa n) {w:List Val} :
 w ∈ a0b R ps n <-> w.length = n /\ ∀ s ∈ ps,∃ r ∈ R,sel r.vals s = sel w s:=by
 unfold a0b;rw [zz];constructor
 · rintro ⟨u,e0,hl,h1,h2⟩
   rw [btg] at e0;subst e0;refine ⟨hl, ?_⟩;have h3:=h2 n (brd _);rw [btg,bt9 bv9] at h3
   have hu:∀ v ∈ w,ly v:=fun v hv=>by
    obtain ⟨j,hj,e⟩:=bry hv;have:=h1 j bv9;rw [bt8,bs5,a0w bv9,anq] at this
    grind
   have h4:=(atg he hw bv9 hn hu).1 h3
   grind
 rintro ⟨hl,h⟩
 have hcol:∀ j,j < n -> ∃ r ∈ R,r.vals.getD j default = w.getD j default:=fun j hj=>by
  have hb:c8 (orL ps) (j:Int) = true:=by
   rw [hf,dx bv9];unfold aa;rw [bsh bv9,l7 _ _ bv9];simpa using hj
  have:∃ s ∈ ps,c8 s (j:Int) = true:=by
   rw [dx bv9] at hb;unfold orL at hb;rw [a2s,bsl] at hb
   rcases hb with hb | hb
   · simp at hb
   obtain ⟨s,hs,hh⟩:=bsf.1 hb;exact ⟨s,hs,by rw [dx bv9];exact hh⟩
  obtain ⟨s,hs,hh⟩:=this;obtain ⟨r,hr,e⟩:=h s hs;exact ⟨r,hr,(rt ((hw r hr).trans hl.symm)).1 e j (by rw [hw r hr];exact hj) hh⟩
 have hu:∀ v ∈ w,ly v:=fun v hv=>by
  obtain ⟨j,hj,e⟩:=bry hv
  grind
 refine ⟨w,rfl,hl,fun j hj=>?_,fun j hj=>?_⟩
 · rw [bt8,bs5,a0w hj,anq]
   grind
 rw [btg];have hjl:(w.take j).length = j:=by rw [brl];omega
 rw [atg he hw bv9 hn fun v hv=>hu v (buf hv)];intro s hs;obtain ⟨r,hr,e⟩:=h s hs;refine ⟨r,hr, ?_⟩;rw [hjl];have hrl:=hw r hr;rw [rt (by rw [brl,brl];omega)];intro i hi hh;rw [brl] at hi;have h5:=(rt (hrl.trans hl.symm)).1 e i bv9 hh
 grind
end
end
section
section
variable {n:Int} {ps:List AS} {p m:List Fd}
def b1l (hb:dv n p m = 0):∀ {sts:List St} {l lend:List Rw} {i:Nat},TrZ n p m lend l sts -> i <= sts.length -> a0k n p m n l ((sts.take i).map St.r) = n9 n ((trL n p m l sts).getD i default)
 | sts,l,lend,0,_,_=>by
  rw [atp,bu7];rfl
 | [],_,_,i + 1,_,hi=>by simp at hi
 | s :: r,l,lend,i + 1,h,hi=>by
  obtain ⟨hT,hok,l',e,_,h⟩:=h;have ea:a26 n l p m (St.r s) = dp n l p m s:=ajx hT hb hok;have ih:=b1l hb (i:=i) h (by simpa using hi);simp only [List.take_succ_cons,bt3,a0k];rw [ea,e,if_pos rfl];unfold trL;rw [e];exact ih
def be4 (h:prC n ps p m = 0):lsC n ps p m = 0 /\ ∃ i,i <= (lsT n ps p m).1.length /\ prS n ps p m = (lsT n ps p m).1.take i /\ n9 n ((trL n p m (bf (ax n ps)) (lsT n ps p m).1).getD i default) = true:=by
 have hls:lsC n ps p m = 0:=by
  apply Classical.byContradiction;intro hn;have:=(ay4 hn).2;exact hn (this ▸ h)
 refine ⟨hls, ?_⟩
 have key:∀ k,k <= (lsT n ps p m).1.length + 1 -> (∀ j,j < k -> n9 n ((trL n p m (bf (ax n ps)) (lsT n ps p m).1).getD j default) = false) \/ ∃ i,i < k /\ (∀ j,j < i -> n9 n ((trL n p m (bf (ax n ps)) (lsT n ps p m).1).getD j default) = false) /\ n9 n ((trL n p m (bf (ax n ps)) (lsT n ps p m).1).getD i default) = true:=by
  intro k
  induction k with
  | zero=>intro _;exact .inl fun j hj=>absurd hj (brg j)
  | succ k ih =>
   intro hk
   rcases ih bv9 with h1 | ⟨i,h1,h2,h3⟩
   · cases hf:n9 n ((trL n p m (bf (ax n ps)) (lsT n ps p m).1).getD k default) with
     | true=>exact .inr ⟨k,by omega,h1,hf⟩
     | false =>
      refine .inl fun j hj=>?_;by_cases e:j = k
      · rw [e];exact hf
      exact h1 j bv9
   exact .inr ⟨i,by omega,h2,h3⟩
 rcases key _ (brd _) with h1 | ⟨i,h1,h2,h3⟩
 · have:=(atd hls h1).2
   rw [this] at h;cases h
 exact ⟨i,by omega,(axk hls bv9 h2 h3).1,h3⟩
def b6c (h:prC n ps p m = 0):a2d n ps p m ((prS n ps p m).map St.r) = true:=by
 obtain ⟨hls,i,h1,h2,h3⟩:=be4 h;obtain ⟨hv,hb,hc,_⟩:=ayt hls;rw [ad6 hv hb,h2,b1l hb (b0r hv hb hc) h1];exact h3
end
def sgB (n:Int) (c:AS) (z:Int):Int:=if c8 c (z % n) = true then z % n else z
section
variable {n:Int} {P Q:AS} {p:List Fd}
def b0c {a b:AS} {i:Int}:c8 (a &&& b) i = (c8 a i && c8 b i):=by
 unfold c8;rw [brv];cases decide (0 <= i /\ i < 32) <;> simp
end
end
section
section
variable {t:Tbl} {d:Fd}
def yx {R:List Row} {a:Row} (h:a ∈ R):∃ i,i < R.length /\ R.getD i default = a:=by
 obtain ⟨i,hi,e⟩:=bry h;exact ⟨i,hi,by rw [bw _ _ hi,e]⟩
def bil (h:fdB t d = true) {a b:Row} (ha:a ∈ t.rows) (hb:b ∈ t.rows) (e:sel a.vals d.lhs = sel b.vals d.lhs):sel a.vals d.rhs = sel b.vals d.rhs:=by
 obtain ⟨i,hi,rfl⟩:=yx ha;obtain ⟨k,hk,rfl⟩:=yx hb
 have key:∀ i k,i < t.rows.length -> k < i -> sel (t.rows.getD i default).vals d.lhs = sel (t.rows.getD k default).vals d.lhs -> sel (t.rows.getD i default).vals d.rhs = sel (t.rows.getD k default).vals d.rhs:=fun i k hi hk e=>by
  unfold fdB at h;have h1:=bs2.1 (bs2.1 h i (brw.2 hi)) k (brw.2 hk);unfold a0q a28 at h1;rw [decide_eq_true e] at h1;simpa using h1
 rcases bv4 i k with h1 | h1 | h1
 · exact (key k i hk h1 e.symm).symm
 · subst h1;rfl
 exact key i k hi h1 e
def bic (h:mvB t d = true) {a b:Row} (ha:a ∈ t.rows) (hb:b ∈ t.rows) (e:sel a.vals d.lhs = sel b.vals d.lhs):∃ x ∈ t.rows,sel x.vals (d.lhs ||| d.rhs) = sel a.vals (d.lhs ||| d.rhs) /\ sel x.vals (aa t.attrs.length &&& ~~~(d.lhs ||| d.rhs)) = sel b.vals (aa t.attrs.length &&& ~~~(d.lhs ||| d.rhs)):=by
 obtain ⟨i,hi,rfl⟩:=yx ha;obtain ⟨k,hk,rfl⟩:=yx hb;unfold mvB at h;have h1:=bs2.1 (bs2.1 h i (brw.2 hi)) k (brw.2 hk);unfold bjk a28 at h1;rw [decide_eq_true e] at h1;have h1:awr t (t.rows.getD i default) (t.rows.getD k default) (d.lhs ||| d.rhs) = true:=by simpa using h1
 unfold awr at h1;obtain ⟨x,hx,h2⟩:=bsf.1 h1;rw [brk] at h2;unfold a28 at h2;exact ⟨x,hx,of_decide_eq_true h2.1,of_decide_eq_true h2.2⟩
end
def b02 {n i:Nat} (hn:n <= 16) (hi:i < n):c8 (aa (n:Int)) (i:Int) = true:=by
 rw [dx bv9];unfold aa;rw [bsh bv9,l7 _ _ bv9];simpa using hi
def ay9 {n i:Nat} {s:AS} (hn:n <= 16) (hi:i < n) (h:¬ c8 s (i:Int) = true):c8 (aa (n:Int) &&& ~~~s) (i:Int) = true:=by
 have h1:=b02 hn hi;rw [b0c,h1,btn];rw [dx bv9] at h ⊢;rw [bsv];simp only [h,Bool.not_false,Bool.and_true];simp;omega
section
variable {n:Int} {ps:List AS} {p m:List Fd}
def b7g (hc:lsC n ps p m = 0) (hl:lsB n ps p m = true):LR n.toNat p m (ax n ps) (dg n):=by
 obtain ⟨hv,hb⟩:=a7b hc;obtain ⟨h0,h8,h64,_⟩:=zr hv
 rcases a6f (m:=m) h64 hb with ⟨e,_⟩ | ⟨sts',lend,e,h1,_⟩
 · rw [akt hv hb] at hc
   unfold lsT at hc;rw [e] at hc;cases hc
 unfold lsB lsT at hl;rw [hc,e,decide_eq_true rfl,btn] at hl;have hl:(lend.any fun r=>decide (r = dg n)) = true:=hl;rw [a19,decide_eq_true_iff,h1] at hl;exact hl
end
def sgT (n:Nat) (w:List Val) (f:Nat -> Row) (z:Int):Val:=if z < (n:Int) then w.getD z.toNat default else (f (z / n - 1).toNat).vals.getD (z % n).toNat default
section
variable {w:List Val}
def aj9 {n:Nat} {f:Nat -> Row} {j:Nat} (hj:j < n):sgT n w f (j:Int) = w.getD j default:=by
 unfold sgT;rw [if_pos bv9,brn]
def ayp {n:Nat} {f:Nat -> Row} {i j:Nat} (hj:j < n):sgT n w f ((n:Int) + (i:Int) * (n:Int) + (j:Int)) = (f i).vals.getD j default:=by
 unfold sgT;have h0:0 <= (i:Int) * (n:Int):=Int.mul_nonneg bv9 bv9;rw [if_neg bv9];have e:(n:Int) + (i:Int) * (n:Int) + (j:Int) = (j:Int) + ((i:Int) + 1) * (n:Int):=by rw [Int.add_mul,Int.one_mul];omega
 rw [e,Int.add_mul_ediv_right _ _ bv9,Int.add_mul_emod_self_right,Int.ediv_eq_zero_of_lt bv9 bv9,Int.emod_eq_of_lt bv9 bv9,brn];have e2:((0:Int) + ((i:Int) + 1) - 1).toNat = i:=by omega
 rw [e2]
def bb9 {t:Tbl} {p m:List Fd} (hn:t.attrs.length <= 16) (hw:∀ r ∈ t.rows,r.vals.length = t.attrs.length) (hF:∀ d ∈ p,fdB t d = true) (hM:∀ d ∈ m,mvB t d = true) (σ:Int -> Val) :
 Mdl t.attrs.length p m (fun x y=>σ x = σ y) (fun r=>r.length = t.attrs.length /\ ∃ x ∈ t.rows,∀ i,i < t.attrs.length -> σ (r.getD i default) = x.vals.getD i default) where
 refl x:=rfl
 symm h:=h.symm
 trans h k:=h.trans k
 len h:=h.1
 cong {r r'} h hl he:=by
  obtain ⟨h1,x,hx,h2⟩:=h;exact ⟨hl.trans h1,x,hx,fun i hi=>(he i bv9).symm.trans (h2 i hi)⟩
 fd {d} hd {a b} ha hb hag:=by
  obtain ⟨hal,xa,hxa,ha⟩:=ha;obtain ⟨hbl,xb,hxb,hb⟩:=hb;have hla:=hw xa hxa;have hlb:=hw xb hxb
  have h1:sel xa.vals d.lhs = sel xb.vals d.lhs:=(rt (hla.trans hlb.symm)).2 fun i hi hh=>by
   rw [<- ha i bv9,<- hb i bv9];exact hag i bv9 hh
  have h2:=(rt (hla.trans hlb.symm)).1 (bil (hF d hd) hxa hxb h1);intro i hi hh;show σ (a.getD i default) = σ (b.getD i default);rw [ha i bv9,hb i bv9];exact h2 i bv9 hh
 mv {d} hd {a b} ha hb hag:=by
  obtain ⟨hal,xa,hxa,ha⟩:=ha;obtain ⟨hbl,xb,hxb,hb⟩:=hb;have hla:=hw xa hxa;have hlb:=hw xb hxb
  have h1:sel xa.vals d.lhs = sel xb.vals d.lhs:=(rt (hla.trans hlb.symm)).2 fun i hi hh=>by
   rw [<- ha i bv9,<- hb i bv9];exact hag i bv9 hh
  obtain ⟨x,hx,h2,h3⟩:=bic (hM d hd) hxa hxb h1;have hlx:=hw x hx;have h2:=(rt (hlx.trans hla.symm)).1 h2;have h3:=(rt (hlx.trans hlb.symm)).1 h3;refine ⟨(mt _ _ _).trans hbl,x,hx,fun i hi=>?_⟩
  have e:(fp a b (d.lhs ||| d.rhs)).getD i default = if c8 (d.lhs ||| d.rhs) (i:Int) = true then a.getD i default else b.getD i default:=by
   unfold fp;rw [brc,brx,bsq bv9];rfl
  rw [e];by_cases hh:c8 (d.lhs ||| d.rhs) (i:Int) = true
  · rw [if_pos hh,ha i hi]
    exact (h2 i bv9 hh).symm
  rw [if_neg hh,hb i hi];exact (h3 i bv9 (ay9 hn hi hh)).symm
def b6q {t:Tbl} {ps:List AS} {p m:List Fd} (hn:t.attrs.length <= 16) (hw:∀ r ∈ t.rows,r.vals.length = t.attrs.length) (hLR:LR t.attrs.length p m (ax t.attrs.length ps) (dg t.attrs.length)) (hF:∀ d ∈ p,fdB t d = true) (hM:∀ d ∈ m,mvB t d = true) (hwl:w.length = t.attrs.length) (hall:∀ s ∈ ps,∃ r ∈ t.rows,sel r.vals s = sel w s):∃ r ∈ t.rows,r.vals = w:=by
 have hch:∀ i,∃ r:Row,i < ps.length -> r ∈ t.rows /\ sel r.vals (ps.getD i default) = sel w (ps.getD i default):=fun i=>by
  by_cases hi:i < ps.length
  · obtain ⟨r,hr,e⟩:=hall (ps.getD i default) (by rw [bw _ _ hi];exact brs hi)
    exact ⟨r,fun _=>⟨hr,e⟩⟩
  exact ⟨default,fun h=>absurd h hi⟩
 obtain ⟨f,hf⟩:=Classical.axiomOfChoice hch
 obtain ⟨_,x,hx,h2⟩:=hLR _ _ (bb9 hn hw hF hM (sgT t.attrs.length w f)) (fun r hr=>by
  unfold ax at hr;obtain ⟨i,hi,rfl⟩:=brp.1 hr;have hi:=brw.1 hi;obtain ⟨hfr,hfe⟩:=hf i hi;have hlf:=hw _ hfr;refine ⟨a8q _ _ _,f i,hfr,fun j hj=>?_⟩;rw [ali (by simpa using hj)];unfold stV;by_cases hh:c8 (ps.getD i default) (j:Int) = true
  · rw [if_pos hh,aj9 hj]
    exact ((rt (hlf.trans hwl.symm)).1 hfe j bv9 hh).symm
  rw [if_neg hh]
  exact ayp hj)
 refine ⟨x,hx, ?_⟩;have hlx:=hw x hx;refine btd (hlx.trans hwl.symm) fun i h3 h4=>?_;have:=h2 i bv9;rw [amz bvn,aj9 bv9,bw _ _ h3,bw _ _ h4] at this;exact this.symm
def ajb {t:Tbl} {ps:List AS} {p m:List Fd} (hT:TOk t) (he:∀ r ∈ t.rows,∀ v ∈ r.vals,ly v) (hv:lvE t.attrs.length ps = 0) (hLR:LR t.attrs.length p m (ax t.attrs.length ps) (dg t.attrs.length))
 (hF:∀ d ∈ p,fdB t d = true) (hM:∀ d ∈ m,mvB t d = true):ng t ps = 0 /\ ya (t6 t ps) t = true /\ (t6 t ps).ok:=by
 have hn:=hT.na
 have hw:∀ r ∈ t.rows,r.vals.length = t.attrs.length:=fun r hr=>by
  obtain ⟨i,hi,rfl⟩:=yx hr;exact hT.width hi
 have hf:=(zr hv).2.2.2.2
 have hmem:∀ w,w ∈ a0b t.rows ps t.attrs.length <-> ∃ r ∈ t.rows,r.vals = w:=fun w=>by
  rw [b57 he hw hn hf];constructor
  · rintro ⟨h1,h2⟩
    exact b6q hn hw hLR hF hM h1 h2
  rintro ⟨r,hr,rfl⟩;exact ⟨hw r hr,fun s hs=>⟨r,hr,rfl⟩⟩
 have hlen:(a0b t.rows ps t.attrs.length).length <= 1000:=by
  have h1:=(b35.nodup (b6j (R:=t.rows) (ps:=ps) (n:=t.attrs.length))).length_le_of_subset (l₂:=t.rows.map Row.vals) fun w hw=>by
   obtain ⟨r,hr,e⟩:=(hmem w).1 hw;exact brp.2 ⟨r,hr,e⟩
  rw [bsc] at h1;have:=hT.nr;omega
 have hj:pj t.rows ps t.attrs.length = a0b t.rows ps t.attrs.length:=by
  rw [b4m (aub hv),bt9 bv9]
 have h0:ng t ps = 0:=atl (nn.2 hT) hv (by rw [hj];omega);refine ⟨h0, ?_⟩;rw [asv h0,hj]
 have hid:∀ {L:List (List Val)} {w:List Val},w ∈ L <-> ∃ r ∈ jt L,r.vals = w:=fun {L w}=>by
  unfold jt;constructor
  · intro h
    obtain ⟨i,hi,e⟩:=bry h;exact ⟨_,brp.2 ⟨i,brw.2 hi,rfl⟩,by show L.getD i default = w;rw [bw _ _ hi,e]⟩
  rintro ⟨r,hr,rfl⟩;obtain ⟨i,hi,rfl⟩:=brp.1 hr;have hi:=brw.1 hi;show L.getD i default ∈ L;rw [bw _ _ hi];exact brs hi
 refine ⟨?_,hT.ok.1, ?_,fun j hj=>?_⟩
 rotate_left
 · show (jt (a0b t.rows ps t.attrs.length)).length <= 68719476736
   rw [aem];omega
 · have hj:j < (jt (a0b t.rows ps t.attrs.length)).length:=hj
   show ((jt (a0b t.rows ps t.attrs.length)).getD j default).ok;obtain ⟨r',hr',e⟩:=(hmem _).1 (hid.2 ⟨(jt (a0b t.rows ps t.attrs.length)).getD j default,by rw [bw _ _ hj];exact brs hj,rfl⟩);obtain ⟨i,hi,e2⟩:=yx hr';have hok:=hT.ok.2.2 i hi;rw [e2] at hok;unfold Row.ok at hok ⊢;rw [<- e];exact hok
 unfold ya avp a9j;rw [decide_eq_true rfl,btn,brk];constructor
 · rw [bs2]
   intro r hr;obtain ⟨r',hr',e⟩:=(hmem r.vals).1 (hid.2 ⟨r,hr,rfl⟩);exact bsf.2 ⟨r',hr',decide_eq_true e⟩
 rw [bs2];intro r hr;obtain ⟨r',hr',e⟩:=hid.1 ((hmem r.vals).2 ⟨r,hr,rfl⟩);exact bsf.2 ⟨r',hr',decide_eq_true e⟩
end
end
section
def fdP (d:Fd) (r k:AS):Option AS:=if (r ^^^ k) &&& d.lhs = 0 then (if (r ^^^ k) &&& d.rhs = 0 then none else some ((r ^^^ k) &&& d.rhs)) else none
def fdQ (d:Fd) (T:List AS) (r:AS):Option AS:=T.findSome? (fdP d r)
def fdT (d:Fd) (T:List AS):Option AS:=T.findSome? (fdQ d T)
section
variable {T:List AS} {d:Fd}
def b6n {s:AS} (h:fdT d T = some s):∃ r ∈ T,∃ k ∈ T,agB d r k = true /\ s = (r ^^^ k) &&& d.rhs /\ s ≠ 0:=by
 unfold fdT at h;obtain ⟨r,hr,h⟩:=buz h;unfold fdQ at h;obtain ⟨k,hk,h⟩:=buz h;unfold fdP at h;split at h
 · rename_i h1
   split at h
   · cases h
   rename_i h2;cases h;exact ⟨r,hr,k,hk,decide_eq_true h1,rfl,h2⟩
 cases h
theorem a11 (h:T.Nodup):T.length <= 4294967296:=by
 have h1:(T.map BitVec.toNat).Nodup:=List.Pairwise.map _ (fun a b hab e=>hab (bso e)) h
 have h2:∀ x ∈ T.map BitVec.toNat,x < 4294967296:=by
  intro x hx;obtain ⟨a,_,rfl⟩:=brp.1 hx;exact a.isLt
 have hlen:(T.map BitVec.toNat).length = T.length:=bsc _;rw [<- hlen]
 have key:∀ (N:Nat) (l:List Nat),l.Nodup -> (∀ x ∈ l,x < N) -> l.length <= N:=by
  intro N
  induction N with
  | zero =>
   intro l _ hl
   cases l with
   | nil=>exact brd _
   | cons a l=>exact absurd (hl a bvd) (brg _)
  | succ N ih =>
   intro l hn hl
   have h3:=ih (l.filter fun x=>!decide (x = N)) (hn.filter _) fun x hx=>by
    grind
   have h4:l.length <= (l.filter fun x=>!decide (x = N)).length + 1:=by
    have h5:∀ l:List Nat,l.length = (l.filter fun x=>!decide (x = N)).length + l.countP fun x=>decide (x = N):=by
     intro l
     induction l with
     | nil=>rfl
     | cons a l ih =>
      grind
    have h6:=h5 l
    have h7:(l.countP fun x=>decide (x = N)) <= 1:=by
     have:=hn.count (a:=N)
     grind
    omega
   omega
 exact key _ _ h1 h2
def zm {i:Nat} (hi:i < 32):(orL T).getLsbD i = T.any fun r=>r.getLsbD i:=by
 unfold orL
 have:∀ (T:List AS) (o:AS),(T.foldl (· ||| ·) o).getLsbD i = (o.getLsbD i || T.any fun r=>r.getLsbD i):=by
  intro T
  induction T with
  | nil=>intro o;simp
  | cons a T ih=>intro o;rw [btp,ih,bt5,List.any_cons,Bool.or_assoc]
 rw [this];simp
theorem b9z {s:AS}:orL (tu T s) = orL T &&& ~~~s:=by
 apply apj;intro i hi;rw [zm hi,a0i hi,zm hi]
 cases hs:s.getLsbD i with
 | true =>
  simp only [Bool.not_true,Bool.and_false];rw [bt1];intro z hz;obtain ⟨r,hr,rfl⟩:=aaw.1 hz
  grind
 | false =>
  simp only [Bool.not_false,Bool.and_true];rw [buj,bsf,bsf];constructor
  · rintro ⟨z,hz,hb⟩
    obtain ⟨r,hr,rfl⟩:=aaw.1 hz
    grind
  rintro ⟨r,hr,hb⟩;exact ⟨r &&& ~~~s,aaw.2 ⟨r,hr,rfl⟩,by rw [a0i hi,hb,hs];rfl⟩
theorem ahf {s:AS} (h:fdT d T = some s):(orL (tu T s)).toNat < (orL T).toNat:=by
 obtain ⟨r,hr,k,hk,_,rfl,hz⟩:=b6n h;rw [b9z];refine xq ed fun e=>?_;obtain ⟨i,hi,hb⟩:=bfg hz;have h1:=congrArg (fun z:AS=>z.getLsbD i) e;simp only [a0i hi,hb,Bool.not_true,Bool.and_false] at h1;have h1:(orL T).getLsbD i = false:=h1.symm;rw [zm hi,bt1] at h1
 grind
def sh (d:Fd):Nat -> List AS -> List AS
 | 0,T=>T
 | f + 1,T=>match fdT d T with
  | none=>T
  | some s=>sh d f (tu T s)
def mvS (d:Fd) (T:List AS) (i k:Nat):List AS:=if agB d (T.getD i default) (T.getD k default) = true then sc T (a2j d (T.getD i default) (T.getD k default)) else T
def mvI (d:Fd):Nat -> List AS -> Nat -> Nat -> List AS
 | 0,T,_,_=>T
 | f + 1,T,i,k=>if k < T.length then mvI d f (mvS d T i k) i (k + 1) else T
def mvO (d:Fd):Nat -> List AS -> Nat -> List AS
 | 0,T,_=>T
 | f + 1,T,i=>if i < T.length then mvO d f (mvI d 8589934592 T i 0) (i + 1) else T
theorem a8y (d:Fd) (T:List AS) (i k:Nat):T <+: mvS d T i k:=by
 unfold mvS sc
 grind
theorem a8g (d:Fd):∀ (f:Nat) (T:List AS) (i k:Nat),T <+: mvI d f T i k
 | 0,T,_,_=>List.prefix_refl _
 | f + 1,T,i,k=>by
  unfold mvI;split
  · exact (a8y d T i k).trans (a8g d f _ i (k + 1))
  grind
theorem ats (d:Fd):∀ (f:Nat) (T:List AS) (i:Nat),T <+: mvO d f T i
 | 0,T,_=>List.prefix_refl _
 | f + 1,T,i=>by
  unfold mvO;split
  · exact (a8g d _ T i 0).trans (ats d f _ (i + 1))
  grind
def aye {i k:Nat} (h:T.Nodup):(mvS d T i k).Nodup:=by
 unfold mvS;split
 · exact yb h
 exact h
def ap3:∀ {f:Nat} {T:List AS} {i k:Nat},T.Nodup -> (mvI d f T i k).Nodup
 | 0,T,_,_,h=>h
 | f + 1,T,i,k,h=>by
  unfold mvI;split
  · exact ap3 (aye h)
  exact h
def apd:∀ {f:Nat} {T:List AS} {i:Nat},T.Nodup -> (mvO d f T i).Nodup
 | 0,T,_,h=>h
 | f + 1,T,i,h=>by
  unfold mvO;split
  · exact apd (ap3 h)
  exact h
abbrev TC:=List AS × Bool
def FU2:Nat:=8589934592
def fdR (x:TC) (d:Fd):TC:=(sh d FU2 x.1,x.2 || (fdT d x.1).isSome)
def mvR (x:TC) (d:Fd):TC:=(mvO d FU2 x.1 0,x.2 || decide (x.1.length < (mvO d FU2 x.1 0).length))
def y5 (fs ms:List Fd) (T:List AS):TC:=ms.foldl mvR (fs.foldl fdR (T,false))
def chF (fs ms:List Fd):Nat -> List AS -> List AS
 | 0,T=>T
 | f + 1,T=>if (y5 fs ms T).2 = true then chF fs ms f (y5 fs ms T).1 else (y5 fs ms T).1
def muT (T:List AS):Nat:=(orL T).toNat * FU2 + (4294967296 - T.length)
def a1h {f:Nat} {s:AS} (h:fdT d T = some s):sh d (f + 1) T = sh d f (tu T s):=by
 show (match fdT d T with | none=>T | some s=>sh d f (tu T s)) = _;rw [h]
def a73 {f:Nat} (h:fdT d T = none):sh d f T = T:=by
 cases f with
 | zero=>rfl
 | succ f =>
  show (match fdT d T with | none=>T | some s=>sh d f (tu T s)) = _;rw [h]
variable {P:List AS -> Prop}
def aot (hP:∀ T s,P T -> fdT d T = some s -> P (tu T s)):∀ (f:Nat) (T:List AS),P T -> P (sh d f T)
 | 0,T,h=>h
 | f + 1,T,h=>by
  cases hq:fdT d T with
  | none=>rw [a73 hq];exact h
  | some s=>rw [a1h hq];exact aot hP f _ (hP T s h hq)
theorem asn (hP:∀ T r k,P T -> r ∈ T -> k ∈ T -> agB d r k = true -> P (sc T (a2j d r k))):∀ (f:Nat) (T:List AS) (i k:Nat),i < T.length -> P T -> P (mvI d f T i k)
 | 0,T,_,_,_,h=>h
 | f + 1,T,i,k,hi,h=>by
  unfold mvI;split
  · rename_i hk
    refine asn hP f _ i (k + 1) (bua hi (a8y d T i k).length_le) ?_;unfold mvS
    grind
  exact h
def ahp (hP:∀ T r k,P T -> r ∈ T -> k ∈ T -> agB d r k = true -> P (sc T (a2j d r k))):∀ (f:Nat) (T:List AS) (i:Nat),P T -> P (mvO d f T i)
 | 0,T,_,h=>h
 | f + 1,T,i,h=>by
  unfold mvO;split
  · rename_i hi
    exact ahp hP f _ (i + 1) (asn hP _ T i 0 hi h)
  exact h
variable {fs:List Fd}
def afq (hP:∀ d ∈ fs,∀ T s,P T -> fdT d T = some s -> P (tu T s)):∀ (ds:List Fd) (x:TC),(∀ d ∈ ds,d ∈ fs) -> P x.1 -> P (ds.foldl fdR x).1
 | [],x,_,h=>h
 | d :: ds,x,hd,h=>afq hP ds (fdR x d) (fun e he=>hd e (by simp [he])) (aot (hP d (hd d bvd)) _ _ h)
variable {ms:List Fd}
def at3 (hP:∀ d ∈ ms,∀ T r k,P T -> r ∈ T -> k ∈ T -> agB d r k = true -> P (sc T (a2j d r k))):∀ (ds:List Fd) (x:TC),(∀ d ∈ ds,d ∈ ms) -> P x.1 -> P (ds.foldl mvR x).1
 | [],x,_,h=>h
 | d :: ds,x,hd,h=>at3 hP ds (mvR x d) (fun e he=>hd e (by simp [he])) (ahp (hP d (hd d bvd)) _ _ _ h)
def b9n (h1:∀ d ∈ fs,∀ T s,P T -> fdT d T = some s -> P (tu T s)) (h2:∀ d ∈ ms,∀ T r k,P T -> r ∈ T -> k ∈ T -> agB d r k = true -> P (sc T (a2j d r k))) (h:P T):P (y5 fs ms T).1 :=
 at3 h2 ms _ (fun _ h=>h) (afq h1 fs (T,false) (fun _ h=>h) h)
def b7v:∀ d ∈ fs,∀ (T:List AS) (s:AS),T.Nodup -> fdT d T = some s -> (tu T s).Nodup:=fun _ _ T s _ _=>af6 T s
def bl0:∀ d ∈ ms,∀ (T:List AS) (r k:AS),T.Nodup -> r ∈ T -> k ∈ T -> agB d r k = true -> (sc T (a2j d r k)).Nodup:=fun _ _ _ _ _ h _ _ _=>yb h
def ay8 {A B:List AS} (h:(orL B).toNat < (orL A).toNat):muT B < muT A:=by
 unfold muT;have h1:((orL B).toNat + 1) * FU2 <= (orL A).toNat * FU2:=brq _ h;rw [bsu] at h1;have:FU2 = 8589934592:=rfl;omega
theorem bdz {A B:List AS} (hp:A <+: B) (ho:(orL B).toNat = (orL A).toNat) (hB:B.length <= 4294967296):muT B <= muT A /\ (A.length < B.length -> muT B < muT A):=by
 unfold muT;rw [ho]
 grind
theorem bdk {r k:AS} (hr:r ∈ T) (hk:k ∈ T):orL (sc T (a2j d r k)) = orL T:=by
 apply apj;intro i hi;rw [zm hi,zm hi,buj,bsf,bsf];constructor
 · rintro ⟨z,hz,hb⟩
   rcases aar.1 hz with hz | rfl
   · grind
   rw [b4r hi] at hb
   grind
 rintro ⟨z,hz,hb⟩;exact ⟨z,aar.2 (.inl hz),hb⟩
def bd1 {f:Nat} {i:Nat}:orL (mvO d f T i) = orL T :=
 ahp (P:=fun X=>orL X = orL T) (fun X r k h hr hk _=>(bdk hr hk).trans h) f T i rfl
theorem au0 {T0:List AS} (f:Nat):∀ (T:List AS),muT T <= muT T0 -> muT (sh d f T) <= muT T0:=by
 induction f with
 | zero=>intro T h;exact h
 | succ f ih =>
  intro T h
  cases hq:fdT d T with
  | none=>rw [a73 hq];exact h
  | some s =>
   rw [a1h hq];have h1:=ay8 (ahf hq)
   grind
def bib (x:TC) (d:Fd):muT (fdR x d).1 <= muT x.1 /\ (x.2 = false -> (fdR x d).2 = true -> muT (fdR x d).1 < muT x.1):=by
 refine ⟨au0 _ _ (brd _),fun h1 h2=>?_⟩;unfold fdR at h2 ⊢;rw [h1,Bool.false_or,Option.isSome_iff_exists] at h2;obtain ⟨s,hs⟩:=h2;show muT (sh d FU2 x.1) < _;rw [show FU2 = 8589934591 + 1 from rfl,a1h hs];exact Nat.lt_of_le_of_lt (au0 _ _ (brd _)) (ay8 (ahf hs))
theorem biy {x:TC} (hn:x.1.Nodup) (d:Fd):muT (mvR x d).1 <= muT x.1 /\ (x.2 = false -> (mvR x d).2 = true -> muT (mvR x d).1 < muT x.1):=by
 have h:=bdz (ats d FU2 x.1 0) (congrArg BitVec.toNat bd1) (a11 (apd hn));refine ⟨h.1,fun h1 h2=>h.2 ?_⟩;unfold mvR at h2
 grind
theorem att:∀ (ds:List Fd) (x:TC),muT (ds.foldl fdR x).1 <= muT x.1 /\ (x.2 = false -> (ds.foldl fdR x).2 = true -> muT (ds.foldl fdR x).1 < muT x.1)
 | [],x=>⟨brd _,fun h k=>by simp only [List.foldl_nil] at k;rw [h] at k;cases k⟩
 | d :: ds,x=>by
  obtain ⟨a1,a2⟩:=bib x d;obtain ⟨b1,b2⟩:=att ds (fdR x d)
  grind
theorem auw:∀ (ds:List Fd) (x:TC),x.1.Nodup -> muT (ds.foldl mvR x).1 <= muT x.1 /\ (x.2 = false -> (ds.foldl mvR x).2 = true -> muT (ds.foldl mvR x).1 < muT x.1)
 | [],x,_=>⟨brd _,fun h k=>by simp only [List.foldl_nil] at k;rw [h] at k;cases k⟩
 | d :: ds,x,hn=>by
  obtain ⟨a1,a2⟩:=biy hn d;obtain ⟨b1,b2⟩:=auw ds (mvR x d) (apd hn)
  grind
theorem bik (hn:T.Nodup) (h:(y5 fs ms T).2 = true):muT (y5 fs ms T).1 < muT T:=by
 unfold y5 at h ⊢;obtain ⟨a1,a2⟩:=att fs (T,false);have hn2:(fs.foldl fdR (T,false)).1.Nodup:=afq b7v fs (T,false) (fun _ h=>h) hn;obtain ⟨b1,b2⟩:=auw ms (fs.foldl fdR (T,false)) hn2
 grind
def MU:Nat:=73786976294838206464
def bj2 (T:List AS):muT T < MU:=by
 unfold muT;have h:=(orL T).isLt;have h1:((orL T).toNat + 1) * FU2 <= 4294967296 * FU2:=brq _ h;rw [bsu] at h1;have e:FU2 = 8589934592:=rfl;have e2:MU = 73786976294838206464:=rfl;omega
def b61 (rest:AS):List AS:=sc [0] rest
def chT (fs ms:List Fd) (rest:AS):List AS:=chF fs ms MU (b61 rest)
def bmk (rest:AS):(b61 rest).Nodup:=yb bvd
end
end
section
open Go.Proofs
def sT:List Rw:=[[0,1,5],[0,7,2]]
def fdX:List Fd:=[⟨1,2⟩]
end
section
structure MvO (d:Fd) (T0:List AS) (x:Nat × List AS × Nat):Prop where
 nd:x.2.1.Nodup
 pre:T0 <+: x.2.1
 res:mvO d x.1 x.2.1 x.2.2 = mvO d FU2 T0 0
 le:x.2.2 <= x.2.1.length
 fuel:4294967296 < x.1 + x.2.2
structure MvI (d:Fd) (T:List AS) (i:Nat) (x:Nat × List AS × Nat):Prop where
 nd:x.2.1.Nodup
 pre:T <+: x.2.1
 res:mvI d x.1 x.2.1 i x.2.2 = mvI d 8589934592 T i 0
 le:x.2.2 <= x.2.1.length
 fuel:4294967296 < x.1 + x.2.2
section
variable {d:Fd} {T0 T:List AS} {i f k:Nat}
theorem MvO.start (h:T.Nodup):MvO d T (FU2,T,0):=⟨h,List.prefix_refl _,rfl,bre _,by show 4294967296 < 8589934592 + 0;omega⟩
theorem MvI.start (h:T.Nodup):MvI d T i (8589934592,T,0):=⟨h,List.prefix_refl _,rfl,bre _,by show 4294967296 < 8589934592 + 0;omega⟩
theorem MvO.pos (h:MvO d T0 (f,T,i)):0 < f /\ T.length <= 4294967296:=by
 have h1:=a11 h.nd;have h2:=h.le;have h3:=h.fuel;dsimp only at h1 h2 h3;omega
section
variable {U:List AS}
theorem MvI.pos (h:MvI d T i (f,U,k)):0 < f /\ U.length <= 4294967296:=by
 have h1:=a11 h.nd;have h2:=h.le;have h3:=h.fuel;dsimp only at h1 h2 h3;omega
theorem MvO.done (h:MvO d T0 (f,T,i)) (hi:¬ i < T.length):T = mvO d FU2 T0 0:=by
 have hp:=h.pos.1;have hr:mvO d f T i = mvO d FU2 T0 0:=h.res;obtain ⟨g,rfl⟩:∃ g,f = g + 1:=⟨f - 1,by omega⟩;unfold mvO at hr;rw [if_neg hi] at hr;exact hr
theorem MvI.done (h:MvI d T i (f,U,k)) (hk:¬ k < U.length):U = mvI d 8589934592 T i 0:=by
 have hp:=h.pos.1;have hr:mvI d f U i k = mvI d 8589934592 T i 0:=h.res;obtain ⟨g,rfl⟩:∃ g,f = g + 1:=⟨f - 1,by omega⟩;unfold mvI at hr;rw [if_neg hk] at hr;exact hr
theorem MvI.next (h:MvI d T i (f,U,k)) (hk:k < U.length):MvI d T i (f - 1,mvS d U i k,k + 1):=by
 have hp:=h.pos.1;have hr:mvI d f U i k = mvI d 8589934592 T i 0:=h.res;obtain ⟨g,rfl⟩:∃ g,f = g + 1:=⟨f - 1,by omega⟩;unfold mvI at hr;rw [if_pos hk] at hr;have hf:4294967296 < g + 1 + k:=h.fuel;exact ⟨aye h.nd,h.pre.trans (a8y d U i k),hr,bs4 hk (a8y d U i k).length_le,by show 4294967296 < g + (k + 1);omega⟩
theorem MvO.next (h:MvO d T0 (f,T,i)) (hi:i < T.length) (hU:U = mvI d 8589934592 T i 0):MvO d T0 (f - 1,U,i + 1):=by
 subst hU;have hp:=h.pos.1;have hr:mvO d f T i = mvO d FU2 T0 0:=h.res;obtain ⟨g,rfl⟩:∃ g,f = g + 1:=⟨f - 1,by omega⟩;unfold mvO at hr;rw [if_pos hi] at hr;have hf:4294967296 < g + 1 + i:=h.fuel;exact ⟨ap3 h.nd,h.pre.trans (a8g d _ T i 0),hr,bs4 hi (a8g d _ T i 0).length_le,by show 4294967296 < g + (i + 1);omega⟩
end
end
end
section
structure ChI (l m:List Fd) (R:List AS) (x:Nat × List AS × Bool):Prop where
 nd:x.2.1.Nodup
 t:x.2.2 = true -> chF l m x.1 x.2.1 = R /\ muT x.2.1 < x.1
 f:x.2.2 = false -> x.2.1 = R
def br0 (x:Nat × List AS × Bool):Nat:=x.1 + (bif x.2.2 then 1 else 0)
theorem ChI.start (l m:List Fd) (rest:AS):ChI l m (chT l m rest) (MU,b61 rest,true):=⟨bmk rest,fun _=>⟨rfl,bj2 _⟩,fun h=>by cases h⟩
theorem ChI.next {l m:List Fd} {R T:List AS} {f:Nat} (h:ChI l m R (f,T,true)):ChI l m R (f - 1,(y5 l m T).1,(y5 l m T).2) /\ 0 < f:=by
 obtain ⟨h1,h2⟩:=h.t rfl;have h2:muT T < f:=h2;have h1:chF l m f T = R:=h1;have hn:T.Nodup:=h.nd;obtain ⟨g,rfl⟩:∃ g,f = g + 1:=⟨f - 1,by omega⟩;unfold chF at h1;refine ⟨⟨b9n b7v bl0 hn,fun hc=>?_,fun hc=>?_⟩,by omega⟩
 · have hc:(y5 l m T).2 = true:=hc
   rw [if_pos hc] at h1;have:=bik hn hc;exact ⟨h1,by show muT (y5 l m T).1 < g;omega⟩
 have hc:(y5 l m T).2 = false:=hc;rw [if_neg (by rw [hc];decide)] at h1;exact h1
def bqj (l:List Fd) (T:List AS) (i:Nat):TC:=(l.take i).foldl fdR (T,false)
def mvX (m:List Fd) (x:TC) (i:Nat):TC:=(m.take i).foldl mvR x
structure FdI (d:Fd) (U0:List AS) (x:Nat × List AS × Bool):Prop where
 nd:x.2.1.Nodup
 res:sh d x.1 x.2.1 = sh d FU2 U0
 fuel:(orL x.2.1).toNat < x.1
 f:x.2.2 = false -> x.2.1 = U0
 t:x.2.2 = true -> (fdT d U0).isSome = true
section
variable {d:Fd} {U0 U:List AS} {g:Nat} {b c:Bool} {s:AS}
theorem FdI.start (h:U0.Nodup):FdI d U0 (FU2,U0,false):=⟨h,rfl,bua (orL U0).isLt (show 2 ^ 32 <= FU2 by decide),fun _=>rfl,fun h=>by cases h⟩
theorem FdI.len (h:FdI d U0 (g,U,b)):U.length <= 8589934592:=bs4 (a11 (show U.Nodup from h.nd)) bvg
theorem FdI.next (h:FdI d U0 (g,U,b)) (hq:fdT d U = some s):FdI d U0 (g - 1,tu U s,true) /\ 0 < g:=by
 have h3:(orL U).toNat < g:=h.fuel;have h2:sh d g U = sh d FU2 U0:=h.res;obtain ⟨k,rfl⟩:∃ k,g = k + 1:=⟨g - 1,by omega⟩;rw [a1h hq] at h2;have h4:=ahf hq;refine ⟨⟨af6 U s,h2,(by show (orL (tu U s)).toNat < k;omega),(fun hc=>by cases hc),fun _=>?_⟩,by omega⟩
 cases hb:b with
 | true=>exact h.t hb
 | false =>
  have e:U = U0:=h.f hb;rw [<- e,hq];rfl
theorem FdI.done (h:FdI d U0 (g,U,b)) (hq:fdT d U = none):(U,c || b) = fdR (U0,c) d:=by
 have h2:sh d g U = sh d FU2 U0:=h.res;rw [a73 hq] at h2;unfold fdR;rw [<- h2]
 cases hb:b with
 | true=>rw [h.t hb]
 | false =>
  have e:U = U0:=h.f hb;rw [<- e,hq];rfl
end
end
section
def bgb (a b:AS):Bool:=abb b a
def bq1 (l:List AS):List AS:=a8m bgb l
def okM (l:List AS) (i k:Nat):Bool:=(List.range k).all fun j=>decide (j = i) || !abb (l.getD j default) (l.getD i default)
def bpm (l:List AS) (i:Nat):List AS:=((ord l).take i).filter fun x=>!a3b bgb (ord l) x
def yq (rest L x:AS) (T:List AS) (y:AS):Bool:=!decide (y = 0) && (decide (y &&& ~~~rest = 0) && decide ((L &&& ~~~(x ||| y)) ∈ T))
def yL (rest L x:AS) (T:List AS) (k:Nat):List AS:=((List.range k).map (BitVec.ofNat 32)).filter (yq rest L x T)
section
variable {rest L x:AS} {T:List AS} {k:Nat}
end
end
section
open Go.Proofs
def bot (n:Int) (ps:List AS):List AS:=if ps.length = 0 then [aa n] else ps.set (ps.length - 1) (ps.getD (ps.length - 1) default ||| (aa n &&& ~~~(orL ps)))
end
section
def abj {r x:Row}:∀ {l:List Row},x ∈ xw r l <-> x = r \/ x ∈ l
 | []=>by simp [xw]
 | y :: l=>by
  simp only [xw];split
  · simp
  simp only [brm,abj (l:=l)];constructor
  · rintro (h | h | h) <;> simp [h]
  rintro (h | h | h) <;> simp [h]
def aa9 {r:Row}:∀ {l:List Row},vk l -> (∀ x ∈ l,x.id ≠ r.id) -> vk (xw r l)
 | [],_,_=>by simp [xw,vk]
 | y :: l,hs,hn=>by
  have hs':=hs;unfold vk at hs';rw [bsb] at hs';simp only [xw];split
  · rename_i h
    refine List.Pairwise.cons (fun x hx=>?_) hs
    rcases brm.1 hx with rfl | hx
    · exact h
    have:=hs'.1 x hx;omega
  rename_i h;refine List.Pairwise.cons (fun x hx=>?_) (aa9 hs'.2 fun x hx=>hn x (by simp [hx]))
  rcases abj.1 hx with rfl | hx
  · have:=hn y bvd;omega
  exact hs'.1 x hx
section
variable {l:List Row}
def awk {id:Int} (h:iq l id < 0):∀ x ∈ l,x.id ≠ id:=by
 intro x hx e;have h2:=atq (p:=fun r:Row=>decide (r.id = id)) (l:=l);have h3:(l.any fun r=>decide (r.id = id)) = true:=by rw [bsf];exact ⟨x,hx,by simp [e]⟩
 rw [h3] at h2;simp only [decide_eq_true_eq] at h2;unfold iq at h;omega
variable {t:Tbl}
def bgt {r:Row} (h:a06 t r = 0):TOk (ava t r):=by
 obtain ⟨h1,h2,h3,h4,h5,h6⟩:=b2e h;have hT:=nn.1 h1;rw [b8y h];refine ⟨hT.nm,hT.na,by show (xw r t.rows).length <= 1000;rw [ant];omega,hT.nms, ?_⟩;refine vh (fun x hx=>?_) (aa9 (qz hT.rs) (awk h5))
 rcases abj.1 hx with rfl | hx
 · exact ⟨h3,h2,h4⟩
 exact jp hT.rs x hx
def b50 {i:Int} (h:a2x t i = 0):d8 t = 0 /\ 0 <= iq t.rows i:=by
 unfold a2x at h;split at h
 · omega
 split at h
 · exact ⟨by omega,by assumption⟩
 omega
def bey {i:Int} (h:a2x t i = 0):TOk (ave t i):=by
 have hT:=nn.1 (b50 h).1;rw [be9 h];have hsub:=List.eraseIdx_sublist t.rows (iq t.rows i).toNat;refine ⟨hT.nm,hT.na,by have:=hsub.length_le;have:=hT.nr;show (t.rows.eraseIdx _).length <= 1000;omega,hT.nms, ?_⟩;exact vh (fun x hx=>jp hT.rs x (hsub.subset hx)) (List.Pairwise.sublist hsub (qz hT.rs))
def b95 {i a:Int} {v:Val} (h:a56 t i a v = 0):d8 t = 0 /\ 0 <= iq t.rows i /\ 0 <= a /\ a < t.attrs.length /\ d9 v = true:=by
 unfold a56 at h;split at h
 · omega
 split at h
 · omega
 split at h
 · omega
 split at h
 · omega
 rename_i h1 h2 h3 h4;exact ⟨by omega,by omega,by omega,by omega,by simpa using h4⟩
def b6r {i k:Nat} {v:Val} (hi:i < l.length):(a7y l i k v).map Row.id = l.map Row.id:=by
 unfold a7y;apply bu8;intro j;rw [brx,brx,List.getElem?_set];split
 · rename_i h
   subst h;rw [brb hi];simp [List.getD,brb hi]
 rfl
def aex:vk l <-> (l.map Row.id).Pairwise (· < ·):=by
 rw [List.pairwise_map]
def bfl {i a:Int} {v:Val} (h:a56 t i a v = 0):TOk (ax6 t i a v):=by
 obtain ⟨h1,h2,h3,h4,h5⟩:=b95 h;have hT:=nn.1 h1;have hix:(iq t.rows i).toNat < t.rows.length:=by have:=bhp h2;rwa [show max (iq t.rows i) 0 = iq t.rows i from by omega] at this
 rw [bba h];refine ⟨hT.nm,hT.na,by show (a7y _ _ _ _).length <= 1000;rw [b52];exact hT.nr,hT.nms, ?_⟩;refine vh (fun x hx=>?_) (by rw [aex,b6r hix,<- aex];exact qz hT.rs);have hold:=jp hT.rs _ (brs hix);have hgd:=bw _ _ hix;unfold a7y at hx
 rcases bu0 hx with hx | rfl
 · exact jp hT.rs x hx
 refine ⟨by show 0 < (t.rows.getD _ default).id;rw [hgd];exact hold.1,by show (List.set _ _ _).length = _;rw [btl,hgd];exact hold.2.1, ?_⟩;rw [bs2];intro y hy
 rcases bu0 hy with hy | rfl
 · rw [hgd] at hy
   exact bs2.1 hold.2.2 y hy
 exact h5
def biw {c:Chg} (h:afb t c = 0):TOk (ac9 t c):=by
 unfold afb at h;unfold ac9;split at h
 · rename_i h2;rw [if_pos h2];exact bgt h
 rename_i h2;rw [if_neg h2];split at h
 · omega
 split at h
 · omega
 split at h
 · rename_i h3;rw [if_pos h3];exact bey h
 rename_i h3;rw [if_neg h3];exact bfl h
def bkh {d:DB} {c:Chg} (hd:dbV d):dbV (a4k d c):=by
 by_cases he:ll d c = 0
 · unfold ll at he
   split at he
   · rename_i h1
     split at he
     · omega
     obtain ⟨g1,g2,g3⟩:=bdq he;have he':ll d c = 0:=by rw [aE2 h1 bvl];exact he
     rw [aD1 he' h1];refine ⟨by simp;omega,fun j hj=>?_⟩;by_cases h:j < d.length
     · rw [show (d ++ [c.table]).getD j default = d.getD j default from by simp [List.getD,buq h]]
       exact hd.2 j h
     obtain rfl:j = d.length:=by simp at hj;omega
     rw [show (d ++ [c.table]).getD d.length default = c.table from by simp [List.getD]];exact g1
   rename_i h1;split at he
   · omega
   split at he
   · omega
   rename_i h2 h3;have he':ll d c = 0:=by rw [aE5 bv9 h3];exact he
   rw [aD2 he' h1 rfl];refine ⟨by rw [btl];exact hd.1,fun j hj=>?_⟩;rw [btl] at hj;by_cases h:j = (md d c.name).toNat
   · subst h
     rw [show (d.set (md d c.name).toNat (ac9 (wz d c.name) c)).getD (md d c.name).toNat default = ac9 (wz d c.name) c from by simp [List.getD,hj]];exact nn.2 (biw he)
   rw [show (d.set (md d c.name).toNat (ac9 (wz d c.name) c)).getD j default = d.getD j default from by simp only [List.getD,List.getElem?_set_ne (Ne.symm h)]];exact hd.2 j hj
 rw [bfk rfl he];exact hd
def dbV.ok {d:DB} (h:dbV d):bnb d:=⟨by have:=h.1;omega,fun j hj=>azt (h.2 j hj)⟩
def aty:dbV []:=⟨by simp,fun j hj=>by simp at hj⟩
def b14:∀ {l:List Chg} {d:DB},dbV d -> dbV (ake d l)
 | [],d,h=>h
 | c :: l,d,h=>by
  simp only [ake];split
  · exact aty
  exact b14 (bkh h)
variable {n:Nat}
def bok (hn:n <= 8) {f:Nat -> Nat -> PV}:CoP (.sl (0 + n) 1 false (f8 0 f (fun i j=>[PV.raw (.string ⟨#[97]⟩), .raw (.string ⟨#[98]⟩), .raw (.string ⟨#[99]⟩), .raw (.string ⟨#[100]⟩), .raw (.string ⟨#[101]⟩), .raw (.string ⟨#[102]⟩), .raw (.string ⟨#[103]⟩), .raw (.string ⟨#[104]⟩)].getD (i * 1 + j) .any))) (a2m (og.take n)):=by
 refine CoP.sl (by simp [og];omega) (.inl rfl) (fun h=>h) fun i j hi hj=>CoP.of_eq ?_;obtain rfl:j = 0:=by omega
 have hi8:i < n:=by omega
 simp only [f8,brg,if_false,Nat.sub_zero,bu6,bt6,lf,List.getD,bsa,hi8,if_true];have:i < 8:=by omega
 match i,this with
 | 0,_=>rfl
 | 1,_=>rfl
 | 2,_=>rfl
 | 3,_=>rfl
 | 4,_=>rfl
 | 5,_=>rfl
 | 6,_=>rfl
 | 7,_=>rfl
def agw {α:Type} [Inhabited α] {l:List α} {k:Nat} (h:l.length <= k):l.getD k default = default:=by simp [List.getD,h]
def bhk {g:UInt8} {i:Nat}:0 <= (i:Int) * (1 + (g.toNat:Int) % 3) /\ (i:Int) * (1 + (g.toNat:Int) % 3) <= 3 * i:=by
 have h:(g.toNat:Int) % 3 = 0 \/ (g.toNat:Int) % 3 = 1 \/ (g.toNat:Int) % 3 = 2:=by omega
 rcases h with h | h | h <;> rw [h] <;> omega
def ayl {l:List UInt8}:(qt l n).length = n:=by simp [qt]
def b00 {x:oe}:(n4 x n).length = x.rows.length:=by simp [n4]
def axo {l:List UInt8} {k j:Nat} (h:k < n):lf Val.c (qt l n) k j = Val.c (ofV (l.getD k default)) j:=by
 unfold lf qt;rw [ail _ _ _ h]
def bew {x:oe} {i j:Nat} (h:i < x.rows.length):lf Row.c (n4 x n) i j = Row.c ⟨1 + (i:Int) * (1 + (x.gap.toNat:Int) % 3),qt (x.rows.getD i default) n⟩ j:=by
 unfold lf n4;rw [ail _ _ _ h]
def jr (s:Stt):List Chg:=s.done.flatten ++ s.now
def afy (s:Stt):DB:=ake [] (jr s)
def bql (s:Stt) (x:Opn):Chg :=
 let k:=x.kind.toNat % 9
 if k = 0 then { (default:Chg) with kind:=1,name:=ai2 x,table:=b7n x }
 else if md (afy s) (ai2 x) < 0 then default
 else
  let t:=wz (afy s) (ai2 x)
  if k = 1 then { (default:Chg) with kind:=2,name:=t.name,row:=b7u x }
  else if ¬ 0 <= iq t.rows x.id then default
  else if k = 2 then { (default:Chg) with kind:=3,name:=t.name,row:=t.rows.getD (max (iq t.rows x.id) 0).toNat default }
  else { (default:Chg) with kind:=4,name:=t.name,row:=t.rows.getD (max (iq t.rows x.id) 0).toNat default,attr:=x.attr,value:=ofV x.value }
def bpl (s:Stt) (x:Opn):Int :=
 let k:=x.kind.toNat % 9
 if k = 0 then acs (afy s) (b7n x)
 else if md (afy s) (ai2 x) < 0 then 4
 else
  let t:=wz (afy s) (ai2 x)
  if k = 1 then a06 t (b7u x)
  else if ¬ 0 <= iq t.rows x.id then 4
  else if k = 2 then 0
  else a56 t x.id x.attr (ofV x.value)
structure bi5 (s:Stt):Prop where
 ld:s.done.flatten.length <= 68719476736
 ln:s.now.length <= 68719476736
 lt:s.done.length <= 68719476736
 lu:s.undone.length <= 68719476736
 ok:bhx (jr s)
structure br4 (x:Opn):Prop where
 lv:x.vals.length <= 68719476736
 lr:x.t.rows.length <= 68719476736
def bi5.V {s:Stt} (_:bi5 s):dbV (afy s):=b14 aty
end
end
section
def b4y:∀ k,k < 9 -> a8f (og.take k) = true:=by decide
def aux (c:UInt8):ly (ofV c):=by
 unfold ofV;have h:∀ k:Fin 12,d9 (ofI (k.val:Int)) = true /\ -1 <= (ofI (k.val:Int)).num /\ (ofI (k.val:Int)).num <= 7:=by decide
 have:=h ⟨c.toNat % 12,by omega⟩;rw [show ((c.toNat % 12:Nat):Int) = (c.toNat:Int) % 12 by omega] at this;exact ⟨this.1,by omega,by omega⟩
def acn {x:oe} {n:Nat} (hn:n <= 8):(sg x n).attrs.length = n:=by
 show (og.take n).length = n;rw [brl];have:og.length = 8:=rfl;omega
def bbc {x:oe} {n:Nat} (hn:n <= 8) (hx:x.rows.length <= 8):TOk (sg x n) where
 nm:=by show lp ⟨#[114]⟩ = true;decide
 na:=by rw [acn hn];omega
 nr:=by show (n4 x n).length <= 1000;rw [b00];omega
 nms:=b4y n bv9
 rs:=by
  rw [acn hn];refine vh (fun w hw=>?_) ?_
  · obtain ⟨i,hi,e⟩:=brp.1 hw
    subst e;refine ⟨?_,ayl, ?_⟩
    · show (0:Int) < 1 + (i:Int) * (1 + (x.gap.toNat:Int) % 3)
      have:(0:Int) <= (i:Int) * (1 + (x.gap.toNat:Int) % 3):=Int.mul_nonneg bv9 bv9;omega
    rw [bs2];intro v hv;obtain ⟨k,_,e⟩:=brp.1 hv;rw [<- e];exact (aux _).1
  show vk (n4 x n);unfold n4;refine List.pairwise_map.2 ((List.pairwise_lt_range (n:=x.rows.length)).imp fun {i j} hij=>?_);show 1 + (i:Int) * (1 + (x.gap.toNat:Int) % 3) < 1 + (j:Int) * (1 + (x.gap.toNat:Int) % 3);have:(i:Int) * (1 + (x.gap.toNat:Int) % 3) < (j:Int) * (1 + (x.gap.toNat:Int) % 3):=Int.mul_lt_mul_of_pos_right bv9 bv9;omega
def an8 {x:oe} {n:Nat}:∀ r ∈ (sg x n).rows,∀ v ∈ r.vals,ly v:=fun r hr v hv=>by
 obtain ⟨i,hi,rfl⟩:=brp.1 hr;obtain ⟨k,_,rfl⟩:=brp.1 hv;exact aux _
def bl8 (n:Int) (d:Fd):Fd:=⟨d.lhs &&& aa n,d.rhs &&& aa n⟩
def bqi (q:Fd -> Bool) (n:Int) (l:List Fd) (i:Nat):List Fd:=((l.take i).map (bl8 n)).filter q
section
variable {q:Fd -> Bool} {n:Int} {l:List Fd} {i:Nat}
end
def bqk (s:AS) (l:List AS) (i:Nat):List AS:=(l.take i).map (· &&& s) ++ l.drop i
section
variable {s:AS} {l:List AS} {i:Nat}
end
end
section
def abc (t:Tbl) (d:Fd):Bool:=(List.range t.rows.length).all fun i=>(List.range t.rows.length).all fun k=>a0q t d i k
section
variable {t:Tbl}
def bfz {d:Fd} (h:abc t d = true):fdB t d = true:=by
 unfold abc at h;unfold fdB;rw [bs2] at h ⊢;intro i hi;have h1:=h i hi;rw [bs2] at h1 ⊢;intro k hk;have hi:=brw.1 hi;have hk:=brw.1 hk;exact h1 k (brw.2 bv9)
def a2e (t:Tbl) (l:List Fd) (i:Nat):List Fd:=(l.take i).filter (abc t)
def jh (t:Tbl) (l:List Fd):List Fd:=l.filter (abc t)
variable {l:List Fd}
def af7 {i:Nat} (hi:i < l.length) (h:abc t (l.getD i default) = true):a2e t l (i + 1) = a2e t l i ++ [l.getD i default]:=awg hi h
def acv {i:Nat} (hi:i < l.length) (h:abc t (l.getD i default) = false):a2e t l (i + 1) = a2e t l i:=awq hi h
def b4f:a2e t l l.length = jh t l:=by unfold a2e jh;rw [bro]
def b75 {i:Nat}:(a2e t l i).length <= i:=bs4 (btb _ _) (List.length_take_le _ _)
def b4o:(jh t l).length <= l.length:=btb _ _
def acr {n:Int} (h:bj n l = 0):bj n (jh t l) = 0:=by
 obtain ⟨h1,h2,h3,h4⟩:=fz h;have hl:=b4o (t:=t) (l:=l);unfold bj;rw [if_neg bv9,if_neg bv9,if_pos];rw [bs2] at h4 ⊢;exact fun x hx=>h4 x (bt4.1 hx).1
def au8:∀ d ∈ jh t l,fdB t d = true:=fun d hd=>bfz (bt4.1 hd).2
def az2 {n:Int} {ps:List AS} {p m:List Fd} (hc:lsC n ps p m = 0) (hl:lsB n ps p m = true):prC n ps p m = 0:=by
 have h:=(b8q hc).2 hl;have hr:=(abh (n:=n) (ps:=ps) (p:=p) (m:=m)).trans hc;unfold prC;rw [if_pos hr,if_neg bv9]
def bec {n:Int} (hT:TOk t) (he:∀ r ∈ t.rows,∀ v ∈ r.vals,ly v) (hn:(t.attrs.length:Int) = n) (hv:bj n l = 0) (h6:n <= 6):
 prC n (k7 n (jh t l)) (jh t l) [] = 0 /\ ng t (k7 n (jh t l)) = 0 /\ ya (t6 t (k7 n (jh t l))) t = true /\ (t6 t (k7 n (jh t l))).ok:=by
 have hv':=acr (t:=t) hv;obtain ⟨h1,h2⟩:=b92 hv' h6;have hc:lsC n (k7 n (jh t l)) (jh t l) [] = 0:=by unfold b4g at h1;rwa [if_pos hv'] at h1
 have hl:lsB n (k7 n (jh t l)) (jh t l) [] = true:=by
  unfold awe at h2;simp only [brk] at h2;exact h2.2.1.1
 subst hn;exact ⟨az2 hc hl,ajb hT he (a7b hc).1 (b7g hc hl) au8 fun d hd=>by cases hd⟩
def bej {n:Int} (hT:TOk t) (he:∀ r ∈ t.rows,∀ v ∈ r.vals,ly v) (hn:(t.attrs.length:Int) = n) (hv:bj n l = 0) (h6:n <= 6):
 prC n (qi n (jh t l)) (jh t l) [] = 0 /\ ng t (qi n (jh t l)) = 0 /\ ya (t6 t (qi n (jh t l))) t = true /\ (t6 t (qi n (jh t l))).ok:=by
 have hv':=acr (t:=t) hv;have hs:k6 n (jh t l) 8 = 0:=by unfold k6;rw [if_pos hv',if_neg bv9]
 obtain ⟨h1,h2⟩:=b8m hs h6
 have hl:lsB n (qi n (jh t l)) (jh t l) [] = true:=by
  unfold b5y at h2;simp only [brk] at h2;exact h2.1
 subst hn;exact ⟨az2 h1 hl,ajb hT he (a7b h1).1 (b7g h1 hl) au8 fun d hd=>by cases hd⟩
end
end
section
section
variable {n:Int} {p m:List Fd} {E:Int -> Int -> Prop} {R:Rw -> Prop}
def bp0 (E:Int -> Int -> Prop) (R:Rw -> Prop) (x b:AS):Prop:=∀ a c,R a -> R c -> AgE E a c x -> R (fp a c b)
end
section
variable {n:Int} {p m:List Fd}
end
end
section
def br2 (t:Tbl) (l:List Fd) (i:Nat):List Fd:=(l.take i).filter (mvB t)
def bqd (t:Tbl) (l:List Fd):List Fd:=l.filter (mvB t)
end
section
def ann {α:Type} [Inhabited α] {a b:List α} (hl:a.length = b.length) (h:∀ j,j < a.length -> a.getD j default = b.getD j default):a = b:=by
 refine btd hl fun i h1 h2=>?_;have:=h i h1;rwa [bw _ _ h1,bw _ _ h2] at this
abbrev rwp (r:Row):PV:=.vp 2 fun j=>[r.c 0,r.c 1].getD j .any
end
end Go.Hx
