/- A part of the proof: Cs4 V2 Cl1 V3 Cl2 V4 Cs5 V5 Cs2 Cs6. -/
import Derived.Lib.TrailingZeros
import Derived.Test.YtkkenjdfbojdlaaGreatDoorGx15
set_option linter.all false
set_option maxRecDepth 100000
set_option maxHeartbeats 1000000
namespace Go.Hx
section
theorem vj (i k:Nat) (hk:k < 32):((1:AS) <<< i).getLsbD k = decide (k = i):=by
 rw [BitVec.getLsbD_shiftLeft];by_cases h:k < i
 · simp [h,hk];omega
 by_cases e:k = i
 · subst e;simp [hk]
 have:0 < k - i:=by omega
 simp [hk,h,e,BitVec.getLsbD_one];omega
theorem p9:∀ (n k:Nat),k < 32 -> (jw n).getLsbD k = decide (k < n)
 | 0,k,hk=>by simp [jw]
 | n + 1,k,hk=>by
  rw [aav,bm9,p9 n k hk,vj n k hk];by_cases h:k < n
  · simp [h];omega
  by_cases e:k = n
  · simp [e]
  simp [h,e];omega
theorem bay {s:AS} {n:Nat}:s >>> n = 0 <-> ∀ k,k < 32 -> n <= k -> s.getLsbD k = false:=by
 constructor
 · intro h k hk hn
   have:=congrArg (fun x:AS=>x.getLsbD (k - n)) h;simp only [bnh] at this;rw [show n + (k - n) = k by omega] at this;simpa using this
 intro h;apply bm6;intro i hi;rw [bnh];by_cases hk:n + i < 32
 · rw [h (n + i) hk bos];simp
 rw [BitVec.getLsbD_of_ge _ _ bos];simp
theorem ui {s:AS} {n:Nat} (hn:n <= 32):sub s (jw n) <-> s >>> n = 0:=by
 rw [ai,bay];constructor
 · intro h k hk hle
   rw [bkv];intro e;have:=h k hk e;rw [p9 n k hk,decide_eq_true_iff] at this;omega
 intro h k hk e;rw [p9 n k hk,decide_eq_true_iff];apply Nat.lt_of_not_le;intro hle;rw [h k hk hle] at e;cases e
theorem pk {n:Int} (hn:0 <= n) (h16:n <= 16) {f:Fd}:inU n f = true <-> sub f.lhs (aa n) /\ sub f.rhs (aa n):=by
 unfold inU aa;rw [decide_eq_true_iff,bmn bos,<- ui bos];exact ⟨fun h=>⟨gk zk h,gk a3j h⟩,fun h=>a2n h.1 h.2⟩
abbrev Fd.pc (f:Fd):PC:=.agg [f.c 0,f.c 1]
def imp (l:List Fd) (f:Fd):Bool:=decide (sub f.rhs (clo l f.lhs))
end
section
open Go.Proofs
theorem avf:goodFn Tryz.prog 98:=wgx Tryz.func98
theorem ape (n:Int) (l:List Fd):a7 Tryz.prog 98 [pI n,pP (fdl l)] (ae [pI (bj n l)]):=by
 refine hpx (nt:=42) Tryz.func98 ?_;refine cq ?_;refine cb 1 rfl fun hlen=>?_;refine w_9 ?_;refine am rfl rfl (fun r0=>?_) (fun r0=>?_)
 ·
  have h0:=tz1 r0;(iterate 2 refine k9 (gtf r0) ?_);refine rq rfl rfl rfl rfl rfl ?_ (hp:=r0);refine aq ?_;refine a8 _ rfl (fun _=>?_) (fun e=>by cases e);refine w_4 ?_
  exact hx8 rfl rfl rfl (⟨cci (by rw [bj,if_pos bos]),trivial⟩)
 have h0:=tz2 r0;(iterate 2 refine qy ?_ (hg:=(gff r0)));refine w_2 ?_;refine a8 _ rfl (fun r1=>?_) (fun r1=>?_)
 · have h1:=tz1 (au r0 r1);refine w_4 ?_;exact hx8 rfl rfl rfl (⟨cci (by rw [bj,if_pos bos]),trivial⟩)
 have h1:=tz2 (au r0 r1);refine w_8 ?_;refine hcd (fun h2=>?_) (fun h2=>?_)
 · refine w_4 ?_;exact hx8 rfl rfl rfl (⟨cci (by rw [bj,if_neg bos,if_pos bos]),trivial⟩)
 refine w_4 ?_;refine qcx ol (oq n) ?_;refine w_8 ?_;refine a6 (ι:=Nat) ⟨[(1,some _),(5,some _)],[]⟩ ⟨⟨c9,c9,trivial⟩,trivial⟩ (fun i=>⟨[(6,some (vI i))],[]⟩) (fun i=>i <= l.length /\ ∀ j,j < i -> inU n (l.getD j default) = true) (fun i=>l.length - i) (0) (⟨bkl _,fun j hj=>absurd hj (bkp j)⟩) ⟨⟨zy,trivial⟩,trivial⟩ ?_;rintro i ⟨hi,hI⟩;refine w_8 ?_;refine hcd (fun h3=>?_) (fun h3=>?_)
 ·
  refine cu ?_;refine qcx ny (w3 _ _) ?_;refine w_2 ?_;refine am rfl rfl (fun r4=>?_) (fun r4=>?_)
  ·
   have h4:=d6 r4;(iterate 8 refine k9 (gtf r4) ?_);refine rq rfl rfl rfl rfl rfl ?_ (hp:=r4);refine aq ?_;refine a8 _ rfl (fun _=>?_) (fun e=>by cases e);refine w_4 ?_
   exact hx8 rfl rfl rfl (⟨cci (by rw [bj,if_neg bos,if_neg bos,if_neg (fun e=>absurd (abq (l:=l) (p:=inU n) (i:=i) bos (by rw [bkv];intro e2;rw [pk bos bos] at e2;simp_all)) (by rw [e];decide))]),trivial⟩)
  have h4:=d5 r4;(iterate 6 refine qy ?_ (hg:=(gff r4)));refine qcx ny (w3 _ _) ?_ (hg:=(gff r4));refine qy ?_ (hg:=(gff r4));refine w_2 ?_;refine a8 _ rfl (fun r5=>?_) (fun r5=>?_)
  · have h5:=d6 (au r4 r5);refine w_4 ?_;exact hx8 rfl rfl rfl (⟨cci (by rw [bj,if_neg bos,if_neg bos,if_neg (fun e=>absurd (abq (l:=l) (p:=inU n) (i:=i) bos (by rw [bkv];intro e2;rw [pk bos bos] at e2;simp_all)) (by rw [e];decide))]),trivial⟩)
  have h5:=d5 (au r4 r5);refine w_6 ?_;refine lpz (i + 1) ⟨⟨zy,c9,c9,trivial⟩,trivial⟩ ?_;refine ⟨by omega,fun j hj=>?_⟩
  rcases bn5 (bng hj) with h | h
  · exact hI j h
  subst h;exact (pk bos bos).2 bp5
 obtain rfl:i = l.length:=by omega
 refine w_5 ?_;exact hx8 rfl rfl rfl (⟨cci (by rw [bj,if_neg bos,if_neg bos,if_pos (ahe fun j hj=>hI j hj)]),trivial⟩)
theorem ao6:goodFn Tryz.prog 252:=wgx Tryz.func252
theorem beg (l:List Fd) (x:Fd):a7 Tryz.prog 252 [pP (fdl l),x.pc] (ae [pB (imp l x)]):=by
 refine hpx (nt:=13) Tryz.func252 ?_;refine sx7 ?_;refine m9 0 ?_;refine w_9 ?_;refine qcx t6 (x6 l x.lhs) ?_;refine w_5 ?_;exact hx8 rfl rfl rfl (⟨ccb (decide_eq_decide.2 jd),trivial⟩)
end
section
variable {α:Type}
theorem ay [Inhabited α] {l:List α} {q:Nat} (hq:q < l.length):l.take (q + 1) = l.take q ++ [l.getD q default]:=by
 rw [List.take_add_one,bkj hq];simp [List.getD,hq]
theorem aso [Inhabited α] {l:List α} {q:Nat} (h0:0 < q) (hq:q <= l.length):(l.take q).getLast? = some (l.getD (q - 1) default):=by
 obtain ⟨k,rfl⟩:∃ k,q = k + 1:=⟨q - 1,by omega⟩;rw [ay bos,List.getLast?_append];simp
section
variable [DecidableEq α]
def kr:Option α -> List α -> List α
 | _,[]=>[]
 | p,x :: l=>if p = some x then kr p l else x :: kr (some x) l
def j3 (l:List α):List α:=kr none l
def a2a (p:Option α) (l:List α):Option α:=match l.getLast? with | some y=>some y | none=>p
theorem an1 (p:Option α) (y:α) (l:List α):a2a p (y :: l) = a2a (some y) l:=by
 unfold a2a
 cases l with
 | nil=>rfl
 | cons z l=>simp [List.getLast?_cons]
theorem a6c (x:α):∀ (l:List α) (p:Option α),kr p (l ++ [x]) = kr p l ++ (if a2a p l = some x then [] else [x])
 | [],p=>by
  unfold a2a;simp only [bod,kr,List.getLast?_nil];by_cases h:p = some x <;> simp [h]
 | y :: l,p=>by
  rw [an1];simp only [bnj,kr];split
  · rename_i h
    rw [a6c x l p,h]
  rw [a6c x l (some y)];rfl
theorem om [Inhabited α] {l:List α} {q:Nat} (h0:0 < q) (hq:q < l.length):j3 (l.take (q + 1)) = j3 (l.take q) ++ (if l.getD (q - 1) default = l.getD q default then [] else [l.getD q default]):=by
 unfold j3;rw [ay hq,a6c];unfold a2a;rw [aso h0 bos];simp
theorem vo [Inhabited α] {l:List α}:∀ {k:Nat},k <= l.length -> (∀ j,0 < j -> j < k -> ¬ l.getD j default = l.getD (j - 1) default) -> j3 (l.take k) = l.take k
 | 0,_,_=>rfl
 | 1,hk,_=>by
  rw [ay bos];simp [j3,kr]
 | k + 2,hk,h=>by
  rw [om bos bos,vo bos (fun j h1 h2=>h j h1 bos),if_neg (fun e=>h (k + 1) bos bos e.symm),<- ay bos]
theorem a9m:∀ (l:List α) (p:Option α),∀ x ∈ kr p l,x ∈ l
 | [],_,x,h=>by simp [kr] at h
 | y :: l,p,x,h=>by
  simp only [kr] at h;split at h
  · exact bm1 _ (a9m l p x h)
  rcases bkx.1 h with rfl | h
  · exact bly
  exact bm1 _ (a9m l _ x h)
theorem aa4:∀ (l:List α) (p:Option α),∀ x ∈ l,p = some x \/ x ∈ kr p l
 | y :: l,p,x,h=>by
  simp only [kr];split
  · rename_i hp
    rcases bkx.1 h with rfl | h
    · exact .inl hp
    exact aa4 l p x h
  rcases bkx.1 h with rfl | h
  · exact .inr bly
  rcases aa4 l (some y) x h with h | h
  · simp only [bki] at h
    subst h;exact .inr bly
  exact .inr (bm1 _ h)
theorem alz {l:List α} {x:α}:x ∈ j3 l <-> x ∈ l:=⟨a9m l none x,fun h=>by
 rcases aa4 l none x h with h | h
 · cases h
 exact h⟩
end
section
variable [Inhabited α]
section
variable {l:List α}
theorem nx {p:Nat} {v:α} (hp:p < l.length):(l.set p v).getD p default = v:=by simp [List.getD,hp]
theorem getD_set_ne' {p j:Nat} {v:α} (h:j ≠ p):(l.set p v).getD j default = l.getD j default:=by
 simp only [List.getD,List.getElem?_set_ne (Ne.symm h)]
variable {c:α -> Nat -> PV}
theorem adl {wr wr':Bool} {n p k:Nat} {e:TypeId} {v:α} {x:PV} (hw:wr' = true -> wr = true) (hn:n = l.length) (hp:k = p) (hk:p < l.length) (hx:x = c v 0):
 CoO (.arr wr 1 e n (er (lf c l) k 0 [x])) (.arr wr' 1 e n (lf c (l.set p v))):=by
 subst hp hx hn;refine ⟨hw,rfl,rfl,rfl,fun i j hi hj=>CoP.of_eq ?_⟩;obtain rfl:j = 0:=by omega
 unfold er lf;by_cases h:i = k
 · subst h
   rw [if_pos ⟨rfl,by omega,by simp⟩,nx hk];rfl
 rw [if_neg bos,getD_set_ne' h]
theorem sm {wr wr':Bool} {n p k q d:Nat} {e:TypeId} {l':List α} (hw:wr' = true -> wr = true) (hn:n = l.length) (hp:k = p) (hk:p < l.length) (hd:d = q):
 CoO (.arr wr 1 e n (er (lf c l) k 0 [lf c l' d 0])) (.arr wr' 1 e n (lf c (l.set p (l'.getD q default)))):=adl hw hn hp hk (by rw [hd];rfl)
theorem ae8 {n m a:Nat} {cl:Bool} {l':List α} {z:List Value} {p:Option Int} {h:Option Int} (hn:ek (be n h) p = l'.length) (hp:p = none) (ha:l'.length <= a) (hl:l' = l.take l'.length):
 CoP (.sl (ek (be n h) p) 1 cl (rj (o6 (lf c l) a m z) p)) (psl 1 c l'):=by
 subst hp;refine CoP.sl hn.symm (.inl rfl) (fun h=>by cases h) fun i j hi hj=>CoP.of_eq ?_;rw [hn] at hi;show o6 (lf c l) a m z i j = lf c l' i j;unfold o6;rw [if_neg bos];simp only [lf,List.getD];have e:l'[i]? = l[i]?:=by rw [hl,blp,if_pos hi]
 rw [e]
end
end
abbrev sC:AS -> Nat -> PV:=fun s _=>asC s
structure CpI (l:List AS) (k p q:Nat) (m:List AS):Prop where
 len:m.length = l.length
 kq:k < q
 pq:p < q
 ql:q <= l.length
 pre:m.take p = j3 (l.take q)
 high:∀ j,q - 1 <= j -> m.getD j default = l.getD j default
section
variable {k:Nat} {l:List AS}
theorem CpI.start (h1:1 <= k) (hk:k < l.length) (h:∀ j,0 < j -> j < k -> ¬ l.getD j default = l.getD (j - 1) default) (hd:l.getD k default = l.getD (k - 1) default):CpI l k k (k + 1) l :=
 ⟨rfl,by omega,by omega,by omega,by rw [om bos hk,if_pos hd.symm,blq,vo bos h],fun _ _=>rfl⟩
theorem CpI.skip {p q:Nat} {m:List AS} (h:CpI l k p q m) (hq:q < l.length) (he:m.getD q default = m.getD (q - 1) default):CpI l k p (q + 1) m:=by
 have hk:=h.kq;refine ⟨h.len,by omega,by have:=h.pq;omega,hq, ?_,fun j hj=>h.high j bos⟩;rw [h.high q bos,h.high (q - 1) bos] at he;rw [om bos hq,if_pos he.symm,blq,h.pre]
theorem CpI.keep {p q:Nat} {m:List AS} (h:CpI l k p q m) (hq:q < l.length) (he:¬ m.getD q default = m.getD (q - 1) default):CpI l k (p + 1) (q + 1) (m.set p (m.getD q default)):=by
 have hk:=h.kq;have hp:=h.pq;have hl:=h.len;refine ⟨by simp [hl],by omega,by omega,hq, ?_,fun j hj=>by rw [getD_set_ne' bos];exact h.high j bos⟩;have e:=h.high q bos;rw [e,h.high (q - 1) bos] at he;rw [om bos hq,if_neg (fun e=>he e.symm),<- h.pre,ay (by simp [hl];omega),nx bos,e];congr 1;rw [List.take_set,List.set_eq_of_length_le bp3]
theorem yd {a b a' b':Nat} (h:asI (l.getD a' default) = asI (l.getD b' default)) (ha:a' = a) (hb:b' = b):l.getD a default = l.getD b default:=by subst ha hb;exact cg.1 h
theorem ya {a b a' b':Nat} (h:¬ asI (l.getD a' default) = asI (l.getD b' default)) (ha:a' = a) (hb:b' = b):¬ l.getD a default = l.getD b default:=by subst ha hb;exact fun e=>h (congrArg asI e)
theorem an7 (hk:l.length <= k) (h:∀ j,0 < j -> j < k -> ¬ l.getD j default = l.getD (j - 1) default):CoP (.sl l.length 1 false (lf sC l)) (asl (j3 l)):=by
 have:=vo (bko l.length) fun j h1 h2=>h j h1 bos;rw [bks] at this;rw [this];exact CoP.refl _
theorem b63 {m:List AS} {p q n a d:Nat} {cl:Bool} {z:List Value} (hC:CpI l k p q m) (hq:¬ q < l.length) (ha:p <= a):CoP (.sl (ek (be n (some (p:Int))) none) 1 cl (rj (o6 (lf sC m) a d z) none)) (asl (j3 l)):=by
 have e:=hC.pre;have h1:=hC.ql;have h2:=hC.len;have h3:=hC.pq;rw [show q = l.length by omega,bks] at e;have el:(j3 l).length = p:=by rw [<- e];simp;omega
 exact ae8 (by rw [el];rfl) rfl bos (by rw [el,e])
end
end
section
open Go.Proofs
theorem aoj:goodFn Tryz.prog 216:=wgx Tryz.func216
theorem bou {p:Prop} (h:p:=by (repeat' apply And.intro) <;> first | trivial | exact bkm rfl):p:=h
theorem bov {p:Prop} (h:p:=by first | rfl | (dsimp only;omega)):p:=h
theorem boy {p:Prop} (h:p:=by simp only [be];omega):p:=h
theorem aye (l:List AS):da Tryz.prog 216 [.one (.ref 900 l.length)] [(900, .arr true 1 46 l.length (lf sC l))] (.v (.one (.p (asl (j3 l))))) [] []:=by
 refine hfx (nt:=61) Tryz.func216 ?_;refine cq ?_;refine abc 900 rfl fun hlen=>?_;refine ce ?_;refine hcd (fun h0=>?_) (fun h0=>?_)
 · refine w_5 ?_;refine av 2 rfl rfl rfl ?_;refine jn ?_;refine ⟨.inr rfl, ?_⟩;exact ⟨_,_,rfl,bou,an7 (k:=l.length) (bko _) (fun j h1 h2=>by omega),trivial⟩
 refine w_7 ?_;refine a6 (ι:=Nat) ⟨[(0,some _)],[(900,some _)]⟩ ⟨⟨c9,trivial⟩,⟨u9,trivial⟩⟩ (fun k=>⟨[(3,some (vI k))],[]⟩) (fun k=>1 <= k /\ k <= l.length /\ ∀ j,0 < j -> j < k -> ¬ l.getD j default = l.getD (j - 1) default) (fun k=>l.length - k) (1) (⟨bko _,by omega,fun j h1 h2=>by omega⟩) ⟨⟨zy,trivial⟩,trivial⟩ ?_;rintro k ⟨hk1,hk,hI⟩;refine w_8 ?_;refine hcd (fun h1=>?_) (fun h1=>?_)
 ·
  refine xa ?_;refine hcd (fun h2=>?_) (fun h2=>?_)
  ·
   refine ik ?_;refine a6 (ι:=Nat × Nat × List AS) ⟨[(0,some _),(4,some _)],[]⟩ ⟨⟨c9,c9,trivial⟩,trivial⟩ (fun x=>⟨[(3,some (vI x.1)),(5,some (vI ((x.2.1:Int) - k)))],[(900,some (.arr true 1 46 l.length (lf sC x.2.2)))]⟩) (fun x=>CpI l k x.1 x.2.1 x.2.2) (fun x=>l.length - x.2.1) ((k,k + 1,l)) (CpI.start hk1 bos hI (yd bot rfl bos)) ⟨⟨zy,⟨_,rfl,(coi bov)⟩,trivial⟩,⟨u9,trivial⟩⟩ ?_;rintro ⟨p,q,m⟩ hC;have hC0:=hC;obtain ⟨hml,hkq,hpq,hql,_,_⟩:=hC0;dsimp only at hC hml hkq hpq hql;refine w_8 ?_;refine hcd (fun h3=>?_) (fun h3=>?_)
   ·
    simp only [ek,be,bkw] at h3;refine xa ?_;refine hcn (fun h4=>?_) (fun h4=>?_)
    ·
     refine a69 ?_
     first | (refine ⟨(p + 1, q + 1, m.set p (m.getD q default)), ?_, ?_, ?_⟩
              · exact hC.keep bos (ya bot boy boy)
              · first | omega | (dsimp only;omega)
              exact ⟨⟨⟨_,rfl,(coi bov)⟩,⟨_,rfl,(coi bov)⟩,c9,c9,trivial⟩,⟨⟨_,rfl,(sm id hml.symm bos (by dsimp only;omega) boy)⟩,trivial⟩⟩)
           | (refine ⟨(p,q + 1,m), ?_, ?_, ?_⟩
              · exact hC.skip bos (yd bot boy boy)
              · first | omega | (dsimp only;omega)
              exact ⟨⟨⟨_,rfl,(coi bov)⟩,⟨_,rfl,(coi bov)⟩,c9,c9,trivial⟩,⟨u9,trivial⟩⟩)
    refine w_6 ?_
    first | (refine ⟨(p + 1, q + 1, m.set p (m.getD q default)), ?_, ?_, ?_⟩
             · exact hC.keep bos (ya bot boy boy)
             · first | omega | (dsimp only;omega)
             exact ⟨⟨⟨_,rfl,(coi bov)⟩,⟨_,rfl,(coi bov)⟩,c9,c9,trivial⟩,⟨⟨_,rfl,(sm id hml.symm bos (by dsimp only;omega) boy)⟩,trivial⟩⟩)
          | (refine ⟨(p,q + 1,m), ?_, ?_, ?_⟩
             · exact hC.skip bos (yd bot boy boy)
             · first | omega | (dsimp only;omega)
             exact ⟨⟨⟨_,rfl,(coi bov)⟩,⟨_,rfl,(coi bov)⟩,c9,c9,trivial⟩,⟨u9,trivial⟩⟩)
   simp only [ek,be,bkw] at h3;refine w_6 ?_;refine r9 0 true ?_;refine w_5 ?_;refine b1i rfl rfl rfl rfl rfl ?_;refine w_3 ?_;refine ⟨.inr rfl, ?_⟩;exact ⟨_,_,rfl,bou,b63 hC bos (by simp [be]),trivial⟩
  refine w_6 ?_;refine lpz (k + 1) ⟨⟨zy,c9,trivial⟩,⟨u9,trivial⟩⟩ ?_;refine ⟨by omega,by show k + 1 <= _;omega,fun j h1 h2=>?_⟩
  rcases bn5 (bng h2) with h | h
  · exact hI j h1 h
  subst h;exact ya bot rfl bos
 refine w_6 ?_;refine av 2 rfl rfl rfl ?_;refine jn ?_;refine ⟨.inr rfl, ?_⟩;exact ⟨_,_,rfl,bou,an7 (k:=k) bos hI,trivial⟩
end
section
section
variable {α:Type} [Inhabited α] {p:α -> Bool} {l:List α}
theorem aac (h:idx p l = -1):∀ j,j < l.length -> p (l.getD j default) = false:=fun j hj=>by
 cases hc:p (l.getD j default) with
 | false=>rfl
 | true =>
  exfalso;have hx:∃ x ∈ l,p x = true:=⟨l[j],blh hj,by simpa [List.getD,hj] using hc⟩;unfold idx at h
  cases hf:l.findIdx? p with
  | none =>
   rw [List.findIdx?_eq_none_iff] at hf;obtain ⟨x,hx,hp⟩:=hx;rw [hf x hx] at hp;cases hp
  | some i=>rw [hf] at h;simp only at h;omega
theorem zg (h:¬ idx p l = -1):∃ i:Nat,idx p l = i /\ i < l.length /\ p (l.getD i default) = true /\ ∀ j,j < i -> p (l.getD j default) = false:=by
 unfold idx at h ⊢
 cases hf:l.findIdx? p with
 | none=>rw [hf] at h;exact absurd rfl h
 | some i =>
  obtain ⟨h1,h2,h3⟩:=bo5.1 hf;refine ⟨i,rfl,h1,by simpa [List.getD,h1] using h2,fun j hj=>?_⟩;have:=h3 j hj;simp only [List.getD,bkj (Nat.lt_trans hj h1),bli];simpa using this
theorem x5:(decide (0 <= idx p l)) = l.any p:=by
 unfold idx
 cases hf:l.findIdx? p with
 | none =>
  rw [List.findIdx?_eq_none_iff] at hf
  have:l.any p = false:=by
   rw [bmh];intro x hx;rw [hf x hx];exact boe
  rw [this];rfl
 | some i =>
  obtain ⟨h1,h2,_⟩:=bo5.1 hf;have:l.any p = true:=bll.2 ⟨l[i],blh h1,h2⟩;rw [this];exact decide_eq_true (bmz i)
theorem a30:∀ {k:Nat},k <= l.length -> (∀ j,j < k -> p (l.getD j default) = false) -> (l.take k).filter (fun x=>!p x) = l.take k
 | 0,_,_=>by simp
 | k + 1,hk,h=>by rw [ay bos,blz,a30 bos fun j hj=>h j bos];simp only [blx,h k bos,boo,if_true,bmi]
structure DfI (p:α -> Bool) (l:List α) (k q:Nat) (m:List α):Prop where
 len:m.length = l.length
 kq:k < q
 ql:q <= l.length
 pre:m.take k = (l.take q).filter fun x=>!p x
 high:∀ j,q <= j -> m.getD j default = l.getD j default
theorem DfI.start {k:Nat} (hk:k < l.length) (h1:p (l.getD k default) = true) (h:∀ j,j < k -> p (l.getD j default) = false):DfI p l k (k + 1) l :=
 ⟨rfl,by omega,hk,by rw [ay hk,blz,a30 bos h];simp only [blx,h1,bnt,bmi,bm2,if_false,blq],fun _ _=>rfl⟩
theorem DfI.skip {k q:Nat} {m:List α} (h:DfI p l k q m) (hq:q < l.length) (hp:p (m.getD q default) = true):DfI p l k (q + 1) m:=by
 rw [h.high q (bko _)] at hp;exact ⟨h.len,by have:=h.kq;omega,hq,by rw [ay hq,blz,<- h.pre];simp only [blx,hp,bnt,bmi,bm2,if_false,blq],fun j hj=>h.high j bos⟩
theorem DfI.keep {k q:Nat} {m:List α} (h:DfI p l k q m) (hq:q < l.length) (hp:p (m.getD q default) = false):DfI p l (k + 1) (q + 1) (m.set k (m.getD q default)):=by
 have e:=h.high q (bko _);rw [e] at hp ⊢;have hk:=h.kq;have hl:=h.len;refine ⟨by simp [hl],by omega,hq, ?_,fun j hj=>by rw [getD_set_ne' bos];exact h.high j bos⟩;rw [ay (by simp [hl];omega),nx bos,ay hq,blz,<- h.pre];simp only [blx,hp,boo,if_true,bmi];congr 1;rw [List.take_set,List.set_eq_of_length_le bp3]
end
section
variable {p:AS -> Bool} {l:List AS}
theorem b47 (h:∀ j,j < l.length -> p (l.getD j default) = false):CoP (.sl l.length 1 false (lf sC l)) (asl (l.filter fun x=>!p x)):=by
 have:=a30 (bko l.length) h;rw [bks] at this;rw [this];exact CoP.refl _
theorem b53 {m:List AS} {k q n a d:Nat} {cl:Bool} {z:List Value} (hC:DfI p l k q m) (hq:¬ q < l.length) (ha:k <= a):CoP (.sl (ek (be n (some (k:Int))) none) 1 cl (rj (o6 (lf sC m) a d z) none)) (asl (l.filter fun x=>!p x)):=by
 have e:=hC.pre;have h1:=hC.ql;have h2:=hC.len;have h3:=hC.kq;rw [show q = l.length by omega,bks] at e;have el:(l.filter fun x=>!p x).length = k:=by rw [<- e];simp;omega
 exact ae8 (by rw [el];rfl) rfl bos (by rw [el,e])
end
theorem abw {a b:AS}:decide (asI a = asI b) = decide (a = b):=decide_eq_decide.2 cg
instance:DecidableEq Fd:=fun a b=>decidable_of_iff (a.lhs = b.lhs /\ a.rhs = b.rhs) Fd.eq_iff.symm
end
section
open Go.Proofs
theorem wn:goodFn Tryz.prog 21:=wgx Tryz.func21
theorem a1e (n:Nat) (c:Bool) (f:Nat -> Nat -> PV) (hn:n <= 35184372088832) :
 da Tryz.prog 21 [.one (.p (.sl n 1 c f))] [] (.v (.one (.ref 0 n))) [(0, .arr true 1 46 n f)] []:=by
 refine hfx (nt:=8) Tryz.func21 ?_;refine sx7 ?_;refine du true rfl rfl rfl rfl rfl trivial ?_;refine aq ?_;refine a7h (ι:=Bool) (fun c=>⟨[(0,some (bn (.sl n 1 c f)))],[]⟩) (fun _=>True) ?_ fun c _=>?_
 · rcases bmj n with hz | h0
   · subst hz
     refine hw_exact' 0 rfl fun ad cap hcap=>?_;refine sx7 ?_;(iterate 2 refine du true rfl rfl rfl rfl rfl trivial ?_);refine aq ?_;refine a8 ad.isNone rfl (fun hc=>?_) (fun hc=>?_)
     · refine sx7 ?_
       refine du true rfl rfl rfl rfl rfl trivial ?_;refine aq ?_;refine cj 2 0 true 1 46 f boz rfl (CoP.sl rfl (.inr rfl) (fun h=>h) fun i j hi _=>absurd hi (bkp i)) (.inr rfl) rfl ?_;refine jn ?_;refine ⟨.inr rfl, ?_⟩;exact ⟨_,_,rfl,trivial,CoR.refl _,⟨u9,trivial⟩⟩
     refine d7 ?_;exact ⟨false,trivial,⟨⟨_,rfl,CoP.raw_sl hcap⟩,trivial⟩,trivial⟩
   refine sx7 ?_;refine du true rfl rfl rfl rfl rfl trivial ?_;refine du true rfl rfl rfl rfl rfl h0 ?_;refine aq ?_;refine a8 false rfl (fun hc=>by cases hc) (fun hc=>?_);refine d7 ?_;exact ⟨c,trivial,⟨c9,trivial⟩,trivial⟩
 refine sx7 ?_;refine a1l 0 rfl rfl rfl rfl rfl rfl trivial ?_;refine du true rfl rfl rfl rfl rfl trivial ?_;refine a6g 0 true rfl rfl rfl rfl rfl rfl ⟨trivial,rfl,rfl,rfl, .inl rfl,by show 0 + n <= 9223372036854775807;omega,by show (0 + n) * 4 <= 140737488355328;omega,fun _=>.inl rfl⟩ ?_;refine du true rfl rfl rfl rfl rfl trivial ?_;refine w_2 ?_;refine ⟨.inr rfl, ?_⟩;refine ⟨_,_,rfl,trivial,CoR.of_eq (by show HR.v (.one (.ref 0 (0 + n))) = _;rw [blc]),⟨⟨_,rfl, ?_⟩,trivial⟩⟩;exact ⟨fun h=>h,rfl,rfl,(blc n).symm,fun i j _ _=>CoP.of_eq (by simp [fh])⟩
theorem a3s (n:Nat) (c:Bool) (f:Nat -> Nat -> PV) (hn:n <= 35184372088832):a7 Tryz.prog 21 [.one (.sl n 1 c f)] (.v (.one (.sl n 1 false f))) :=
 da.pure (args:=[.one (.sl n 1 c f)]) (l:=[.one (.ref 0 n)]) (a1e n c f hn) rfl ⟨rfl,trivial⟩
theorem b5u:goodFn Tryz.prog 235:=wgx Tryz.func235
theorem bgt (l:List Fd) (g k:Nat) (caps:Nat -> PV) (V:Fd -> Bool) (hg:goodFn Tryz.prog g) (hV:∀ x,a7 Tryz.prog g (x.pc :: gv caps k 0) (ae [pB (V x)])):a7 Tryz.prog 235 [pP (fdl l),pP (.fn g k caps)] (ae [pI (idx V l)]):=by
 refine hpx (nt:=19) Tryz.func235 ?_;refine cq ?_;refine cb 0 rfl fun hn=>?_;refine w_3 ?_;refine bu (ι:=Unit) ⟨[],[]⟩ ⟨trivial,trivial⟩ (fun _i=>⟨[],[]⟩) (fun _i=>idx V l = -1) ?_ ?_
 ·
  refine w_7 ?_;refine a6 (ι:=Nat) ⟨[(0,some _),(1,some _),(7,some _)],[]⟩ ⟨⟨c9,c9,c9,trivial⟩,trivial⟩ (fun i=>⟨[(8,some (vI i))],[]⟩) (fun i=>i <= l.length /\ (∀ j,j < i -> V (l.getD j default) = false)) (fun i=>l.length - i) (0) (⟨bkl _,bq⟩) ⟨⟨zy,trivial⟩,trivial⟩ ?_;rintro i ⟨hi,hI⟩;refine w_5 ?_;refine hcd (fun h0=>?_) (fun h0=>?_)
  ·
   refine ku ?_;refine rc rfl rfl rfl rfl rfl rfl hg (hV (l.getD i default)) (CoL.refl _) rfl rfl ?_;refine aq ?_;refine hcb (fun h1=>?_) (fun h1=>?_)
   · refine w_5 ?_;exact hx8 rfl rfl rfl (⟨cci (rp (i:=i) bos hI h1).symm,trivial⟩)
   refine w_5 ?_;refine lpz (i + 1) ⟨⟨zy,c9,c9,c9,trivial⟩,trivial⟩ ?_;exact ⟨by show i + 1 <= _;omega,az hI (h1)⟩
  refine dp ?_;refine ⟨(), ?_, ?_⟩
  · exact rr fun j hj=>hI j bos
  exact ⟨trivial,trivial⟩
 rintro _ hj;refine w_4 ?_;exact hx8 rfl rfl rfl (⟨cci hj.symm,trivial⟩)
theorem aer:goodFn Tryz.prog 167:=wgx Tryz.func167
theorem b3a (l:List AS) (g k:Nat) (caps:Nat -> PV) (V:AS -> Bool) (hg:goodFn Tryz.prog g) (hV:∀ x,a7 Tryz.prog g (pA x :: gv caps k 0) (ae [pB (V x)])):a7 Tryz.prog 167 [pP (asl l),pP (.fn g k caps)] (ae [pI (idx V l)]):=by
 refine hpx (nt:=19) Tryz.func167 ?_;refine cq ?_;refine cb 0 rfl fun hn=>?_;refine w_3 ?_;refine bu (ι:=Unit) ⟨[],[]⟩ ⟨trivial,trivial⟩ (fun _i=>⟨[],[]⟩) (fun _i=>idx V l = -1) ?_ ?_
 ·
  refine w_7 ?_;refine a6 (ι:=Nat) ⟨[(0,some _),(1,some _),(7,some _)],[]⟩ ⟨⟨c9,c9,c9,trivial⟩,trivial⟩ (fun i=>⟨[(8,some (vI i))],[]⟩) (fun i=>i <= l.length /\ (∀ j,j < i -> V (l.getD j default) = false)) (fun i=>l.length - i) (0) (⟨bkl _,bq⟩) ⟨⟨zy,trivial⟩,trivial⟩ ?_;rintro i ⟨hi,hI⟩;refine w_5 ?_;refine hcd (fun h0=>?_) (fun h0=>?_)
  ·
   refine ku ?_;refine rc rfl rfl rfl rfl rfl rfl hg (hV (l.getD i default)) (CoL.refl _) rfl rfl ?_;refine aq ?_;refine hcb (fun h1=>?_) (fun h1=>?_)
   · refine w_5 ?_;exact hx8 rfl rfl rfl (⟨cci (rp (i:=i) bos hI h1).symm,trivial⟩)
   refine w_5 ?_;refine lpz (i + 1) ⟨⟨zy,c9,c9,c9,trivial⟩,trivial⟩ ?_;exact ⟨by show i + 1 <= _;omega,az hI (h1)⟩
  refine dp ?_;refine ⟨(), ?_, ?_⟩
  · exact rr fun j hj=>hI j bos
  exact ⟨trivial,trivial⟩
 rintro _ hj;refine w_4 ?_;exact hx8 rfl rfl rfl (⟨cci hj.symm,trivial⟩)
theorem b9z:goodFn Tryz.prog 190:=wgx Tryz.func190
theorem bh5 (l:List Fd) (g k:Nat) (caps:Nat -> PV) (V:Fd -> Bool) (hg:goodFn Tryz.prog g) (hV:∀ x,a7 Tryz.prog g (x.pc :: gv caps k 0) (ae [pB (V x)])):a7 Tryz.prog 190 [pP (fdl l),pP (.fn g k caps)] (ae [pB (l.any V)]):=by
 refine hpx (nt:=9) Tryz.func190 ?_;refine w_8 ?_;refine qcx b5u (bgt l g k caps V hg hV) ?_;refine w_3 ?_;exact hx8 rfl rfl rfl (⟨ccb x5,trivial⟩)
theorem aet:goodFn Tryz.prog 148:=wgx Tryz.func148
theorem ar0 (l:List AS) (g k:Nat) (caps:Nat -> PV) (V:AS -> Bool) (hg:goodFn Tryz.prog g) (hV:∀ x,a7 Tryz.prog g (pA x :: gv caps k 0) (ae [pB (V x)])):a7 Tryz.prog 148 [pP (asl l),pP (.fn g k caps)] (ae [pB (l.any V)]):=by
 refine hpx (nt:=9) Tryz.func148 ?_;refine w_8 ?_;refine qcx aer (b3a l g k caps V hg hV) ?_;refine w_3 ?_;exact hx8 rfl rfl rfl (⟨ccb x5,trivial⟩)
theorem beb:goodFn Tryz.prog 92:=wgx Tryz.func92
theorem bia (l:List AS) (s:AS):a7 Tryz.prog 92 [pP (asl l),pA s] (ae [pI (idx (fun x=>decide (x = s)) l)]):=by
 refine hpx (nt:=19) Tryz.func92 ?_;refine cq ?_;refine cb 0 rfl fun hn=>?_;refine w_3 ?_;refine bu (ι:=Unit) ⟨[],[]⟩ ⟨trivial,trivial⟩ (fun _i=>⟨[],[]⟩) (fun _i=>idx (fun x=>decide (x = s)) l = -1) ?_ ?_
 ·
  refine w_7 ?_;refine a6 (ι:=Nat) ⟨[(0,some _),(1,some _),(7,some _)],[]⟩ ⟨⟨c9,c9,c9,trivial⟩,trivial⟩ (fun i=>⟨[(8,some (vI i))],[]⟩) (fun i=>i <= l.length /\ (∀ j,j < i -> decide (l.getD j default = s) = false)) (fun i=>l.length - i) (0) (⟨bkl _,bq⟩) ⟨⟨zy,trivial⟩,trivial⟩ ?_;rintro i ⟨hi,hI⟩;refine w_5 ?_;refine hcd (fun h0=>?_) (fun h0=>?_)
  ·
   refine xa ?_;refine hcd (fun h1=>?_) (fun h1=>?_)
   · refine w_5 ?_;exact hx8 rfl rfl rfl (⟨cci (rp (p:=fun x=>decide (x = s)) (i:=i) bos hI (decide_eq_true (cg.1 h1).symm)).symm,trivial⟩)
   refine w_5 ?_;refine lpz (i + 1) ⟨⟨zy,c9,c9,c9,trivial⟩,trivial⟩ ?_;exact ⟨by show i + 1 <= _;omega,az hI (decide_eq_false fun e=>h1 (congrArg asI e.symm))⟩
  refine dp ?_;refine ⟨(), ?_, ?_⟩
  · exact rr (p:=fun x=>decide (x = s)) fun j hj=>hI j bos
  exact ⟨trivial,trivial⟩
 rintro _ hj;refine w_4 ?_;exact hx8 rfl rfl rfl (⟨cci hj.symm,trivial⟩)
theorem b9h:goodFn Tryz.prog 277:=wgx Tryz.func277
theorem bi7 (l:List Fd) (s:Fd):a7 Tryz.prog 277 [pP (fdl l),s.pc] (ae [pI (idx (fun x=>decide (x = s)) l)]):=by
 refine hpx (nt:=19) Tryz.func277 ?_;refine cq ?_;refine cb 0 rfl fun hn=>?_;refine gy ?_;refine m9 0 ?_;refine w_2 ?_;refine bu (ι:=Unit) ⟨[],[]⟩ ⟨trivial,trivial⟩ (fun _i=>⟨[],[]⟩) (fun _i=>idx (fun x=>decide (x = s)) l = -1) ?_ ?_
 ·
  refine w_7 ?_;refine a6 (ι:=Nat) ⟨[(0,some _),(3,some _),(7,some _)],[(0,some _)]⟩ ⟨⟨c9,c9,c9,trivial⟩,⟨u9,trivial⟩⟩ (fun i=>⟨[(8,some (vI i))],[]⟩) (fun i=>i <= l.length /\ (∀ j,j < i -> decide (l.getD j default = s) = false)) (fun i=>l.length - i) (0) (⟨bkl _,bq⟩) ⟨⟨zy,trivial⟩,trivial⟩ ?_;rintro i ⟨hi,hI⟩;refine w_5 ?_;refine hcd (fun h0=>?_) (fun h0=>?_)
  ·
   refine ald ?_;refine hcb (fun h1=>?_) (fun h1=>?_)
   · refine w_5 ?_;exact hx8 rfl rfl rfl (⟨cci (rp (p:=fun x=>decide (x = s)) (i:=i) bos hI (decide_eq_true (by simp_all [Fd.eq_iff,cg]))).symm,trivial⟩)
   refine w_5 ?_;refine lpz (i + 1) ⟨⟨zy,c9,c9,c9,trivial⟩,⟨u9,trivial⟩⟩ ?_;exact ⟨by show i + 1 <= _;omega,az hI (decide_eq_false fun e=>by subst e;simp_all)⟩
  refine dp ?_;refine ⟨(), ?_, ?_⟩
  · exact rr (p:=fun x=>decide (x = s)) fun j hj=>hI j bos
  exact ⟨trivial,trivial⟩
 rintro _ hj;refine w_4 ?_;exact hx8 rfl rfl rfl (⟨cci hj.symm,trivial⟩)
theorem b4w:goodFn Tryz.prog 253:=wgx Tryz.func253
theorem bj1 (l:List Fd) (s:Fd):a7 Tryz.prog 253 [pP (fdl l),s.pc] (ae [pB (l.any fun x=>decide (x = s))]):=by
 refine hpx (nt:=9) Tryz.func253 ?_;refine sx7 ?_;refine m9 0 ?_;refine w_6 ?_;refine qcx b9h (bi7 _ _) ?_;refine w_3 ?_;exact hx8 rfl rfl rfl (⟨ccb x5,trivial⟩)
theorem adv:goodFn Tryz.prog 117:=wgx Tryz.func117
theorem as2 (l:List AS) (g k:Nat) (caps:Nat -> PV) (V:AS -> Bool) (hg:goodFn Tryz.prog g) (hV:∀ x,a7 Tryz.prog g (pA x :: gv caps k 0) (ae [pB (V x)])):da Tryz.prog 117 [.one (.ref 900 l.length), .one (.p (.fn g k caps))] [(900, .arr true 1 46 l.length (lf sC l))] (.v (.one (.p (asl (l.filter fun x=>!V x))))) [] []:=by
 refine hfx (nt:=42) Tryz.func117 ?_;refine cq ?_;refine abc 900 rfl fun hlen=>?_;refine w_7 ?_;refine qcx aer (b3a l g k caps V hg hV) ?_;refine w_8 ?_;refine hcd (fun h0=>?_) (fun h0=>?_)
 · refine w_5 ?_;refine av 4 rfl rfl rfl ?_;refine jn ?_;refine ⟨.inr rfl, ?_⟩;exact ⟨_,_,rfl,bou,b47 (aac bot),trivial⟩
 obtain ⟨i0,hi0,hi1,hi2,hi3⟩:=zg h0;refine w_9 ?_;refine a6 (ι:=Nat × Nat × List AS) ⟨[(0,some _),(1,some _)],[]⟩ ⟨⟨c9,c9,trivial⟩,trivial⟩ (fun x=>⟨[(5,some (vI x.1)),(6,some (vI x.2.1))],[(900,some (.arr true 1 46 l.length (lf sC x.2.2)))]⟩) (fun x=>DfI V l x.1 x.2.1 x.2.2) (fun x=>l.length - x.2.1) ((i0,i0 + 1,l)) (DfI.start hi1 hi2 hi3) ⟨⟨⟨_,rfl,(coi hi0)⟩,⟨_,rfl,(coi (by dsimp only;omega))⟩,trivial⟩,⟨u9,trivial⟩⟩ ?_;rintro x hC;have hC0:=hC;obtain ⟨hml,hkq,hql,_,_⟩:=hC0;refine w_8 ?_;refine hcd (fun h1=>?_) (fun h1=>?_)
 ·
  refine ku ?_;refine rc rfl rfl rfl rfl rfl rfl hg (hV (x.2.2.getD (x.2.1:Int).toNat default)) (CoL.refl _) rfl rfl ?_;refine w_2 ?_;refine hcv (fun h2=>?_) (fun h2=>?_)
  ·
   have hv:=h2;refine ald ?_
   first | (refine ⟨(x.1 + 1, x.2.1 + 1, x.2.2.set x.1 (x.2.2.getD x.2.1 default)), ?_, ?_, ?_⟩
            · exact hC.keep bos (by simpa using hv)
            · first | omega | (dsimp only;omega)
            exact ⟨⟨⟨_,rfl,(coi bov)⟩,⟨_,rfl,(coi bov)⟩,c9,c9,trivial⟩,⟨⟨_,rfl,(sm id hml.symm bos bos bos)⟩,trivial⟩⟩)
         | (refine ⟨(x.1,x.2.1 + 1,x.2.2), ?_, ?_, ?_⟩
            · exact hC.skip bos (by simpa using hv)
            · first | omega | (dsimp only;omega)
            exact ⟨⟨⟨_,rfl,(coi bov)⟩,⟨_,rfl,(coi bov)⟩,c9,c9,trivial⟩,⟨u9,trivial⟩⟩)
  have hv:=h2;refine w_6 ?_
  first | (refine ⟨(x.1 + 1, x.2.1 + 1, x.2.2.set x.1 (x.2.2.getD x.2.1 default)), ?_, ?_, ?_⟩
           · exact hC.keep bos (by simpa using hv)
           · first | omega | (dsimp only;omega)
           exact ⟨⟨⟨_,rfl,(coi bov)⟩,⟨_,rfl,(coi bov)⟩,c9,c9,trivial⟩,⟨⟨_,rfl,(sm id hml.symm bos bos bos)⟩,trivial⟩⟩)
        | (refine ⟨(x.1,x.2.1 + 1,x.2.2), ?_, ?_, ?_⟩
           · exact hC.skip bos (by simpa using hv)
           · first | omega | (dsimp only;omega)
           exact ⟨⟨⟨_,rfl,(coi bov)⟩,⟨_,rfl,(coi bov)⟩,c9,c9,trivial⟩,⟨u9,trivial⟩⟩)
 have hq:=h1;refine w_6 ?_;refine r9 0 true ?_;refine w_5 ?_;refine b1i rfl rfl rfl rfl rfl ?_;refine w_3 ?_;refine ⟨.inr rfl, ?_⟩;exact ⟨_,_,rfl,bou,b53 hC bos (by simp [be]),trivial⟩
end
section
def dq (s:AS) (i:Int):Bool:=decide (0 <= i /\ i < 32) && s.getLsbD i.toNat
theorem ja {s:AS} {i:Nat} (h:i < 32):dq s i = s.getLsbD i:=by
 unfold dq;rw [decide_eq_true bos];simp
theorem ahb {s:AS} {i:Int} (h0:0 <= i) (h1:i < 32):decide (aw .and .u32 ((asI s).fdiv (2 ^ (min i.toNat 32))) 1 = 1) = dq s i:=by
 unfold dq;rw [xe,show (1:Int) = asI 1 from rfl,fj,decide_eq_true (show 0 <= i /\ i < 32 from ⟨h0,h1⟩),bmt]
 have e:asI (s >>> i.toNat &&& 1) = asI 1 <-> s.getLsbD i.toNat = true:=by
  rw [cg];constructor
  · intro h
    have:=congrArg (fun x:AS=>x.getLsbD 0) h;simpa using this
  intro h;apply bm6;intro k hk;have h1:(1:AS).getLsbD k = decide (k = 0):=by have:=vj 0 k hk;simpa using this
  rw [bkz,bnh,h1];by_cases hk0:k = 0
  · subst hk0;simp [h]
  simp [hk0]
 cases hb:s.getLsbD i.toNat with
 | true=>exact decide_eq_true (e.2 hb)
 | false=>exact decide_eq_false fun h=>by rw [e.1 h] at hb;cases hb
theorem yj {s:AS} {i:Int} (h:¬ (0 <= i /\ i < 32)):dq s i = false:=by
 unfold dq;rw [decide_eq_false h];rfl
theorem amn {n:Nat} (h:n <= 32):jw n = BitVec.ofNat 32 (2 ^ n - 1):=by
 apply bm6;intro k hk;rw [p9 n k hk,BitVec.getLsbD_ofNat,Nat.testBit_two_pow_sub_one];simp [hk]
theorem a8z {n:Nat} (h:n <= 32):(jw n).toNat = 2 ^ n - 1:=by
 have h2:2 ^ n <= 2 ^ 32:=bn7 bos h;have h3:0 < 2 ^ n:=bof n;rw [amn h,bog,bni bos]
section
variable {n:Int}
theorem gc {l:List Fd} (h:bj n l = 0):0 <= n /\ n <= 16 /\ l.length <= 64 /\ l.all (inU n) = true:=by
 unfold bj at h;split at h
 · cases h
 split at h
 · cases h
 split at h
 · rename_i h1 h2 h3
   exact ⟨by omega,by omega,by omega,h3⟩
 cases h
theorem ua (h0:0 <= n) (h1:n <= 16):IntKind.wrap .u32 (1 * 2 ^ (min n.toNat 32)) - 1 = asI (aa n):=by
 have h2:2 ^ n.toNat <= 2 ^ 16:=bn7 bos bos;have h3:0 < 2 ^ n.toNat:=bof _;rw [show IntKind.wrap .u32 (1 * 2 ^ (min n.toNat 32)) = asI ((1:AS) <<< n.toNat) from akq 1 n.toNat];unfold aa asI;rw [bmn bos,a8z bos,BitVec.toNat_shiftLeft,Nat.shiftLeft_eq];rw [show (1:AS).toNat = 1 from rfl,Nat.one_mul,bni bos];omega
theorem aq7 {s:AS} (h0:0 <= n) (h1:n <= 16):(asI s).fdiv (2 ^ (min n.toNat 32)) = 0 <-> sub s (aa n):=by
 rw [xe,show (0:Int) = asI 0 from rfl,cg];unfold aa;rw [bmn bos];exact (ui bos).symm
theorem yn (h0:0 <= n) (h1:n <= 16):0 <= IntKind.wrap .u32 (1 * 2 ^ (min n.toNat 32)) - 1:=by rw [ua h0 h1];exact a5t _
theorem wz (h0:0 <= n) (h1:n <= 16):IntKind.wrap .u32 (1 * 2 ^ (min n.toNat 32)) - 1 <= 4294967295:=by rw [ua h0 h1];have:=acr (aa n);omega
def ld (n:Int) (l:List Fd) (s:AS):Bool:=decide (bj n l = 0 /\ sub s (aa n) /\ clo l s = aa n)
end
section
variable {n:Int} {l:List Fd} {s:AS}
theorem asf (h:¬ bj n l = 0):ld n l s = false:=decide_eq_false fun e=>h e.1
theorem b0r (h:bj n l = 0) (h2:(asI s).fdiv (2 ^ (min n.toNat 32)) = 0):decide (asI (clo l s) = asI (aa n)) = ld n l s:=by
 have hv:=gc h;have h3:=(aq7 hv.1 hv.2.1).1 h2;exact decide_eq_decide.2 ⟨fun e=>⟨h,h3,cg.1 e⟩,fun e=>congrArg asI e.2.2⟩
theorem arf (h:bj n l = 0) (h2:¬ (asI s).fdiv (2 ^ (min n.toNat 32)) = 0):ld n l s = false:=by
 have hv:=gc h;exact decide_eq_false fun e=>h2 ((aq7 hv.1 hv.2.1).2 e.2.1)
end
def gp (n:Int) (l:List Fd) (m:Int):Int:=if bj n l = 0 then (if m < n then 3 else 0) else bj n l
structure Dp where
 l:BitVec 8
 r:BitVec 8
deriving Inhabited
def Dp.c (d:Dp):Nat -> PV
 | 0=>.raw (.int .u8 (d.l.toNat:Int))
 | 1=>.raw (.int .u8 (d.r.toNat:Int))
 | _=>.any
abbrev dpl (l:List Dp):PV:=psl 2 Dp.c l
def Dp.fd (n:Int) (d:Dp):Fd:=⟨d.l.setWidth 32 &&& aa n,d.r.setWidth 32 &&& aa n⟩
theorem a61 (b:BitVec 8) (t:AS):aw .and .u32 (b.toNat:Int) (asI t) = asI (b.setWidth 32 &&& t):=by
 have h:=b.isLt
 have e:asI (b.setWidth 32) = (b.toNat:Int):=by
  unfold asI;rw [BitVec.toNat_setWidth,bni bos]
 rw [<- fj,e]
end
section
open Go.Proofs
theorem vq:goodFn Tryz.prog 123:=wgx Tryz.func123
theorem a9k (s:AS) (i:Int):a7 Tryz.prog 123 [pA s,pI i] (ae [pB (dq s i)]):=by
 refine hpx (nt:=18) Tryz.func123 ?_;refine w_9 ?_;refine am rfl rfl (fun r0=>?_) (fun r0=>?_)
 ·
  have h0:=tz1 r0;(iterate 2 refine qy ?_ (hg:=(gtt r0)));refine w_2 ?_;refine am rfl rfl (fun r1=>?_) (fun r1=>?_)
  ·
   have h1:=tz1 (bp r0 r1);(iterate 5 refine qy ?_ (hg:=(gtt r1)));refine w_3 ?_
   exact hx8 rfl rfl rfl (⟨ccb (by first | exact dg bot (ahb bos bos) | exact (yj bos).symm),trivial⟩)
  have h1:=tz2 (bp r0 r1);(iterate 5 refine k9 (gft r1) ?_);refine rq rfl rfl rfl rfl rfl ?_ (hp:=r1);refine w_2 ?_
  exact hx8 rfl rfl rfl (⟨ccb (by first | exact dg bot (ahb bos bos) | exact (yj bos).symm),trivial⟩)
 have h0:=tz2 r0;(iterate 2 refine k9 (gft r0) ?_);refine rq rfl rfl rfl rfl rfl ?_ (hp:=r0);refine qy ?_;(iterate 5 refine k9 rfl ?_);refine w_3 ?_
 exact hx8 rfl rfl rfl (⟨ccb (by first | exact dg bot (ahb bos bos) | exact (yj bos).symm),trivial⟩)
theorem b64:goodFn Tryz.prog 136:=wgx Tryz.func136
theorem bd8 (n:Int) (h0:0 <= n) (h1:n <= 16):a7 Tryz.prog 136 [pI n] (ae [pA (aa n)]):=by
 refine hpx (nt:=6) Tryz.func136 ?_;refine w_8 ?_;refine rq rfl rfl rfl rfl rfl ?_ (hp:=⟨yn h0 h1,wz h0 h1⟩);refine w_2 ?_;exact hx8 rfl rfl rfl (⟨cci (ua h0 h1),trivial⟩)
theorem bat:goodFn Tryz.prog 74:=wgx Tryz.func74
theorem bc2 (n:Int) (h0:0 <= n) (h1:n <= 16):a7 Tryz.prog 74 [pI n] (ae [pA (aa n)]):=by
 refine hpx (nt:=6) Tryz.func74 ?_;refine w_8 ?_;refine rq rfl rfl rfl rfl rfl ?_ (hp:=⟨yn h0 h1,wz h0 h1⟩);refine w_2 ?_;exact hx8 rfl rfl rfl (⟨cci (ua h0 h1),trivial⟩)
theorem ai0:goodFn Tryz.prog 77:=wgx Tryz.func77
theorem aql (n:Int) (h0:0 <= n) (h1:n <= 16):a7 Tryz.prog 77 [pI n] (ae [pA (aa n)]):=by
 refine hpx (nt:=6) Tryz.func77 ?_;refine w_8 ?_;refine rq rfl rfl rfl rfl rfl ?_ (hp:=⟨yn h0 h1,wz h0 h1⟩);refine w_2 ?_;exact hx8 rfl rfl rfl (⟨cci (ua h0 h1),trivial⟩)
theorem ai4:goodFn Tryz.prog 83:=wgx Tryz.func83
theorem b09 (l:List Fd) (s p:AS):a7 Tryz.prog 83 [pP (fdl l),pA s,pA p] (ae [pB (decide (sub p (clo l s)))]):=by
 refine hpx (nt:=12) Tryz.func83 ?_;refine w_9 ?_;refine qcx a8a (a7z l s) ?_;refine qcx ny (w3 p (clo l s)) ?_;refine w_2 ?_;exact hx8 rfl rfl rfl (CoL.refl _)
theorem awl:goodFn Tryz.prog 76:=wgx Tryz.func76
theorem bp9 {p:Prop} (h:p:=by unfold gp;first | (rw [if_neg bot]) | (rw [if_pos bos,if_pos bos]) | (rw [if_pos bos,if_neg bos])):p:=h
theorem bdm (n:Int) (l:List Fd):a7 Tryz.prog 76 [pI n,pP (fdl l)] (ae [pI (gp n l 8)]):=by
 refine hpx (nt:=14) Tryz.func76 ?_;refine w_9 ?_;refine qcx uz (zr n l) ?_;refine w_7 ?_;refine hcn (fun h0=>?_) (fun h0=>?_)
 · refine w_5 ?_;exact hx8 rfl rfl rfl (⟨cci bp9,trivial⟩)
 refine w_7 ?_;refine hcd (fun h1=>?_) (fun h1=>?_)
 · refine w_4 ?_;exact hx8 rfl rfl rfl (⟨cci bp9,trivial⟩)
 refine w_5 ?_;exact hx8 rfl rfl rfl (⟨cci bp9,trivial⟩)
theorem ab7:goodFn Tryz.prog 72:=wgx Tryz.func72
theorem ah0 (n:Int) (l:List Fd) (s:AS):a7 Tryz.prog 72 [pI n,pP (fdl l),pA s] (ae [pB (ld n l s)]):=by
 refine hpx (nt:=25) Tryz.func72 ?_;refine w_8 ?_;refine qcx uz (zr n l) ?_;refine w_2 ?_;refine am rfl rfl (fun r0=>?_) (fun r0=>?_)
 ·
  have h0:=tz1 r0;obtain ⟨hv0,hv1,_,_⟩:=gc h0;(iterate 4 refine qy ?_ (hg:=(gtt r0)));refine w_2 ?_;refine am rfl rfl (fun r1=>?_) (fun r1=>?_)
  ·
   have h1:=tz1 (bp r0 r1);(iterate 2 refine qy ?_ (hg:=(gtt r1)));refine qcx t6 (x6 l s) ?_ (hg:=(gtt r1));refine qy ?_ (hg:=(gtt r1))
   refine qcx b64 (bd8 n (gc bot).1 (gc bot).2.1) ?_ (hg:=(gtt r1));refine qy ?_ (hg:=(gtt r1));refine w_3 ?_;exact hx8 rfl rfl rfl (⟨ccb (by first | exact dg bot (b0r bot bot) | exact (asf bot).symm | exact (arf bot bot).symm),trivial⟩)
  have h1:=tz2 (bp r0 r1);(iterate 6 refine k9 (gft r1) ?_);refine rq rfl rfl rfl rfl rfl ?_ (hp:=r1);refine w_2 ?_
  exact hx8 rfl rfl rfl (⟨ccb (by first | exact dg bot (b0r bot bot) | exact (asf bot).symm | exact (arf bot bot).symm),trivial⟩)
 have h0:=tz2 r0;(iterate 4 refine k9 (gft r0) ?_);refine rq rfl rfl rfl rfl rfl ?_ (hp:=r0);refine qy ?_;(iterate 6 refine k9 rfl ?_);refine w_3 ?_
 exact hx8 rfl rfl rfl (⟨ccb (by first | exact dg bot (b0r bot bot) | exact (asf bot).symm | exact (arf bot bot).symm),trivial⟩)
end
section
def bsz (s:AS):Nat:=(List.range 32).countP fun i=>s.getLsbD i
def bef (a b:AS):Bool:=decide (bsz a < bsz b) || (decide (bsz a = bsz b) && decide (a.toNat < b.toNat))
theorem a26 (a:AS):bef a a = false:=by simp [bef]
theorem my {a b:AS}:bef a b = true <-> bsz a < bsz b \/ (bsz a = bsz b /\ a.toNat < b.toNat):=by simp [bef]
theorem sg {a b c:AS} (h:bef a b = true) (k:bef b c = true):bef a c = true:=by
 rw [my] at *;omega
theorem a7j {a b:AS} (h:a ≠ b):bef a b = true \/ bef b a = true:=by
 have hn:a.toNat ≠ b.toNat:=fun e=>h (bln e);rw [my,my];omega
theorem b1u {a b:AS} (h:bef a b = true):bef b a = false:=by
 rw [bkv];intro k;have:=sg h k;rw [a26] at this;cases this
def qc (l:List AS):Prop:=l.Pairwise fun a b=>bef a b = true
theorem qo:∀ {l k:List AS},qc l -> qc k -> (∀ x,x ∈ l <-> x ∈ k) -> l = k
 | [],[],_,_,_=>rfl
 | [],y :: k,_,_,h=>absurd ((h y).2 (bly ..)) bow
 | x :: l,[],_,_,h=>absurd ((h x).1 (bly ..)) bow
 | x :: l,y :: k,hl,hk,h=>by
  obtain ⟨h1,h2⟩:=bls.1 hl;obtain ⟨k1,k2⟩:=bls.1 hk
  have e:x = y:=by
   rcases bkx.1 ((h x).1 (bly ..)) with e | hx
   · exact e
   rcases bkx.1 ((h y).2 (bly ..)) with e | hy
   · exact e.symm
   have:=b1u (k1 x hx);rw [h1 y hy] at this;cases this
  subst e;congr 1;refine qo h2 k2 fun z=>?_;constructor
  · intro hz
    rcases bkx.1 ((h z).1 (bm1 _ hz)) with e | hz'
    · subst e
      have:=h1 z hz;rw [a26] at this;cases this
    exact hz'
  intro hz
  rcases bkx.1 ((h z).2 (bm1 _ hz)) with e | hz'
  · subst e
    have:=k1 z hz;rw [a26] at this;cases this
  exact hz'
def ly (x:AS):List AS -> List AS
 | []=>[x]
 | y :: l=>if x = y then y :: l else if bef x y = true then x :: y :: l else y :: ly x l
theorem yr {x z:AS}:∀ {l:List AS},z ∈ ly x l <-> z = x \/ z ∈ l
 | []=>by simp [ly]
 | y :: l=>by
  unfold ly;split
  · rename_i e
    subst e;simp
  split
  · simp
  rw [bkx,yr,bkx];constructor
  · rintro (h | h | h) <;> simp [h]
  rintro (h | h | h) <;> simp [h]
theorem zx {x:AS}:∀ {l:List AS},qc l -> qc (ly x l)
 | [],_=>by simp [ly,qc]
 | y :: l,h=>by
  obtain ⟨h1,h2⟩:=bls.1 h;unfold ly;split
  · exact h
  split
  · rename_i hxy
    refine bls.2 ⟨fun z hz=>?_,h⟩
    rcases bkx.1 hz with rfl | hz
    · exact hxy
    exact sg hxy (h1 z hz)
  rename_i hne hxy;refine bls.2 ⟨fun z hz=>?_,zx h2⟩
  rcases yr.1 hz with rfl | hz
  · exact (a7j hne).resolve_left hxy
  exact h1 z hz
def ord (l:List AS):List AS:=l.foldl (fun o x=>ly x o) []
theorem aen:∀ {l o:List AS},qc o -> qc (l.foldl (fun o x=>ly x o) o) /\ ∀ z,z ∈ l.foldl (fun o x=>ly x o) o <-> z ∈ o \/ z ∈ l
 | [],o,h=>⟨h,fun z=>by simp⟩
 | x :: l,o,h=>by
  obtain ⟨h1,h2⟩:=aen (l:=l) (zx (x:=x) h);refine ⟨h1,fun z=>?_⟩;show z ∈ l.foldl (fun o x=>ly x o) (ly x o) <-> _;rw [h2 z,yr,bkx];constructor
  · rintro ((h | h) | h) <;> simp [h]
  rintro (h | h | h) <;> simp [h]
theorem jb (l:List AS):qc (ord l):=(aen (o:=[]) List.Pairwise.nil).1
theorem n3 {l:List AS} {z:AS}:z ∈ ord l <-> z ∈ l:=by
 show z ∈ l.foldl (fun o x=>ly x o) [] <-> _;rw [(aen (l:=l) (o:=[]) List.Pairwise.nil).2 z];simp
theorem avr {l k:List AS} (hk:qc k) (h:∀ z,z ∈ k <-> z ∈ l):k = ord l:=qo hk (jb l) fun z=>by rw [h z,n3]
end
section
def al (s:AS):List Nat:=(List.range 32).filter fun i=>s.getLsbD i
def iC:Nat -> Nat -> PV:=fun n _=>.raw (.int .i64 (n:Int))
abbrev il (l:List Nat):PV:=psl 1 iC l
theorem sx (s:AS):bsz s = (al s).length:=by unfold bsz al;rw [List.countP_eq_length_filter]
section
variable {s:AS}
theorem jg {i:Nat}:i ∈ al s <-> i < 32 /\ s.getLsbD i = true:=by simp [al,bmo,bl0]
theorem a4z {p:Nat -> Bool} {t:Nat}:∀ {l:List Nat},l.Pairwise (· < ·) -> t ∈ l -> p t = true -> (∀ k,k < t -> p k = false) -> l.filter p = t :: l.filter fun k=>decide (k ≠ t) && p k
 | [],_,h,_,_=>by cases h
 | a :: l,hp,hm,h1,h2=>by
  obtain ⟨q1,q2⟩:=bls.1 hp;by_cases ha:a = t
  · subst ha
    have e:l.filter p = l.filter fun k=>decide (k ≠ a) && p k:=by
     apply List.filter_congr;intro k hk;have:=q1 k hk;rw [decide_eq_true bos,bmt]
    simp [blx,h1,e]
  have hm':t ∈ l:=by
   rcases bkx.1 hm with h | h
   · exact absurd h.symm ha
   exact h
  have:=q1 t hm';have hpa:=h2 a this;simp [blx,hpa,a4z q2 hm' h1 h2]
def ip (s:AS):Nat:=Lib.ctz 32 s.toNat
theorem b00 (h:s ≠ 0):∃ m,s.toNat = 2 ^ (ip s + 1) * m + 2 ^ ip s /\ ip s < 32:=by
 have h0:s.toNat ≠ 0:=fun e=>h (bln e);obtain ⟨m,h1,h2⟩:=Lib.ctzFrom_spec 32 s.toNat bos s.isLt;have e:ip s = Lib.ctzFrom 32 s.toNat:=by unfold ip Lib.ctz;rw [if_neg h0]
 rw [e];refine ⟨m, ?_,h2⟩;rw [Nat.pow_succ];rw [h1] at *;simp only [Nat.mul_add,Nat.mul_assoc,bol] at *;exact h1
theorem uw (h:s ≠ 0):ip s < 32 /\ s.getLsbD (ip s) = true /\ (∀ k,k < ip s -> s.getLsbD k = false) /\ s &&& (s - 1) = s &&& ~~~((1:AS) <<< ip s):=by
 obtain ⟨m,h1,h2⟩:=b00 h;generalize ip s = t at *;have hp:2 ^ t < 2 ^ (t + 1):=Nat.pow_lt_pow_right bos bos
 have hb:∀ k,s.getLsbD k = if k < t + 1 then (2 ^ t).testBit k else m.testBit (k - (t + 1)):=fun k=>by
  show s.toNat.testBit k = _;rw [h1,Nat.testBit_two_pow_mul_add _ hp]
 have hq:0 < 2 ^ t:=bof t
 have e1:(s - 1).toNat = 2 ^ (t + 1) * m + (2 ^ t - 1):=by
  have:=s.isLt;rw [BitVec.toNat_sub];show (2 ^ 32 - 1 + s.toNat) % 2 ^ 32 = _;omega
 have hd:∀ k,(s - 1).getLsbD k = if k < t + 1 then (2 ^ t - 1).testBit k else m.testBit (k - (t + 1)):=fun k=>by
  show (s - 1).toNat.testBit k = _;rw [e1,Nat.testBit_two_pow_mul_add _ bos]
 refine ⟨h2, ?_,fun k hk=>?_, ?_⟩
 · rw [hb,if_pos bos,Nat.testBit_two_pow_self]
 · rw [hb,if_pos bos,Nat.testBit_two_pow]
   simp;omega
 apply bm6;intro k hk;rw [bkz,bkz,bmq,vj _ _ hk,hd k,hb k];by_cases h3:k < t + 1
 · rw [if_pos h3,if_pos h3,Nat.testBit_two_pow,Nat.testBit_two_pow_sub_one]
   by_cases h4:k = t
   · subst h4;simp
   have:¬ t = k:=fun e=>h4 e.symm;simp [this]
 rw [if_neg h3,if_neg h3];have:¬ k = t:=by omega
 simp [hk,this]
theorem a5v (h:s ≠ 0) (k:Nat) (hk:k < 32):(s &&& (s - 1)).getLsbD k = (decide (k ≠ ip s) && s.getLsbD k):=by
 rw [(uw h).2.2.2,bkz,bmq,vj _ _ hk];by_cases e:k = ip s <;> simp [e,hk,Bool.and_comm]
theorem au0 (h:s ≠ 0):al s = ip s :: al (s &&& (s - 1)):=by
 obtain ⟨h1,h2,h3,_⟩:=uw h;unfold al;rw [a4z List.pairwise_lt_range (bl0.2 h1) h2 h3];congr 1;apply List.filter_congr;intro k hk;rw [a5v h k (bl0.1 hk)]
theorem ac5:al 0 = []:=by
 unfold al;rw [bom];intro k _;simp
theorem b1z (h:s ≠ 0):(s &&& (s - 1)).toNat < s.toNat:=by
 refine ze (ai.2 fun i hi hb=>?_) fun e=>?_
 · rw [a5v h i hi] at hb
   simp only [bkt] at hb;exact hb.2
 have:=a5v h (ip s) (uw h).1;rw [e,(uw h).2.1] at this;simp at this
end
end
end Go.Hx
