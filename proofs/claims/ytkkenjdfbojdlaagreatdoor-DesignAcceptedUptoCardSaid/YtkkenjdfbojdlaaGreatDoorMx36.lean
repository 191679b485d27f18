/- A part of the proof: Ds5 Ds11 Ds9 Dw8 Dw1. -/
import Derived.Test.YtkkenjdfbojdlaaGreatDoorMx35
set_option linter.all false
set_option maxRecDepth 100000
namespace Go.Hx
section
section
variable {n:Int} {ps:List AS} {p m l:List Fd}
abbrev tb0 (n:Int) (ps:List AS):List Rw:=b5 (bj n ps)
abbrev trS (n:Int) (ps:List AS) (p m:List Fd):List St:=(lsT n ps p m).1
abbrev trT (n:Int) (ps:List AS) (p m:List Fd) (i:Nat):List Rw:=(trL n p m (tb0 n ps) (trS n ps p m)).getD i default
def bfb (h:¬ lsC n ps p m = 0):prS n ps p m = [] /\ prC n ps p m = lsC n ps p m:=by
 have hc:(rcR n ps p m).2.2 = lsC n ps p m:=b4k;unfold prS prC;rw [hc,if_neg h,if_neg h];exact ⟨rfl,rfl⟩
def a6e (hls:lsC n ps p m = 0) {i:Nat} (hi:i <= (trS n ps p m).length) (hI:∀ j,j < i -> ke n (trT n ps p m j) = false) (h:ke n (trT n ps p m i) = true):prS n ps p m = (trS n ps p m).take i /\ prC n ps p m = 0:=by
 have hq:=akl hls;have hi':i <= (lsT n ps p m).1.length:=hi;have hc:(rcR n ps p m).2.2 = 0:=by rw [hq]
 have hx:prX n ps p m = (i:Int):=by
  unfold prX;rw [hq];refine w9 (p:=fun a:Int × List Rw=>ke n a.2) (i:=i) (by show i < (qb n p m _ _).length;rw [abp];omega) (fun j hj=>?_) ?_
  · show ke n ((qb n p m _ _).getD j default).2 = false
    rw [a3y bsq];exact hI j hj
  show ke n ((qb n p m _ _).getD i default).2 = true;rw [a3y bsq];exact h
 unfold prS prC;rw [if_pos hc,if_pos hc,hx,if_neg bsq,if_neg bsq,hq];exact ⟨rfl,rfl⟩
def bdb (hls:lsC n ps p m = 0) (hI:∀ j,j < (trS n ps p m).length + 1 -> ke n (trT n ps p m j) = false):prS n ps p m = [] /\ prC n ps p m = 11:=by
 have hq:=akl hls;have hc:(rcR n ps p m).2.2 = 0:=by rw [hq]
 have hx:prX n ps p m = -1:=by
  unfold prX;rw [hq];refine wl (p:=fun a:Int × List Rw=>ke n a.2) fun j hj=>?_;have hj:j < (qb n p m (b5 (bj n ps)) (lsT n ps p m).1).length:=hj;rw [abp] at hj;show ke n ((qb n p m _ _).getD j default).2 = false;rw [a3y bsq];exact hI j hj
 unfold prS prC;rw [if_pos hc,if_pos hc,hx,if_pos bsq,if_pos bsq];exact ⟨rfl,rfl⟩
def bj3 (hls:lsC n ps p m = 0) (hb:lsB n ps p m = true):prC n ps p m = 0:=by
 obtain ⟨hv,hbe⟩:=lh hls;have hc:(lsT n ps p m).2.2 = 0:=(a56 hv hbe).symm.trans hls;obtain ⟨sts,lend,e,htr,_,hif⟩:=aeg hv hbe hc
 have hin:cg n ∈ lend:=by
  unfold lsB at hb;rw [boc,e] at hb;obtain ⟨r,hr,he⟩:=bp4.1 hb.2;rw [<- of_decide_eq_true he];exact hr
 obtain ⟨t,ht,hf⟩:=hif.2 hin;apply Classical.byContradiction;intro hne;have hs:trS n ps p m = sts:=by show (lsT n ps p m).1 = sts;rw [e]
 have hall:∀ j,j < (trS n ps p m).length + 1 -> ke n (trT n ps p m j) = false:=by
  apply Classical.byContradiction;intro hno
  have:∃ j,j < (trS n ps p m).length + 1 /\ ke n (trT n ps p m j) = true:=by
   apply Classical.byContradiction;intro hno2;exact hno fun j hj=>bol.2 fun h=>hno2 ⟨j,hj,h⟩
  obtain ⟨j,hj,hjt⟩:=this
  have key:∀ k,k <= j -> (∀ i,i < k -> ke n (trT n ps p m i) = false) \/ prC n ps p m = 0:=by
   intro k
   induction k with
   | zero=>exact fun _=>.inl fun i hi=>absurd hi (bod i)
   | succ k ih =>
    intro hk
    rcases ih bsq with h | h
    · rcases bs8 (ke n (trT n ps p m k)) with hb2 | hb2
      · exact .inr (a6e hls (i:=k) bsq h hb2).2
      refine .inl fun i hi=>?_;by_cases hik:i = k
      · rw [hik];exact hb2
      exact h i bsq
    exact .inr h
  rcases key j (bo9 j) with h | h
  · exact hne (a6e hls (i:=j) bsq h hjt).2
  exact hne h
 obtain ⟨k,hk,he⟩:=bou ht;rw [a4e] at hk;have h1:=hall k (by rw [hs];exact hk)
 have h2:trT n ps p m k = t:=by
  show (trL n p m (tb0 n ps) (trS n ps p m)).getD k default = t;rw [hs,bo7,bo6 (by rw [a4e];exact hk),<- he];rfl
 rw [h2] at h1;have:ke n t = true:=bp4.2 ⟨cg n,hf,decide_eq_true rfl⟩;rw [this] at h1;cases h1
def thB (n:Int) (l:List Fd) (p:AS):Bool:=tk n l p && decide (zi n l p = 0)
def byB (l:List Fd) (p:AS):Bool:=!wg l p && decide (sd l p = 0)
def foB (n:Int) (l m:List Fd) (p:AS):Bool:=!(a84 n l m p).2 && decide (ck4 n l m p = 0)
def jw (a b c d:Bool):Int:=(bif a then 2 else 0) + ((bif b then 4 else 0) + ((bif c then 8 else 0) + (bif d then 16 else 0)))
def oc (n:Int) (l m:List Fd) (ps:List AS):Int:=jw (ij l ps) (ps.all (thB n l)) (ps.all (byB l)) (ps.all (foB n l m))
def ld (n:Int) (l m:List Fd) (ps:List AS):Int:=if lsC n ps l m = 0 then oc n l m ps + (bif lsB n ps l m then 1 else 0) else 0
def bj5 (h:¬ lsC n ps l m = 0):ld n l m ps = 0:=if_neg h
def bix (h:lsC n ps l m = 0) (hb:lsB n ps l m = true):ld n l m ps = ap .or .i64 (oc n l m ps) 1:=by
 unfold ld;rw [if_pos h,hb];unfold oc;generalize ij l ps = a;generalize ps.all (thB n l) = b;generalize ps.all (byB l) = c;generalize ps.all (foB n l m) = d;cases a <;> cases b <;> cases c <;> cases d <;> decide
def bks (h:lsC n ps l m = 0) (hb:lsB n ps l m = false):ld n l m ps = oc n l m ps:=by
 unfold ld;rw [if_pos h,hb];exact Int.add_zero _
def ass (h:lsC n ps l m = 0):decide (ap .and .i64 (ld n l m ps) 1 = 0) = !lsB n ps l m:=by
 unfold ld;rw [if_pos h];unfold oc;generalize ij l ps = a;generalize ps.all (thB n l) = b;generalize ps.all (byB l) = c;generalize ps.all (foB n l m) = d;generalize lsB n ps l m = e;cases a <;> cases b <;> cases c <;> cases d <;> cases e <;> decide
section
variable {a:Bool}
def axk (h:a = true):ap .or .i64 0 2 = jw a false false false:=by rw [h];decide
def axx {b:Bool} (h:b = true):ap .or .i64 (jw a false false false) 4 = jw a b false false:=by rw [h];cases a <;> decide
def azh {b c:Bool} (h:c = true):ap .or .i64 (jw a b false false) 8 = jw a b c false:=by rw [h];cases a <;> cases b <;> decide
def az6 {b c d:Bool} (h:d = true):ap .or .i64 (jw a b c false) 16 = jw a b c d:=by rw [h];cases a <;> cases b <;> cases c <;> decide
abbrev Dsg:=List AS × Int × List St
abbrev dsn (d:Dsg):PC:=.agg [asl d.1, .raw (.int .i64 d.2.1),stl d.2.2]
def fuD (n:Int) (l m:List Fd) (ps:List AS):Dsg:=if lsC n ps l m = 0 then (ps,ld n l m ps,if lsB n ps l m = true then prS n ps l m else []) else ([],0,[])
def bmb (h:¬ lsC n ps l m = 0):fuD n l m ps = ([],0,[]):=if_neg h
def blq (h:lsC n ps l m = 0) (hb:lsB n ps l m = true):fuD n l m ps = (ps,ld n l m ps,prS n ps l m):=by unfold fuD;rw [if_pos h,if_pos hb]
def bme (h:lsC n ps l m = 0) (hb:lsB n ps l m = false):fuD n l m ps = (ps,ld n l m ps,[]):=by unfold fuD;rw [if_pos h,if_neg (by rw [hb];exact bre)]
def mq (n:Int) (l m:List Fd):Int:=if n < 0 \/ 8 < n then 7 else be n l m
def im (n:Int) (l m:List Fd) (f:Int):List AS × Int:=if f = 3 then (oz n l,au n l) else if f = 4 then (xu n l,fc n l 8) else if f = 5 then (xl n l m,ck4 n l m 0) else ([],1)
def bh5 {f:Int} (h:f = 3):im n l m f = (oz n l,au n l):=if_pos h
def bhg {f:Int} (h:¬ f = 3) (h2:f = 4):im n l m f = (xu n l,fc n l 8):=by unfold im;rw [if_neg h,if_pos h2]
def bfz {f:Int} (h:¬ f = 3) (h2:¬ f = 4) (h3:f = 5):im n l m f = (xl n l m,ck4 n l m 0):=by unfold im;rw [if_neg h,if_neg h2,if_pos h3]
def bmv {f:Int} (h:¬ f = 3) (h2:¬ f = 4) (h3:¬ f = 5):im n l m f = ([],1):=by unfold im;rw [if_neg h,if_neg h2,if_neg h3]
def goD (n:Int) (l m:List Fd) (q:List AS × Int):Dsg:=if mq n l m = 0 then (if q.2 = 0 then fuD n l m q.1 else ([],0,[])) else ([],0,[])
def goE (n:Int) (l m:List Fd) (q:List AS × Int):Int:=if mq n l m = 0 then (if q.2 = 0 then lsC n q.1 l m else q.2) else mq n l m
variable {q:List AS × Int}
def bfq (h:¬ mq n l m = 0):goD n l m q = ([],0,[]) /\ goE n l m q = mq n l m:=⟨if_neg h,if_neg h⟩
def ber (h:mq n l m = 0) (h2:¬ q.2 = 0):goD n l m q = ([],0,[]) /\ goE n l m q = q.2:=by
 unfold goD goE;rw [if_pos h,if_neg h2,if_pos h,if_neg h2];exact ⟨rfl,rfl⟩
def b4e (h:mq n l m = 0) (h2:q.2 = 0):goD n l m q = fuD n l m q.1 /\ goE n l m q = lsC n q.1 l m:=by
 unfold goD goE;rw [if_pos h,if_pos h2,if_pos h,if_pos h2];exact ⟨rfl,rfl⟩
def mz (n:Int) (l:List Fd):List AS × Int:=if fc n l 8 = 0 then (if qz n l = true then (o9 n l,0) else (oz n l,au n l)) else (o9 n l,fc n l 8)
def bm7 (h:¬ fc n l 8 = 0):mz n l = (o9 n l,fc n l 8):=if_neg h
def bf8 (h:fc n l 8 = 0) (h2:qz n l = true):mz n l = (o9 n l,fc n l 8):=by unfold mz;rw [if_pos h,if_pos h2,h]
def bhf (h:fc n l 8 = 0) (h2:qz n l = false):mz n l = (oz n l,au n l):=by unfold mz;rw [if_pos h,if_neg (by rw [h2];exact bre)]
def b6r (h:n < 0 \/ 8 < n):mq n l m = 7:=if_pos h
def b7p (h:¬ (n < 0 \/ 8 < n)):mq n l m = be n l m:=if_neg h
end
end
end
section
section
variable {n:Int} {l m:List Fd} {ps:List AS} {p x:AS}
def b24 (hb:bsz p <= 12) (h:cr l p = false):jc l p = true:=ag4 fun x hx=>by
 by_cases h1:clo l x &&& p = x
 · unfold p9
   rw [h1];have:x &&& ~~~x = 0:=by simp
   rw [this];simp
 by_cases h2:clo l x &&& p = p
 · exact a4l (by unfold kp;exact decide_eq_true (arj.2 (by rw [bse];exact h2)))
 have:cr l p = true:=(ax2 hb).2 ⟨x,hx,by unfold ll;rw [decide_eq_true h1,decide_eq_true h2];rfl⟩;rw [h] at this;cases this
def a7f (h:lvE n ps = 0 /\ be n l m = 0):0 <= n /\ n <= 8 /\ be n l m = 0 /\ au n l = 0 /\ (∀ f ∈ l,sub f.lhs (a6 n) /\ sub f.rhs (a6 n)) /\ ∀ q ∈ ps,sub q (a6 n) /\ bsz q <= 8:=by
 obtain ⟨h1,h2⟩:=h
 have hv:au n l = 0:=by
  unfold be at h2;split at h2
  · assumption
  exact h2
 have hn:0 <= n /\ n <= 8:=by
  unfold lvE at h1;split at h1
  · cases h1
  omega
 exact ⟨hn.1,hn.2,h2,hv,ahd hv,fun q hq=>⟨a7a h1 hq,bon (ah5 (a7a h1 hq)) (y7 (n:=n) (m:=8) hn.2 bsq)⟩⟩
def axt (h:lsC n ps l m = 0):0 <= n /\ n <= 8 /\ be n l m = 0 /\ au n l = 0 /\ (∀ f ∈ l,sub f.lhs (a6 n) /\ sub f.rhs (a6 n)) /\ ∀ q ∈ ps,sub q (a6 n) /\ bsz q <= 8:=a7f (lh h)
def ai5 (h1:n <= 16):sub (a6 n) (a6 16):=ae.2 fun i hi h=>by
 unfold a6 at h ⊢;have e:min (Int.toNat 16) 32 = 16:=rfl;rw [e];rw [ly _ i hi] at h ⊢;rw [decide_eq_true_iff] at h ⊢;omega
def an3 (h:lvE n ps = 0 /\ be n l m = 0) (hp:p ∈ ps):thB n l p = tk n l p:=by
 obtain ⟨_,_,_,hv,_,hq⟩:=a7f h;unfold thB;rw [(a9s hv (hq p hp).1).1];simp
def a9i (h:lvE n ps = 0 /\ be n l m = 0) (hp:p ∈ ps):byB l p = !cr l p:=by
 obtain ⟨h0,h8,_,hv,hu,hq⟩:=a7f h;obtain ⟨q1,q2⟩:=hq p hp;obtain ⟨_,_,hl,_⟩:=f8 hv
 have hv16:au 16 l = 0:=by
  unfold au;rw [if_neg bsq,if_neg bsq,if_pos];rw [bp1];intro f hf;exact (pf bsq bsq).2 ⟨ak (hu f hf).1 (ai5 bsq),ak (hu f hf).2 (ai5 bsq)⟩
 have he:sd l p = 0:=by
  unfold sd;rw [if_pos hv16,if_neg bsq,if_pos];exact (a5r (s:=p) (n:=16) bsq bsq).1 (ak q1 (ai5 bsq))
 unfold byB wg;rw [he];simp
def ayz (h:lvE n ps = 0 /\ be n l m = 0) (hp:p ∈ ps):foB n l m p = !vBo (d8 n l m) p:=by
 obtain ⟨h0,h8,hb,hv,hu,hq⟩:=a7f h;obtain ⟨q1,q2⟩:=hq p hp
 have hk:ck4 n l m p = 0:=by
  rw [a60 bsq];unfold ckB;rw [if_pos hb,if_pos ((a5r h0 bsq).1 q1)]
 unfold foB;rw [hk,aee hk];unfold vBo;simp
def bk9 (h:lsC n ps l m = 0) (hb:ps.all (byB l) = true):ps.all (thB n l) = true:=by
 rw [bp1] at hb ⊢;intro q hq;obtain ⟨_,_,_,hv,_,hs⟩:=axt h;have h1:=hb q hq;rw [a9i (lh h) hq,boz] at h1;rw [an3 (lh h) hq,(a9s hv (hs q hq).1).2];exact b24 (by have:=(hs q hq).2;omega) h1
def fmI (n:Int) (l m:List Fd) (q:List AS):Int:=jw false (q.all (tk n l)) (q.all fun p=>!cr l p) (q.all fun p=>!vBo (d8 n l m) p)
def bmp {b c d:Bool}:ap .andNot .i64 (jw false b c d) 4 = jw false false c d:=by cases b <;> cases c <;> cases d <;> decide
def bma {b c d:Bool}:ap .andNot .i64 (jw false b c d) 8 = jw false b false d:=by cases b <;> cases c <;> cases d <;> decide
def bml {b c d:Bool}:ap .andNot .i64 (jw false b c d) 16 = jw false b c false:=by cases b <;> cases c <;> cases d <;> decide
def fm1 (n:Int) (l m:List Fd) (q:List AS) (i:Nat):Int:=jw false ((q.take (i + 1)).all (tk n l)) ((q.take i).all fun p=>!cr l p) ((q.take i).all fun p=>!vBo (d8 n l m) p)
def fm2 (n:Int) (l m:List Fd) (q:List AS) (i:Nat):Int:=jw false ((q.take (i + 1)).all (tk n l)) ((q.take (i + 1)).all fun p=>!cr l p) ((q.take i).all fun p=>!vBo (d8 n l m) p)
section
variable {i:Nat}
def a3k {P:AS -> Bool} {q:List AS} (hi:i < q.length):(q.take (i + 1)).all P = ((q.take i).all P && P (q.getD i default)):=by
 rw [aw hi,List.all_append];simp
def bjz (hi:i < ps.length) (h:tk n l (ps.getD i default) = true):fmI n l m (ps.take i) = fm1 n l m ps i:=by
 unfold fm1 fmI;rw [a3k hi,h,Bool.and_true]
def bk6 (hi:i < ps.length) (h:tk n l (ps.getD i default) = false):ap .andNot .i64 (fmI n l m (ps.take i)) 4 = fm1 n l m ps i:=by
 unfold fm1 fmI;rw [bmp,a3k hi,h,bso]
def bjs (hi:i < ps.length) (h:cr l (ps.getD i default) = false):fm1 n l m ps i = fm2 n l m ps i:=by
 unfold fm1 fm2;rw [a3k (P:=fun p=>!cr l p) hi,h];simp
def bkw (hi:i < ps.length) (h:cr l (ps.getD i default) = true):ap .andNot .i64 (fm1 n l m ps i) 8 = fm2 n l m ps i:=by
 unfold fm1 fm2;rw [bma,a3k (P:=fun p=>!cr l p) hi,h];simp
def bjt (hi:i < ps.length) (h:vBo (d8 n l m) (ps.getD i default) = false):fm2 n l m ps i = fmI n l m (ps.take (i + 1)):=by
 unfold fm2 fmI;rw [a3k (P:=fun p=>!vBo (d8 n l m) p) hi,h];simp
def bjc (hi:i < ps.length) (h:vBo (d8 n l m) (ps.getD i default) = true):ap .andNot .i64 (fm2 n l m ps i) 16 = fmI n l m (ps.take (i + 1)):=by
 unfold fm2 fmI;rw [bml,a3k (P:=fun p=>!vBo (d8 n l m) p) hi,h];simp
def fmL (n:Int) (l m:List Fd) (q:List AS):Int:=fmI n l m q + (bif lsB n q l m then 1 else 0)
def bcx (h:lvE n ps = 0 /\ be n l m = 0):fmI n l m ps = jw false (ps.all (thB n l)) (ps.all (byB l)) (ps.all (foB n l m)):=by
 have e:∀ {P Q:AS -> Bool},(∀ q ∈ ps,P q = Q q) -> ps.all P = ps.all Q:=fun {P Q} hh=>by
  rw [bqf,bp1,bp1];exact forall_congr' fun q=>forall_congr' fun hq=>by rw [hh q hq]
 unfold fmI;rw [e (P:=tk n l) fun q hq=>(an3 h hq).symm,e (P:=fun p=>!cr l p) fun q hq=>(a9i h hq).symm,e (P:=fun p=>!vBo (d8 n l m) p) fun q hq=>(ayz h hq).symm]
end
end
end
section
def ac7 (l:List Fd) (ps:List AS) (z:AS):AS:=match ps.find? (eu l z) with | none=>z | some p=>z ||| oj l p z
section
variable {l:List Fd}
def ay3 {p z:AS}:sub (clo l (z &&& p) &&& p) z <-> eu l z p = false:=by
 unfold eu oj sub;rw [bse (clo l (z &&& p)) p,decide_eq_false_iff_not,Ne,Decidable.not_not]
def biz (z a:AS):z ||| a = z ||| (a &&& ~~~z):=by
 apply bpx;intro i hi;simp only [bpj,boh,bp7,decide_eq_true hi];cases z.getLsbD i <;> cases a.getLsbD i <;> rfl
variable {ps:List AS}
def blm {z:AS} {i:Nat} (hi:i < ps.length) (hI:∀ j,j < i -> eu l z (ps.getD j default) = false) (h:eu l z (ps.getD i default) = true):
 idx (eu l z) ps = (i:Int) /\ ac7 l ps z = z ||| (clo l (z &&& ps.getD i default) &&& ps.getD i default):=by
 refine ⟨w9 hi hI h, ?_⟩;unfold ac7;rw [ae8 hi hI h,biz z (clo l (z &&& ps.getD i default) &&& ps.getD i default),bse (clo l (z &&& ps.getD i default))];rfl
def bl6 {z:AS} (hI:∀ j,j < ps.length -> eu l z (ps.getD j default) = false):idx (eu l z) ps = -1 /\ ac7 l ps z = z:=by
 refine ⟨wl hI, ?_⟩;unfold ac7;rw [apb hI]
def bjp {z:AS} {i:Nat} (hi:i < ps.length) (h:eu l z (ps.getD i default) = true) (hI:∀ j,j < i -> eu l z (ps.getD j default) = false):ac7 l ps z = z ||| oj l (ps.getD i default) z:=by
 unfold ac7;rw [ae8 hi hI h]
end
end
section
open Go.Proofs
def b07 (l:List Fd) (ps:List AS) (z:AS):a7 btb 209 [pP (fdl l),pP (asl ps),pA z] (aa [pI (idx (eu l z) ps),pA (ac7 l ps z)]):=by
 refine hpx (nt:=38) Tryz.func209 ?_;refine w_7 ?_;refine cq 1 rfl fun hbt=>?_;refine w_4 ?_;refine ah (ι:=Nat) (ka 0 (ka 1 (ka 2 kn))) km (fun i=>⟨[(8,some (vI i))],[]⟩) (fun i=>i <= ps.length /\ ∀ j,j < i -> eu l z (ps.getD j default) = false) (fun i=>ps.length - i) (0) (⟨boe _,fun j hj=>absurd hj (bod j)⟩) kk ?_;rintro i ⟨hi,hI⟩;refine w_8 ?_;refine hcd (fun h0=>?_) (fun h0=>?_)
 ·
  refine i6 ?_;refine rc rfl rfl rfl rfl rfl rfl aa1 (a97 l (z &&& (ps.getD i default))) (⟨CoC.refl _,cci (gk _ _),trivial⟩) rfl rfl ?_;refine i6 ?_;refine rc rfl rfl rfl rfl rfl rfl qq (ye (clo l (z &&& (ps.getD i default)) &&& (ps.getD i default)) z) (⟨cci (gk _ _),CoC.refl _,trivial⟩) rfl rfl ?_;refine w_2 ?_;refine hcv (fun h1=>?_) (fun h1=>?_)
  ·
   have hm:eu l z (ps.getD i default) = true:=by
    cases hq:eu l z (ps.getD i default) with
    | true=>rfl
    | false=>exact absurd (ay3.2 hq) (a4x h1)
   obtain ⟨he1,he2⟩:=blm bsq hI hm;refine v_9 ?_;exact ⟨cci he1.symm,cci (by rw [he2,gk,bOr];rfl),trivial⟩
  have hm:eu l z (ps.getD i default) = false:=ay3.1 (a2v h1);refine w_6 ?_;refine lpz (i + 1) kk ?_;refine ⟨by omega,fun j hj=>?_⟩;by_cases e:j = i
  · rw [e];exact hm
  exact hI j bsq
 obtain rfl:i = ps.length:=by omega
 obtain ⟨he1,he2⟩:=bl6 hI;refine v_7 ?_;exact ⟨cci he1.symm,cci (by rw [he2]),trivial⟩
def b1x (l:List Fd) (ps:List AS) (z0:AS):a7 btb 161 [pP (fdl l),pP (asl ps),pA z0] (aa [pA (o0 l ps z0)]):=by
 refine hpx (nt:=20) Tryz.func161 ?_;refine w_5 ?_;refine ah (ι:=Nat × List Nat × AS) (ka 0 (ka 1 kn)) km (fun x=>⟨[(2,some (vA x.2.2))],[]⟩) (fun x=>ac1 l ps z0 x) (fun x=>x.1) ((4294967297,[],z0)) (anz l ps z0) kk ?_;rintro x hx;have hpos:=aa3 hx;refine w_6 ?_;refine qcx (wgx Tryz.func209) (b07 l ps x.2.2) ?_;refine i6 ?_;refine hcd (fun h0=>?_) (fun h0=>?_)
 · refine v_5 ?_;exact ⟨cci (congrArg asI (au8 hx bsq)),trivial⟩
 obtain ⟨i0,hi0,hi1,hi2,hi3⟩:=xa (p:=eu l x.2.2) (l:=ps) bsq;refine w_5 ?_;refine ⟨(x.1 - 1,x.2.1 ++ [i0],x.2.2 ||| oj l (ps.getD i0 default) x.2.2), ?_, ?_, ?_⟩
 · exact alt hx hi1 hi2 hi3
 · dsimp only
   omega
 exact ⟨⟨⟨_,rfl,(coi (congrArg asI (bjp hi1 hi2 hi3)))⟩,tt⟩,trivial⟩
def b40 (l:List Fd) (ps:List AS) (x:Fd):a7 btb 110 [pP (fdl l),pP (asl ps),x.pc] (aa [pB (py l ps x)]):=by
 refine hpx (nt:=15) Tryz.func110 ?_;refine sx7 ?_;refine m9 0 ?_;refine d5 ?_;refine qcx (wgx Tryz.func161) (b1x l ps x.lhs) ?_;refine qcx qq (ye x.rhs (o0 l ps x.lhs)) ?_;refine v_3 ?_;exact ⟨CoC.refl _,trivial⟩
def b5p (l:List Fd) (ps:List AS) (hl:l.length <= 16777216):a7 btb 49 [pP (fdl l),pP (asl ps)] (aa [pP (il (ca l ps l.length))]):=by
 refine hpx (nt:=26) Tryz.func49 ?_;refine t7 ?_;refine ct 5 900 true 1 3 (lf iC []) bsu rfl (CoP.sl rfl (.inr rfl) (fun h=>h) (fun i j hi _=>absurd hi (bod i))) (.inr rfl) rfl ?_;refine bp (ka 0 (ka 1 kn)) km (fun i=>⟨[(5,some (.v (.one (.ref 900 (ca l ps i).length)))),(6,some (vI i))],[(900,some (.arr true 1 3 (ca l ps i).length (lf iC (ca l ps i))))]⟩) l.length kk ?_;rintro i hi;have hlen:=aj2 l ps i;refine w_8 ?_;refine hcd (fun h0=>?_) (fun h0=>?_)
 ·
  refine dl ?_;refine qcx (wgx Tryz.func110) (b40 l ps (l.getD i default)) ?_;refine w_2 ?_;refine am _ rfl (fun r1=>?_) (fun r1=>?_)
  ·
   have h1:=ci r1;have hq:=ci r1;refine w_3 ?_;refine m9 0 ?_;refine r9 1 true ?_;refine w_7 ?_
   first | (refine lpz (i + 1) ⟨⟨⟨_, rfl, (c8 (vv bsr))⟩, tt⟩, ⟨⟨_, rfl, (bu (vv bsr) (CoP.refl _))⟩, trivial⟩⟩ ?_; show i + 1 <= _; omega)
         | (refine lpz (i + 1) ⟨⟨⟨_,rfl,(ce (vi bsr))⟩,tt⟩,⟨⟨_,rfl,(bv (vi bsr))⟩,trivial⟩⟩ ?_;show i + 1 <= _;omega)
  have h1:=cj r1;have hq:=cj r1;refine w_6 ?_
  first | (refine lpz (i + 1) ⟨⟨⟨_, rfl, (c8 (vv bsr))⟩, tt⟩, ⟨⟨_, rfl, (bu (vv bsr) (CoP.refl _))⟩, trivial⟩⟩ ?_; show i + 1 <= _; omega)
        | (refine lpz (i + 1) ⟨⟨⟨_,rfl,(ce (vi bsr))⟩,tt⟩,⟨⟨_,rfl,(bv (vi bsr))⟩,trivial⟩⟩ ?_;show i + 1 <= _;omega)
 obtain rfl:i = l.length:=by omega
 refine w_6 ?_;refine b6 4 rfl rfl rfl ?_;exact hx8 rfl rfl rfl (CoL.refl _)
end
section
open Go.Proofs
def bm2 (b:Bs) (g k:Nat) (caps:Nat -> PV) (V:UInt8 -> Bool) (hg:goodFn btb g) (hV:∀ x,a7 btb g (pU8 x :: j2 caps k 0) (aa [pB (V x)])):a7 btb 210 [pP (byl b),pP (.fn g k caps)] (aa [pI (idx V b.data.toList)]):=by
 refine hpx (nt:=19) Tryz.func210 ?_;refine cw ?_;refine cq 0 rfl fun hn=>?_;refine w_3 ?_;refine ep (ι:=Unit) kn km (fun _i=>⟨[],[]⟩) (fun _i=>idx V b.data.toList = -1) ?_ ?_
 ·
  refine w_7 ?_;refine ah (ι:=Nat) (ka 0 (ka 1 (ka 7 kn))) km (fun i=>⟨[(8,some (vI i))],[]⟩) (fun i=>i <= b.data.toList.length /\ (∀ j,j < i -> V (b.data.toList.getD j default) = false)) (fun i=>b.data.toList.length - i) (0) (⟨boe _,c5⟩) kk ?_;rintro i ⟨hi,hI⟩;refine w_5 ?_;refine hcd (fun h0=>?_) (fun h0=>?_)
  ·
   refine o8 ?_;refine rc rfl rfl rfl rfl rfl rfl hg (hV (b.data.toList.getD i default)) (CoL.refl _) rfl rfl ?_;refine cu ?_;refine hcb (fun h1=>?_) (fun h1=>?_)
   · refine v_5 ?_;exact ⟨cci (w9 (i:=i) bsq hI h1).symm,trivial⟩
   refine w_5 ?_;refine lpz (i + 1) kk ?_;exact ⟨by show i + 1 <= _;omega,b7 hI (h1)⟩
  refine dy ?_;refine ⟨(), ?_, ?_⟩
  · exact wl fun j hj=>hI j bsq
  exact ⟨trivial,trivial⟩
 rintro _ hj;refine v_4 ?_;exact ⟨cci hj.symm,trivial⟩
def bmz (b:Bs) (g k:Nat) (caps:Nat -> PV) (V:UInt8 -> Bool) (hg:goodFn btb g) (hV:∀ x,a7 btb g (pU8 x :: j2 caps k 0) (aa [pB (V x)])):a7 btb 162 [pP (byl b),pP (.fn g k caps)] (aa [pB (b.data.toList.any V)]):=by
 refine hpx (nt:=9) Tryz.func162 ?_;refine w_8 ?_;refine qcx (wgx Tryz.func210) (bm2 b g k caps V hg hV) ?_;refine v_3 ?_;exact ⟨ccb yy,trivial⟩
def blc (l:List Bs) (s:Bs):a7 btb 211 [pP (bsl l),pS s] (aa [pI (idx (fun x=>decide (x = s)) l)]):=by
 refine hpx (nt:=19) Tryz.func211 ?_;refine cw ?_;refine cq 0 rfl fun hn=>?_;refine w_3 ?_;refine ep (ι:=Unit) kn km (fun _i=>⟨[],[]⟩) (fun _i=>idx (fun x=>decide (x = s)) l = -1) ?_ ?_
 ·
  refine w_7 ?_;refine ah (ι:=Nat) (ka 0 (ka 1 (ka 7 kn))) km (fun i=>⟨[(8,some (vI i))],[]⟩) (fun i=>i <= l.length /\ (∀ j,j < i -> decide (l.getD j default = s) = false)) (fun i=>l.length - i) (0) (⟨boe _,c5⟩) kk ?_;rintro i ⟨hi,hI⟩;refine w_5 ?_;refine hcd (fun h0=>?_) (fun h0=>?_)
  ·
   refine a3c ?_;refine hcd (fun h1=>?_) (fun h1=>?_)
   · refine v_5 ?_;exact ⟨cci (w9 (p:=fun x=>decide (x = s)) (i:=i) bsq hI (decide_eq_true h1.symm)).symm,trivial⟩
   refine w_5 ?_;refine lpz (i + 1) kk ?_;exact ⟨by show i + 1 <= _;omega,b7 hI (decide_eq_false fun e=>h1 e.symm)⟩
  refine dy ?_;refine ⟨(), ?_, ?_⟩
  · exact wl (p:=fun x=>decide (x = s)) fun j hj=>hI j bsq
  exact ⟨trivial,trivial⟩
 rintro _ hj;refine v_4 ?_;exact ⟨cci hj.symm,trivial⟩
def bm5 (l:List Bs) (s:Bs):a7 btb 164 [pP (bsl l),pS s] (aa [pB (l.any fun x=>decide (x = s))]):=by
 refine hpx (nt:=9) Tryz.func164 ?_;refine w_8 ?_;refine qcx (wgx Tryz.func211) (blc _ _) ?_;refine v_3 ?_;exact ⟨ccb yy,trivial⟩
def bjo (x:UInt8):a7 btb 163 [pU8 x] (aa [pB (aq7 x)]):=by
 refine hpx (nt:=9) Tryz.func163 ?_;refine w_9 ?_;refine ai rfl rfl (fun r0=>?_) (fun r0=>?_)
 ·
  have h0:=tz1 r0;(iterate 2 refine k9 (gtf r0) ?_);refine w_3 ?_
  exact hx8 rfl rfl rfl (⟨ccb (by unfold aq7;first | rfl | simp_all),trivial⟩)
 have h0:=tz2 r0;(iterate 2 refine qy ?_ (hg:=(gff r0)));refine w_3 ?_
 exact hx8 rfl rfl rfl (⟨ccb (by unfold aq7;first | rfl | simp_all),trivial⟩)
def bmf (l:List Bs) (hl:∀ b ∈ l,b.size <= maxLen):a7 btb 111 [pP (bsl l)] (aa [pI (oi l)]):=by
 refine hpx (nt:=30) Tryz.func111 ?_;refine w_6 ?_;refine cq 0 rfl fun hn=>?_;refine w_5 ?_;refine hcd (fun h0=>?_) (fun h0=>?_)
 · have he:=bmr h0;refine v_4 ?_;exact ⟨cci he.symm,trivial⟩
 refine w_9 ?_;refine ah (ι:=Nat) (ka 0 (ka 8 (ka 9 kn))) km (fun i=>⟨[(10,some (vI i))],[]⟩) (fun i=>i <= l.length /\ (∀ j,j < i -> ue l j = false)) (fun i=>l.length - i) (0) (⟨boe _,c5⟩) kk ?_;rintro i ⟨hi,hI⟩;refine w_5 ?_;refine hcd (fun h1=>?_) (fun h1=>?_)
 ·
  have hsz:(l.getD i default).size <= maxLen:=hl _ (by rw [bo7,bo6 bsq];exact bp3 _);refine uk ?_;refine ai rfl rfl (fun r2=>?_) (fun r2=>?_)
  ·
   have h2:=tz1 r2;have hb:ue l i = true:=by unfold ue;simp_all
   (iterate 3 refine k9 (gtf r2) ?_);refine w_2 ?_;(iterate 5 refine k9 rfl ?_);refine w_7 ?_
   exact hx8 rfl rfl rfl (⟨cci (b3e h0 bsq hb).symm,trivial⟩)
  have h2:=tz2 r2;refine qy ?_ (hg:=(gff r2));refine rv rfl rfl rfl rfl rfl (gff r2) ?_;refine qcx (wgx Tryz.func162) (bmz (l.getD i default) 163 0 (fun _=>.any) aq7 (wgx Tryz.func163) bjo) ?_ (hg:=(gff r2));refine w_2 ?_;refine ai rfl rfl (fun r3=>?_) (fun r3=>?_)
  ·
   have h3:=aq r2 r3;have hb:ue l i = true:=by unfold ue;simp_all
   (iterate 5 refine k9 (gtf r3) ?_);refine w_7 ?_
   exact hx8 rfl rfl rfl (⟨cci (b3e h0 bsq hb).symm,trivial⟩)
  have h3:=aq r2 r3;(iterate 4 refine qy ?_ (hg:=(gff r3)));refine rc rfl rfl rfl rfl rfl rfl (wgx Tryz.func164) (bm5 (l.take i) (l.getD i default)) (⟨CoC.one (ard (k:=i) bsq),CoC.refl _,trivial⟩) rfl (gff r3) ?_;refine w_2 ?_
  refine am _ rfl (fun r4=>?_) (fun r4=>?_)
  ·
   have h4:=aq r3 r4;have hb:ue l i = true:=by unfold ue;simp_all
   refine v_4 ?_;exact ⟨cci (b3e h0 bsq hb).symm,trivial⟩
  have h4:=aq r3 r4;have hb:ue l i = false:=by unfold ue;simp_all
  refine w_5 ?_;refine lpz (i + 1) kk ?_;exact ⟨by show i + 1 <= _;omega,b7 hI (hb)⟩
 obtain rfl:i = l.length:=by omega
 refine v_5 ?_;exact ⟨cci (bm9 h0 hI).symm,trivial⟩
end
end Go.Hx
