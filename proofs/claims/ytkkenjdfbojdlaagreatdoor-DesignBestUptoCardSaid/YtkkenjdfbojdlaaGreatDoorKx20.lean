/- A part of the proof: V15 Cs18 V16 Cs19 V17. -/
import Derived.Test.YtkkenjdfbojdlaaGreatDoorKx19
set_option linter.all false
set_option maxRecDepth 100000
set_option maxHeartbeats 1000000
namespace Go.Hx
section
open Go.Proofs
def ayk (l:List AS):d4 br6 216 [.one (.ref 900 l.length)] [(900, .arr true 1 46 l.length (lf sC l))] (.v (.one (.ref 901 (jb l).length))) [(901, .arr true 1 46 (jb l).length (lf sC (jb l)))] []:=by
 refine hfx (nt:=61) Tryz.func216 ?_;refine cb ?_;refine acd 900 rfl fun hlen=>?_;refine c5 ?_;refine hcd (fun h0=>?_) (fun h0=>?_)
 · refine w_5 ?_;refine xf 2 901 rfl rfl rfl rfl ?_;refine hrr ?_;have he:=ako (l:=l) (k:=l.length) (bmd _) (fun j h1 h2=>by omega);exact ⟨_,_,rfl,bqk,j5 (by rw [he]),⟨⟨_,rfl,dg he (by rw [he])⟩,trivial⟩⟩
 refine w_7 ?_;refine ae (ι:=Nat) (ka 0 kn) (kb 900 km) (fun k=>⟨[(3,some (vI k))],[]⟩) (fun k=>1 <= k /\ k <= l.length /\ ∀ j,0 < j -> j < k -> ¬ l.getD j default = l.getD (j - 1) default) (fun k=>l.length - k) (1) (⟨bmd _,by omega,fun j h1 h2=>by omega⟩) kk ?_;rintro k ⟨hk1,hk,hI⟩;refine w_8 ?_;refine hcd (fun h1=>?_) (fun h1=>?_)
 ·
  refine y5 ?_;refine hcd (fun h2=>?_) (fun h2=>?_)
  ·
   refine ja ?_;refine ae (ι:=Nat × Nat × List AS) (ka 0 (ka 4 kn)) km (fun x=>⟨[(3,some (vI x.1)),(5,some (vI ((x.2.1:Int) - k)))],[(900,some (.arr true 1 46 l.length (lf sC x.2.2)))]⟩) (fun x=>CpI l k x.1 x.2.1 x.2.2) (fun x=>l.length - x.2.1) ((k,k + 1,l)) (CpI.start hk1 bqi hI (zc bqj rfl bqi)) ⟨⟨zy,⟨_,rfl,(coi bql)⟩,trivial⟩,uu⟩ ?_;rintro ⟨p,q,m⟩ hC;have hC0:=hC;obtain ⟨hml,hkq,hpq,hql,_,_⟩:=hC0;dsimp only at hC hml hkq hpq hql;refine w_8 ?_;refine hcd (fun h3=>?_) (fun h3=>?_)
   ·
    simp only [d9,ax,bmn] at h3;refine y5 ?_;refine hcn (fun h4=>?_) (fun h4=>?_)
    ·
     refine abs ?_
     first | (refine ⟨(p + 1, q + 1, m.set p (m.getD q default)), ?_, ?_, ?_⟩
              · exact hC.keep bqi (zb bqj bqn bqn)
              · first | omega | (dsimp only;omega)
              exact ⟨⟨⟨_,rfl,(coi bql)⟩,⟨_,rfl,(coi bql)⟩,tt⟩,⟨⟨_,rfl,(uf id hml.symm bqi (by dsimp only;omega) bqn)⟩,trivial⟩⟩)
           | (refine ⟨(p,q + 1,m), ?_, ?_, ?_⟩
              · exact hC.skip bqi (zc bqj bqn bqn)
              · first | omega | (dsimp only;omega)
              exact ⟨⟨⟨_,rfl,(coi bql)⟩,⟨_,rfl,(coi bql)⟩,tt⟩,uu⟩)
    refine w_6 ?_
    first | (refine ⟨(p + 1, q + 1, m.set p (m.getD q default)), ?_, ?_, ?_⟩
             · exact hC.keep bqi (zb bqj bqn bqn)
             · first | omega | (dsimp only;omega)
             exact ⟨⟨⟨_,rfl,(coi bql)⟩,⟨_,rfl,(coi bql)⟩,tt⟩,⟨⟨_,rfl,(uf id hml.symm bqi (by dsimp only;omega) bqn)⟩,trivial⟩⟩)
          | (refine ⟨(p,q + 1,m), ?_, ?_, ?_⟩
             · exact hC.skip bqi (zc bqj bqn bqn)
             · first | omega | (dsimp only;omega)
             exact ⟨⟨⟨_,rfl,(coi bql)⟩,⟨_,rfl,(coi bql)⟩,tt⟩,uu⟩)
   simp only [d9,ax,bmn] at h3;refine w_6 ?_;refine r9 0 true ?_;refine w_8 ?_;refine akf 2 901 rfl rfl rfl rfl (by simp only [d9,ax,bmn];omega) rfl ?_;refine hrr ?_;have he:=(ah3 hC bqi).1;exact ⟨_,_,rfl,bqk,j5 (by rw [he];simp [d9,ax]),⟨⟨_,rfl,b83 hC bqi (by simp [ax]) (by simp [d9,ax])⟩,trivial⟩⟩
  refine w_6 ?_;refine lpz (k + 1) kk ?_;refine ⟨by omega,by show k + 1 <= _;omega,fun j h1 h2=>?_⟩
  rcases bot (bp4 h2) with h | h
  · exact hI j h1 h
  subst h;exact zb bqj rfl bqi
 refine w_6 ?_;refine xf 2 901 rfl rfl rfl rfl ?_;refine hrr ?_;have he:=ako (l:=l) (k:=k) bqi hI;exact ⟨_,_,rfl,bqk,j5 (by rw [he]),⟨⟨_,rfl,dg he (by rw [he])⟩,trivial⟩⟩
def b6u (l:List AS) (hl:l.length <= 8589934592):d4 br6 169 [.one (.p (asl l))] [] (.v (.one (.ref 901 (ord l).length))) [(901, .arr true 1 46 (ord l).length (lf sC (ord l)))] []:=by
 refine hfx (nt:=10) Tryz.func169 ?_;refine w_7 ?_;refine fc9 a7s (a3f l.length false (lf sC l) bqi) trivial ?_;refine w_5 ?_;refine fc9 aq2 (b41 0 _ l hl) uu ?_;refine w_4 ?_;refine gj rfl rfl rfl rfl rfl rfl (wgx Tryz.func216) ((ayk (srt l)).swap 900 0) (⟨congrArg (HV.ref 0) (a82 l).symm,trivial⟩) ⟨⟨_,rfl,dg rfl (a82 l).symm⟩,trivial⟩ rfl rfl ?_;refine w_2 ?_;refine hrr ?_;exact ⟨_,_,rfl,bqk,j5 (by rw [a4o]),⟨⟨_,rfl,dg (a4o _).symm (by rw [a4o])⟩,trivial⟩⟩
def ayb (s:AS):d4 br6 118 [.one (.p (asC s))] [] (.v (.one (.ref 901 (aq s).length))) [(901, .arr true 1 46 (aq s).length (lf sC (aq s)))] []:=by
 refine hfx (nt:=23) Tryz.func118 ?_;refine w_8 ?_;refine qcx za (a9b s) ?_;refine w_2 ?_;refine hcd (fun h0=>?_) (fun h0=>?_)
 · refine w_4 ?_;refine bw 2 901 true 1 46 (lf sC []) bqo rfl (CoP.sl rfl (.inr rfl) (fun h=>h) (fun i j hi _=>absurd hi (bmf i))) (.inr rfl) rfl ?_;refine hrr ?_;exact ⟨_,_,rfl,bqk,j5 (by rw [a2z h0];rfl),⟨⟨_,rfl,dg (a2z h0) (by rw [a2z h0];rfl)⟩,trivial⟩⟩
 refine w_4 ?_;refine m9 0 ?_;refine w_9 ?_;refine ae (ι:=List AS × AS) (ka 0 kn) km (fun y=>⟨[(3,some (.v (.one (.ref 0 y.1.length)))),(4,some (vA y.2))],[(0,some (.arr true 1 46 y.1.length (lf sC y.1)))]⟩) (fun y=>a92 s y) (fun y=>y.2.toNat) (([s],s)) (agw s) ⟨tt,⟨⟨_,rfl,(a0c (CoP.refl _))⟩,trivial⟩⟩ ?_;rintro y hy;have hlen:=hy.2.1;have hsl:=s.isLt;refine w_6 ?_;refine hcn (fun h1=>?_) (fun h1=>?_)
 ·
  have hne:y.2 ≠ 0:=fun e=>h1 (by rw [e];rfl);refine w_5 ?_;refine rq rfl rfl rfl rfl rfl ?_ (hp:=(a0p hne));refine w_7 ?_;refine m9 1 ?_;refine r9 2 true ?_;refine w_2 ?_;refine ⟨(y.1 ++ [(y.2 - 1) &&& s],(y.2 - 1) &&& s), ?_, ?_, ?_⟩
  · exact ahf hy hne
  · exact qv hne
  exact ⟨⟨⟨_,rfl,(bg rfl)⟩,⟨_,rfl,(bj (zm hne))⟩,tt⟩,⟨⟨_,rfl,(bh rfl (CoP.of_eq (by rw [zm hne];rfl)))⟩,trivial⟩⟩
 have hz:y.2 = 0:=c6.1 h1;refine w_2 ?_;refine al 3 rfl rfl rfl ?_;refine w_2 ?_;refine fc9 zi (b6u y.1 bqi) trivial ?_;refine w_2 ?_;refine hrr ?_;have he:=(al9 hy hz).trans (aem h0).symm;exact ⟨_,_,rfl,bqk,j5 (by rw [he]),⟨⟨_,rfl,dg he.symm (by rw [he])⟩,trivial⟩⟩
end
section
def pn (l:List Fd) (p:AS):Int:=if b6 16 l = 0 then (if 8 < bsz p then 3 else if p >>> 16 = 0 then 0 else 1) else b6 16 l
def a4n (l:List Fd) (p:AS):Fd:=if pn l p = 0 then lr l p else ⟨0,0⟩
def v8 (l:List Fd) (p:AS):Bool:=decide (pn l p = 0) && ec l p
def ami {f:Fd} (h:f = ⟨0,0⟩):CoC (.agg [ll (.int .u32 0),ll (.int .u32 0)]) f.pc:=CoC.of_eq (by rw [h];rfl)
def biu {a b:Fd} (h:a = b):CoC a.pc b.pc:=CoC.of_eq (by rw [h])
section
variable {l:List Fd} {p:AS}
def bge (h:¬ b6 16 l = 0):pn l p = b6 16 l /\ a4n l p = ⟨0,0⟩ /\ v8 l p = false:=by
 have e:pn l p = b6 16 l:=if_neg h;unfold a4n v8;rw [e];exact ⟨rfl,if_neg h,by rw [decide_eq_false h];rfl⟩
def be3 (h:b6 16 l = 0) (h2:(8:Int) < bsz p):pn l p = 3 /\ a4n l p = ⟨0,0⟩ /\ v8 l p = false:=by
 have e:pn l p = 3:=by unfold pn;rw [if_pos h,if_pos bqi]
 unfold a4n v8;rw [e];exact ⟨rfl,rfl,rfl⟩
def ala {n:Nat}:(asI p).fdiv (2 ^ (min n 32)) = 0 <-> p >>> n = 0:=by
 rw [yf,show (0:Int) = asI 0 from rfl,c6]
def bci (h:b6 16 l = 0) (h2:¬ (8:Int) < bsz p) (h3:¬ (asI p).fdiv (2 ^ (min 16 32)) = 0):pn l p = 1 /\ a4n l p = ⟨0,0⟩ /\ v8 l p = false:=by
 rw [ala] at h3;have e:pn l p = 1:=by unfold pn;rw [if_pos h,if_neg bqi,if_neg h3]
 unfold a4n v8;rw [e];exact ⟨rfl,rfl,rfl⟩
def bfu (h:b6 16 l = 0) (h2:¬ (8:Int) < bsz p) (h3:(asI p).fdiv (2 ^ (min 16 32)) = 0):pn l p = 0 /\ a4n l p = lr l p /\ v8 l p = ec l p:=by
 rw [ala] at h3;have e:pn l p = 0:=by unfold pn;rw [if_pos h,if_neg bqi,if_pos h3]
 unfold a4n v8;rw [e];exact ⟨rfl,rfl,rfl⟩
def bcP (n:Int) (l:List Fd) (f:Fd):Bool:=decide (f.rhs &&& ~~~f.lhs ≠ 0) && decide (clo l f.lhs ≠ a7 n)
def bcS (n:Int) (l:List Fd):Bool:=decide (b6 n l = 0) && !l.any (bcP n l)
def ek (n:Int) (l:List Fd):List AS:=if eo n l 8 = 0 then (aq (a7 n)).filter fun s=>!ec l s else []
def az8 {n:Int} (h:eo n l 8 = 0):ek n l = (aq (a7 n)).filter fun s=>!ec l s:=if_pos h
def awj {n:Int} (h:¬ eo n l 8 = 0):ek n l = []:=if_neg h
def a8x {n m:Int} (h:eo n l m = 0):b6 n l = 0 /\ n <= m:=by
 unfold eo at h;split at h
 · rename_i hv
   split at h
   · cases h
   exact ⟨hv,by omega⟩
 rename_i hv;exact absurd h hv
def a47 (n:Int) (l:List Fd):(ek n l).length <= 4294967296:=by
 unfold ek;have:=nu (a7 n);split
 · exact bmo (bo2 _ _) this
 simp
end
end
section
open Go.Proofs
def bk4 (l:List Fd) (p:AS):a6 br6 157 [pP (fdl l),pA p] (a8 [(a4n l p).pc,pB (v8 l p),pI (pn l p)]):=by
 refine hpx (nt:=32) Tryz.func157 ?_;refine sx7 ?_;refine m9 0 ?_;refine w_7 ?_;refine qcx vk (zz 16 l) ?_;refine w_7 ?_;refine hcn (fun h0=>?_) (fun h0=>?_)
 · refine w_8 ?_;refine hrr ?_;have he:=bge (p:=p) h0;exact f9 rfl rfl (⟨ami he.2.1,ccb he.2.2.symm,cci he.1.symm,trivial⟩)
 refine w_5 ?_;refine qcx za (a9b p) ?_;refine w_2 ?_;refine hcd (fun h1=>?_) (fun h1=>?_)
 · refine w_7 ?_;refine hrr ?_;have he:=be3 h0 h1;exact f9 rfl rfl (⟨ami he.2.1,ccb he.2.2.symm,cci he.1.symm,trivial⟩)
 refine w_8 ?_;refine hcn (fun h2=>?_) (fun h2=>?_)
 · refine w_7 ?_;refine hrr ?_;have he:=bci h0 h1 h2;exact f9 rfl rfl (⟨ami he.2.1,ccb he.2.2.symm,cci he.1.symm,trivial⟩)
 refine w_5 ?_;refine qcx an0 (aui l p) ?_;refine w_3 ?_;refine m9 1 ?_;refine cq ?_;refine hrr ?_;have he:=bfu h0 h1 h2;exact f9 rfl rfl (⟨biu he.2.1.symm,ccb he.2.2.symm,cci he.1.symm,trivial⟩)
def b9v (s:AS) (l:List Fd):a6 br6 146 [pA s,pP (bx (fdl l))] (a8 [pB (ec l s)]):=by
 refine hpx (nt:=13) Tryz.func146 ?_;refine w_8 ?_;refine qcx an0 (aui l s) ?_;refine w_3 ?_;refine m9 0 ?_;refine v_8 ?_;exact CoL.refl _
def bch (n:Int) (l:List Fd):a6 br6 89 [pI n,pP (fdl l)] (a8 [pP (asl (ek n l)),pI (eo n l 8)]):=by
 refine hpx (nt:=18) Tryz.func89 ?_;refine sx7 ?_;refine m9 2 ?_;refine w_8 ?_;refine qcx (wgx Tryz.func76) (bga n l) ?_;refine w_7 ?_;refine hcn (fun h0=>?_) (fun h0=>?_)
 · refine v_6 ?_;exact ⟨CoC.one (wu (awj h0)),CoC.refl _,trivial⟩
 refine w_2 ?_;have hv:=ew (a8x h0).1;refine cz 3 rfl rfl rfl ?_;refine w_2 ?_;refine qcx amx (auh n hv.1 hv.2.1) ?_;refine fc9 a9e (ayb (a7 n)) trivial ?_;refine qy ?_;refine fc9 aej ((atb (aq (a7 n)) 146 1 (fun i=>[bx (fdl l)].getD i .any) (ec l) (wgx Tryz.func146) (fun s=>b9v s l)).swap 900 901) uu ?_;refine v_3 ?_;exact ⟨CoC.one (CoP.of_eq (by rw [az8 h0])),cci h0.symm,trivial⟩
end
section
def o8 (l:List Fd) (p z:AS):AS:=(p &&& clo l (z &&& p)) &&& ~~~z
def dz (l:List Fd) (z p:AS):Bool:=decide (o8 l p z ≠ 0)
def y7 (l:List Fd) (ps:List AS):Nat -> AS -> AS
 | 0,z=>z
 | n + 1,z=>match ps.find? (dz l z) with
  | none=>z
  | some p=>y7 l ps n (z ||| o8 l p z)
def vl (l:List Fd) (ps:List AS) (z:AS):AS:=y7 l ps 4294967297 z
def o6 (l:List Fd) (ps:List AS) (f:Fd):Bool:=decide (sub f.rhs (vl l ps f.lhs))
def bca (l:List Fd) (p z:AS):ay .andNot .u32 (ay .and .u32 (asI p) (asI (clo l (z &&& p)))) (asI z) = asI (o8 l p z):=by rw [fj,i7];rfl
section
variable {l:List Fd}
def b8v {p z:AS}:(!decide (asI (o8 l p z) = 0)) = dz l z p:=by
 unfold dz;rw [show (0:Int) = asI 0 from rfl,a6b];simp
def bh5 {z m:AS} (h:m &&& ~~~z = m) (h0:m ≠ 0):z.toNat < (z ||| m).toNat:=by
 have hs:sub z (z ||| m):=ar.2 fun i _ hi=>by rw [bo4,hi];rfl
 have hle:=a0s hs
 rcases bot hle with h1 | h1
 · exact h1
 exfalso;apply h0;have e:z = z ||| m:=bng h1
 apply bnu;intro i hi;have e1:=congrArg (fun s:AS=>s.getLsbD i) e;have e2:=congrArg (fun s:AS=>s.getLsbD i) h;simp only [bo4,bmr,bob] at e1 e2;have e3:(0:AS).getLsbD i = false:=by simp
 rw [e3];rw [decide_eq_true hi] at e2;clear h h0 hs hle h1 e;revert e1 e2;cases z.getLsbD i <;> cases m.getLsbD i <;> simp
def amb {p z:AS} (h:dz l z p = true):z.toNat < (z ||| o8 l p z).toNat:=by
 refine bh5 ?_ (of_decide_eq_true h);unfold o8;rw [BitVec.and_assoc,BitVec.and_self]
def abv (l:List Fd) (ps:List AS) (z0:AS) (x:Nat × List Nat × AS):Prop:=y7 l ps x.1 x.2.2 = vl l ps z0 /\ 4294967296 < x.1 + x.2.2.toNat /\ x.2.1.length + x.1 = 4294967297
def amz (l:List Fd) (ps:List AS) (z0:AS):abv l ps z0 (4294967297,[],z0):=by
 refine ⟨rfl, ?_, ?_⟩
 · dsimp only;omega
 dsimp only;rw [bof]
variable {ps:List AS} {x:Nat × List Nat × AS}
def a7x {z0:AS} (h:abv l ps z0 x):0 < x.1:=by
 have:=h.2.1;have:=x.2.2.isLt;omega
def are {z0:AS} (h:abv l ps z0 x) (hi:idx (dz l x.2.2) ps < 0):x.2.2 = vl l ps z0:=by
 have hp:=a7x h;rw [<- h.1];obtain ⟨n,hn⟩:∃ n,x.1 = n + 1:=⟨x.1 - 1,by omega⟩;rw [hn];unfold y7
 have:ps.find? (dz l x.2.2) = none:=by
  have hm:idx (dz l x.2.2) ps = -1:=by
   by_cases h:idx (dz l x.2.2) ps = -1
   · exact h
   obtain ⟨i,h1,_⟩:=a09 h;omega
  exact ak7 (aaz hm)
 rw [this]
def amr {z0:AS} {i:Nat} (h:abv l ps z0 x) (hi:i < ps.length) (hv:dz l x.2.2 (ps.getD i default) = true) (hj:∀ j,j < i -> dz l x.2.2 (ps.getD j default) = false):
 abv l ps z0 (x.1 - 1,x.2.1 ++ [i],x.2.2 ||| o8 l (ps.getD i default) x.2.2):=by
 have hp:=a7x h;have hlt:=amb hv;obtain ⟨h1,h2,h3⟩:=h;obtain ⟨n,hn⟩:∃ n,x.1 = n + 1:=⟨x.1 - 1,by omega⟩;refine ⟨?_,by dsimp only;omega, ?_⟩
 · rw [<- h1,hn]
   have:ps.find? (dz l x.2.2) = some (ps.getD i default):=adm hi hj hv;show y7 l ps n _ = _
   conv=>rhs;unfold y7
   rw [this]
 dsimp only;rw [bmg,bo1];omega
def ca (l:List Fd) (ps:List AS) (i:Nat):List Nat:=(List.range i).filter fun j=>!o6 l ps (l.getD j default)
def k6 (l:List Fd) (ps:List AS):Bool:=(List.range l.length).all fun j=>o6 l ps (l.getD j default)
def uj {i:Nat} (h:o6 l ps (l.getD i default) = false):ca l ps (i + 1) = ca l ps i ++ [i]:=by
 unfold ca;rw [bo0,bnc];simp only [bnf,h,bqe,bpj,if_true,bnw,bn9,bnq,if_false]
def uc {i:Nat} (h:o6 l ps (l.getD i default) = true):ca l ps (i + 1) = ca l ps i:=by
 unfold ca;rw [bo0,bnc];simp only [bnf,h,bqe,bpj,if_true,bnw,bn9,bnq,if_false]
def ahd (l:List Fd) (ps:List AS) (i:Nat):(ca l ps i).length <= i:=bmo (bo2 _ _) (by rw [boq];exact bmd _)
def aao:decide (((ca l ps l.length).length:Int) = 0) = k6 l ps:=by
 unfold ca k6;rw [bo8,decide_eq_true_iff,bnh];constructor
 · intro h x hx
   have h0:((List.range l.length).filter fun j=>!o6 l ps (l.getD j default)) = []:=bo3 bqi;rw [bpm] at h0;have:=h0 x hx;simpa using this
 intro h;rw [bpm.2 fun x hx=>(by rw [h x hx];decide)];rfl
def bfv {f:Fd}:decide (ay .andNot .u32 (asI f.rhs) (asI (vl l ps f.lhs)) = 0) = o6 l ps f:=decide_eq_decide.2 i9
def b75 (l:List Fd):HV.clo 247 2 (fun i=>[HV.p (bx (fdl l)), .ptr 1 0].getD i (.p .any)) = HV.clo 247 2 (fun i=>([HV.p (bx (fdl l)), .ptr 1000 0].getD i (.p .any)).ren (swp 1000 1)) :=
 congrArg (HV.clo 247 2) (funext fun i=>match i with | 0=>rfl | 1=>rfl | n + 2=>rfl)
end
end
section
open Go.Proofs
def b4i (l:List Fd) (p z:AS):a6 br6 248 [pP (fdl l),pA p,pA z] (a8 [pA (o8 l p z)]):=by
 refine hpx (nt:=16) Tryz.func248 ?_;refine cq ?_;refine rc rfl rfl rfl rfl rfl rfl uh (xl l (z &&& p)) (⟨CoC.refl _,cci (fj _ _),trivial⟩) rfl rfl ?_;refine v_5 ?_;exact ⟨cci (bca l p z),trivial⟩
def biy (x:AS) (l:List Fd) (z:AS):d4 br6 247 [.one (.p (asC x)), .one (.p (bx (fdl l))), .one (.ptr 1000 0)] [(1000, .box [.p (asC z)])] (.v (.one (.p (.raw (.bool (dz l z x)))))) [(1000, .box [.p (asC z)])] [1000]:=by
 refine hfx (nt:=10) Tryz.func247 ?_;refine w_9 ?_;refine qcx (wgx Tryz.func248) (b4i l x z) ?_;refine w_3 ?_;refine hrr ?_;exact ⟨_,_,rfl,bqk,cob b8v,uu⟩
def bjr (ps:List AS) (l:List Fd) (z:AS):d4 br6 167 [.one (.p (asl ps)), .one (.clo 247 2 fun i=>[HV.p (bx (fdl l)), .ptr 1000 0].getD i (.p .any))] [(1000, .box [.p (asC z)])] (.v (.one (.p (.raw (.int .i64 (idx (dz l z) ps)))))) [(1000, .box [.p (asC z)])] [1000]:=by
 refine hfx (nt:=19) Tryz.func167 ?_;refine cb ?_;refine c8 0 rfl fun hn=>?_;refine w_3 ?_;refine dm (ι:=Unit) kn (kb 1000 km) (fun _i=>⟨[],[]⟩) (fun _i=>idx (dz l z) ps = -1) ?_ ?_
 ·
  refine w_7 ?_;refine ae (ι:=Nat) (ka 0 (ka 1 (ka 7 kn))) (kb 1000 km) (fun i=>⟨[(8,some (vI i))],[]⟩) (fun i=>i <= ps.length /\ (∀ j,j < i -> dz l z (ps.getD j default) = false)) (fun i=>ps.length - i) (0) (⟨bmh _,bq⟩) kk ?_;rintro i ⟨hi,hI⟩;refine w_5 ?_;refine hcd (fun h0=>?_) (fun h0=>?_)
  ·
   refine ml ?_;refine fc9 (wgx Tryz.func247) (biy (ps.getD i default) l z) uu ?_;refine bz ?_;refine hcb (fun h1=>?_) (fun h1=>?_)
   · refine w_5 ?_;refine hrr ?_;exact ⟨_,_,rfl,bqk,coi (rg (i:=i) bqi hI h1).symm,uu⟩
   refine w_5 ?_;refine lpz (i + 1) kk ?_;exact ⟨by show i + 1 <= _;omega,aw hI (h1)⟩
  refine da ?_;refine ⟨(), ?_, ?_⟩
  · exact sx fun j hj=>hI j bqi
  exact kk
 rintro _ hj;refine w_4 ?_;refine hrr ?_;exact ⟨_,_,rfl,bqk,coi hj.symm,uu⟩
def b6x (l:List Fd) (ps:List AS) (z0:AS):a6 br6 217 [pP (fdl l),pP (asl ps),pA z0] (a8 [pA (vl l ps z0),pP .any]):=by
 refine hpx (nt:=30) Tryz.func217 ?_;refine sx7 ?_;refine m9 0 ?_;refine m9 1 ?_;refine w_8 ?_;refine cz 3 rfl rfl rfl ?_;refine bw 8 900 true 1 3 (lf iC []) bqo rfl (CoP.sl rfl (.inr rfl) (fun h=>h) (fun i j hi _=>absurd hi (bmf i))) (.inr rfl) rfl ?_;refine ae (ι:=Nat × List Nat × AS) (ka 1 (ka 3 (ka 5 kn))) km (fun x=>⟨[(8,some (.v (.one (.ref 900 x.2.1.length))))],[(900,some (.arr true 1 3 x.2.1.length (lf iC x.2.1))),(1,some (.box [.p (asC x.2.2)]))]⟩) (fun x=>abv l ps z0 x) (fun x=>x.1) ((4294967297,[],z0)) (amz l ps z0) kk ?_;rintro x hx;have hlen:=hx.2.2;have hpos:=a7x hx;refine w_5 ?_;refine gj rfl rfl rfl rfl rfl rfl afp ((bjr ps l x.2.2).swap 1000 1) (⟨CoP.refl _,b75 l,trivial⟩) uu rfl rfl ?_;refine w_8 ?_;refine hcd (fun h0=>?_) (fun h0=>?_)
 · refine cb ?_;refine al 8 rfl rfl rfl ?_;refine v_6 ?_;exact ⟨cci (congrArg asI (are hx bqi)),CoC.one (CoP.any_of),trivial⟩
 obtain ⟨i0,hi0,hi1,hi2,hi3⟩:=a09 (p:=dz l x.2.2) (l:=ps) bqi;refine c5 ?_;refine rc rfl rfl rfl rfl rfl rfl (wgx Tryz.func248) (b4i l (ps.getD i0 default) x.2.2) (⟨CoC.refl _,CoC.one (CoP.of_eq (by rw [hi0];rfl)),CoC.refl _,trivial⟩) rfl rfl ?_;refine w_7 ?_;refine m9 2 ?_;refine r9 3 true ?_;refine w_2 ?_;refine ⟨(x.1 - 1,x.2.1 ++ [i0],x.2.2 ||| o8 l (ps.getD i0 default) x.2.2), ?_, ?_, ?_⟩
 · exact amr hx hi1 hi2 hi3
 · dsimp only
   omega
 exact ⟨⟨⟨_,rfl,(bg rfl)⟩,tt⟩,⟨⟨_,rfl,(bh rfl (CoP.of_eq (congrArg (fun z=>PV.raw (.int .i64 z)) hi0)))⟩,⟨_,rfl,⟨CoP.of_eq (congrArg (fun z=>PV.raw (.int .u32 z)) (bOr _ _)),trivial⟩⟩,trivial⟩⟩
def bja (l:List Fd) (ps:List AS) (z:AS):a6 br6 171 [pP (fdl l),pP (asl ps),pA z] (a8 [pA (vl l ps z)]):=by
 refine hpx (nt:=17) Tryz.func171 ?_;refine w_9 ?_;refine qcx (wgx Tryz.func217) (b6x l ps z) ?_;refine cq ?_;exact hx8 rfl rfl rfl (CoL.refl _)
def biz (l:List Fd) (ps:List AS) (x:Fd):a6 br6 122 [pP (fdl l),pP (asl ps),x.pc] (a8 [pB (o6 l ps x)]):=by
 refine hpx (nt:=16) Tryz.func122 ?_;refine sx7 ?_;refine m9 0 ?_;refine c5 ?_;refine qcx (wgx Tryz.func171) (bja l ps x.lhs) ?_;refine v_5 ?_;exact ⟨ccb bfv,trivial⟩
def b4b (l:List Fd) (ps:List AS) (hl:l.length <= 16777216):a6 br6 59 [pP (fdl l),pP (asl ps)] (a8 [pP (il (ca l ps l.length))]):=by
 refine hpx (nt:=26) Tryz.func59 ?_;refine c5 ?_;refine c8 0 rfl fun hn=>?_;refine w_6 ?_;refine bw 5 900 true 1 3 (lf iC []) bqo rfl (CoP.sl rfl (.inr rfl) (fun h=>h) (fun i j hi _=>absurd hi (bmf i))) (.inr rfl) rfl ?_;refine b5 (ka 0 (ka 1 (ka 8 (ka 9 kn)))) km (fun i=>⟨[(5,some (.v (.one (.ref 900 (ca l ps i).length)))),(10,some (vI i))],[(900,some (.arr true 1 3 (ca l ps i).length (lf iC (ca l ps i))))]⟩) l.length kk ?_;rintro i hi;have hlen:=ahd l ps i;refine w_5 ?_;refine hcd (fun h0=>?_) (fun h0=>?_)
 ·
  refine w_8 ?_;refine m9 0 ?_;refine w_8 ?_;refine qcx (wgx Tryz.func122) (biz l ps (l.getD i default)) ?_;refine w_2 ?_;refine ak _ rfl (fun r1=>?_) (fun r1=>?_)
  ·
   have h1:=cu r1;have hq:=cu r1;refine w_3 ?_;refine m9 1 ?_;refine r9 2 true ?_;refine w_6 ?_
   first | (refine ⟨i + 1, ?_, ?_, ?_⟩
            · show i + 1 <= _;omega
            · first | omega | (dsimp only;omega)
            exact ⟨⟨⟨_,rfl,(bg (uj bqj))⟩,tt⟩,⟨⟨_,rfl,(bh (uj bqj) (CoP.refl _))⟩,trivial⟩⟩)
         | (refine ⟨i + 1, ?_, ?_, ?_⟩
            · show i + 1 <= _;omega
            · first | omega | (dsimp only;omega)
            exact ⟨⟨⟨_,rfl,(bi (uc bqj))⟩,tt⟩,⟨⟨_,rfl,(b8 (uc bqj))⟩,trivial⟩⟩)
  have h1:=ct r1;have hq:=ct r1;refine w_5 ?_
  first | (refine ⟨i + 1, ?_, ?_, ?_⟩
           · show i + 1 <= _;omega
           · first | omega | (dsimp only;omega)
           exact ⟨⟨⟨_,rfl,(bg (uj bqj))⟩,tt⟩,⟨⟨_,rfl,(bh (uj bqj) (CoP.refl _))⟩,trivial⟩⟩)
        | (refine ⟨i + 1, ?_, ?_, ?_⟩
           · show i + 1 <= _;omega
           · first | omega | (dsimp only;omega)
           exact ⟨⟨⟨_,rfl,(bi (uc bqj))⟩,tt⟩,⟨⟨_,rfl,(b8 (uc bqj))⟩,trivial⟩⟩)
 obtain rfl:i = l.length:=by omega
 refine w_6 ?_;refine al 4 rfl rfl rfl ?_;exact hx8 rfl rfl rfl (⟨CoC.one (CoP.refl _),trivial⟩)
def an3:goodFn br6 90:=wgx Tryz.func90
def b28 (l:List Fd) (ps:List AS) (hl:l.length <= 16777216):a6 br6 90 [pP (fdl l),pP (asl ps)] (a8 [pB (k6 l ps)]):=by
 refine hpx (nt:=10) Tryz.func90 ?_;refine w_8 ?_;refine qcx (wgx Tryz.func59) (b4b l ps hl) ?_;refine v_4 ?_;exact ⟨ccb aao,trivial⟩
end
end Go.Hx
