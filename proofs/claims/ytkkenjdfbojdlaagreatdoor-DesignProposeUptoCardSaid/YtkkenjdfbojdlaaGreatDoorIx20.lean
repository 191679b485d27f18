/- A part of the proof: V15 Cs18 V16 Cs19 V17. -/
import Derived.Test.YtkkenjdfbojdlaaGreatDoorIx19
set_option linter.all false
set_option maxRecDepth 100000
set_option maxHeartbeats 1000000
namespace Go.Hx
section
open Go.Proofs
def aww (l:List AS):cb brj 216 [.one (.ref 900 l.length)] [(900, .arr true 1 46 l.length (lf sC l))] (.v (.one (.ref 901 (jg l).length))) [(901, .arr true 1 46 (jg l).length (lf sC (jg l)))] []:=by
 refine hfx (nt:=61) Tryz.func216 ?_;refine cg ?_;refine aea 900 rfl fun hlen=>?_;refine bz ?_;refine hcd (fun h0=>?_) (fun h0=>?_)
 · refine w_5 ?_;refine jz 2 901 rfl rfl rfl rfl ?_;refine hrr ?_;have he:=aoj (l:=l) (k:=l.length) (bmp _) (fun j h1 h2=>by omega);exact ⟨_,_,rfl,bqz,gj (by rw [he]),⟨⟨_,rfl,dg he (by rw [he])⟩,trivial⟩⟩
 refine w_7 ?_;refine ae (ι:=Nat) (ka 0 kn) (kb 900 km) (fun k=>⟨[(3,some (vI k))],[]⟩) (fun k=>1 <= k /\ k <= l.length /\ ∀ j,0 < j -> j < k -> ¬ l.getD j default = l.getD (j - 1) default) (fun k=>l.length - k) (1) (⟨bmp _,by omega,fun j h1 h2=>by omega⟩) kk ?_;rintro k ⟨hk1,hk,hI⟩;refine w_8 ?_;refine hcd (fun h1=>?_) (fun h1=>?_)
 ·
  refine yf ?_;refine hcd (fun h2=>?_) (fun h2=>?_)
  ·
   refine jd ?_;refine ae (ι:=Nat × Nat × List AS) (ka 0 (ka 4 kn)) km (fun x=>⟨[(3,some (vI x.1)),(5,some (vI ((x.2.1:Int) - k)))],[(900,some (.arr true 1 46 l.length (lf sC x.2.2)))]⟩) (fun x=>CpI l k x.1 x.2.1 x.2.2) (fun x=>l.length - x.2.1) ((k,k + 1,l)) (CpI.start hk1 bqx hI (zn bqy rfl bqx)) ⟨⟨zy,⟨_,rfl,(coi br0)⟩,trivial⟩,uu⟩ ?_;rintro ⟨p,q,m⟩ hC;have hC0:=hC;obtain ⟨hml,hkq,hpq,hql,_,_⟩:=hC0;dsimp only at hC hml hkq hpq hql;refine w_8 ?_;refine hcd (fun h3=>?_) (fun h3=>?_)
   ·
    simp only [d5,ar,bmz] at h3;refine yf ?_;refine hcn (fun h4=>?_) (fun h4=>?_)
    ·
     refine a82 ?_
     first | (refine ⟨(p + 1, q + 1, m.set p (m.getD q default)), ?_, ?_, ?_⟩
              · exact hC.keep bqx (zj bqy br3 br3)
              · first | omega | (dsimp only;omega)
              exact ⟨⟨⟨_,rfl,(coi br0)⟩,⟨_,rfl,(coi br0)⟩,tt⟩,⟨⟨_,rfl,(uo id hml.symm bqx (by dsimp only;omega) br3)⟩,trivial⟩⟩)
           | (refine ⟨(p,q + 1,m), ?_, ?_, ?_⟩
              · exact hC.skip bqx (zn bqy br3 br3)
              · first | omega | (dsimp only;omega)
              exact ⟨⟨⟨_,rfl,(coi br0)⟩,⟨_,rfl,(coi br0)⟩,tt⟩,uu⟩)
    refine w_6 ?_
    first | (refine ⟨(p + 1, q + 1, m.set p (m.getD q default)), ?_, ?_, ?_⟩
             · exact hC.keep bqx (zj bqy br3 br3)
             · first | omega | (dsimp only;omega)
             exact ⟨⟨⟨_,rfl,(coi br0)⟩,⟨_,rfl,(coi br0)⟩,tt⟩,⟨⟨_,rfl,(uo id hml.symm bqx (by dsimp only;omega) br3)⟩,trivial⟩⟩)
          | (refine ⟨(p,q + 1,m), ?_, ?_, ?_⟩
             · exact hC.skip bqx (zn bqy br3 br3)
             · first | omega | (dsimp only;omega)
             exact ⟨⟨⟨_,rfl,(coi br0)⟩,⟨_,rfl,(coi br0)⟩,tt⟩,uu⟩)
   simp only [d5,ar,bmz] at h3;refine w_6 ?_;refine r9 0 true ?_;refine w_8 ?_;refine ab5 2 901 rfl rfl rfl rfl (by simp only [d5,ar,bmz];omega) rfl ?_;refine hrr ?_;have he:=(aj0 hC bqx).1;exact ⟨_,_,rfl,bqz,gj (by rw [he];simp [d5,ar]),⟨⟨_,rfl,b62 hC bqx (by simp [ar]) (by simp [d5,ar])⟩,trivial⟩⟩
  refine w_6 ?_;refine lpz (k + 1) kk ?_;refine ⟨by omega,by show k + 1 <= _;omega,fun j h1 h2=>?_⟩
  rcases bp6 (bpf h2) with h | h
  · exact hI j h1 h
  subst h;exact zj bqy rfl bqx
 refine w_6 ?_;refine jz 2 901 rfl rfl rfl rfl ?_;refine hrr ?_;have he:=aoj (l:=l) (k:=k) bqx hI;exact ⟨_,_,rfl,bqz,gj (by rw [he]),⟨⟨_,rfl,dg he (by rw [he])⟩,trivial⟩⟩
def b7h (l:List AS) (hl:l.length <= 8589934592):cb brj 169 [.one (.p (asl l))] [] (.v (.one (.ref 901 (ord l).length))) [(901, .arr true 1 46 (ord l).length (lf sC (ord l)))] []:=by
 refine hfx (nt:=10) Tryz.func169 ?_;refine w_7 ?_;refine fc9 a6c (a3f l.length false (lf sC l) bqx) trivial ?_;refine w_5 ?_;refine fc9 ark (b4d 0 _ l hl) uu ?_;refine w_4 ?_;refine fj rfl rfl rfl rfl rfl rfl (wgx Tryz.func216) ((aww (srt l)).swap 900 0) (⟨congrArg (HV.ref 0) (a90 l).symm,trivial⟩) ⟨⟨_,rfl,dg rfl (a90 l).symm⟩,trivial⟩ rfl rfl ?_;refine w_2 ?_;refine hrr ?_;exact ⟨_,_,rfl,bqz,gj (by rw [a43]),⟨⟨_,rfl,dg (a43 _).symm (by rw [a43])⟩,trivial⟩⟩
def awx (s:AS):cb brj 118 [.one (.p (asC s))] [] (.v (.one (.ref 901 (ax s).length))) [(901, .arr true 1 46 (ax s).length (lf sC (ax s)))] []:=by
 refine hfx (nt:=23) Tryz.func118 ?_;refine w_8 ?_;refine qcx zo (a9w s) ?_;refine w_2 ?_;refine hcd (fun h0=>?_) (fun h0=>?_)
 · refine w_4 ?_;refine bw 2 901 true 1 46 (lf sC []) br2 rfl (CoP.sl rfl (.inr rfl) (fun h=>h) (fun i j hi _=>absurd hi (bmq i))) (.inr rfl) rfl ?_;refine hrr ?_;exact ⟨_,_,rfl,bqz,gj (by rw [a3g h0];rfl),⟨⟨_,rfl,dg (a3g h0) (by rw [a3g h0];rfl)⟩,trivial⟩⟩
 refine w_4 ?_;refine m9 0 ?_;refine w_9 ?_;refine ae (ι:=List AS × AS) (ka 0 kn) km (fun y=>⟨[(3,some (.v (.one (.ref 0 y.1.length)))),(4,some (vA y.2))],[(0,some (.arr true 1 46 y.1.length (lf sC y.1)))]⟩) (fun y=>a8j s y) (fun y=>y.2.toNat) (([s],s)) (ais s) ⟨tt,⟨⟨_,rfl,(qi (CoP.refl _))⟩,trivial⟩⟩ ?_;rintro y hy;have hlen:=hy.2.1;have hsl:=s.isLt;refine w_6 ?_;refine hcn (fun h1=>?_) (fun h1=>?_)
 ·
  have hne:y.2 ≠ 0:=fun e=>h1 (by rw [e];rfl);refine w_5 ?_;refine rq rfl rfl rfl rfl rfl ?_ (hp:=(a0f hne));refine w_7 ?_;refine m9 1 ?_;refine r9 2 true ?_;refine w_2 ?_;refine ⟨(y.1 ++ [(y.2 - 1) &&& s],(y.2 - 1) &&& s), ?_, ?_, ?_⟩
  · exact ai7 hy hne
  · exact qw hne
  exact ⟨⟨⟨_,rfl,(bf rfl)⟩,⟨_,rfl,(bn (a0q hne))⟩,tt⟩,⟨⟨_,rfl,(bg rfl (CoP.of_eq (by rw [a0q hne];rfl)))⟩,trivial⟩⟩
 have hz:y.2 = 0:=c7.1 h1;refine w_2 ?_;refine al 3 rfl rfl rfl ?_;refine w_2 ?_;refine fc9 zk (b7h y.1 bqx) trivial ?_;refine w_2 ?_;refine hrr ?_;have he:=(ap4 hy hz).trans (af6 h0).symm;exact ⟨_,_,rfl,bqz,gj (by rw [he]),⟨⟨_,rfl,dg he.symm (by rw [he])⟩,trivial⟩⟩
end
section
def qk (l:List Fd) (p:AS):Int:=if b5 16 l = 0 then (if 8 < bsz p then 3 else if p >>> 16 = 0 then 0 else 1) else b5 16 l
def a5i (l:List Fd) (p:AS):Fd:=if qk l p = 0 then lx l p else ⟨0,0⟩
def vl (l:List Fd) (p:AS):Bool:=decide (qk l p = 0) && cz l p
def aol {f:Fd} (h:f = ⟨0,0⟩):CoC (.agg [li (.int .u32 0),li (.int .u32 0)]) f.pc:=CoC.of_eq (by rw [h];rfl)
def bix {a b:Fd} (h:a = b):CoC a.pc b.pc:=CoC.of_eq (by rw [h])
section
variable {l:List Fd} {p:AS}
def be3 (h:¬ b5 16 l = 0):qk l p = b5 16 l /\ a5i l p = ⟨0,0⟩ /\ vl l p = false:=by
 have e:qk l p = b5 16 l:=if_neg h;unfold a5i vl;rw [e];exact ⟨rfl,if_neg h,by rw [decide_eq_false h];rfl⟩
def bcc (h:b5 16 l = 0) (h2:(8:Int) < bsz p):qk l p = 3 /\ a5i l p = ⟨0,0⟩ /\ vl l p = false:=by
 have e:qk l p = 3:=by unfold qk;rw [if_pos h,if_pos bqx]
 unfold a5i vl;rw [e];exact ⟨rfl,rfl,rfl⟩
def amp {n:Nat}:(asI p).fdiv (2 ^ (min n 32)) = 0 <-> p >>> n = 0:=by
 rw [y9,show (0:Int) = asI 0 from rfl,c7]
def bgc (h:b5 16 l = 0) (h2:¬ (8:Int) < bsz p) (h3:¬ (asI p).fdiv (2 ^ (min 16 32)) = 0):qk l p = 1 /\ a5i l p = ⟨0,0⟩ /\ vl l p = false:=by
 rw [amp] at h3;have e:qk l p = 1:=by unfold qk;rw [if_pos h,if_neg bqx,if_neg h3]
 unfold a5i vl;rw [e];exact ⟨rfl,rfl,rfl⟩
def bfm (h:b5 16 l = 0) (h2:¬ (8:Int) < bsz p) (h3:(asI p).fdiv (2 ^ (min 16 32)) = 0):qk l p = 0 /\ a5i l p = lx l p /\ vl l p = cz l p:=by
 rw [amp] at h3;have e:qk l p = 0:=by unfold qk;rw [if_pos h,if_neg bqx,if_pos h3]
 unfold a5i vl;rw [e];exact ⟨rfl,rfl,rfl⟩
def bcP (n:Int) (l:List Fd) (f:Fd):Bool:=decide (f.rhs &&& ~~~f.lhs ≠ 0) && decide (clo l f.lhs ≠ a7 n)
def bcS (n:Int) (l:List Fd):Bool:=decide (b5 n l = 0) && !l.any (bcP n l)
def iz (n:Int) (l:List Fd):List AS:=if er n l 8 = 0 then (ax (a7 n)).filter fun s=>!cz l s else []
def beg {n:Int} (h:er n l 8 = 0):iz n l = (ax (a7 n)).filter fun s=>!cz l s:=if_pos h
def bdv {n:Int} (h:¬ er n l 8 = 0):iz n l = []:=if_neg h
def z6 {n m:Int} (h:er n l m = 0):b5 n l = 0 /\ n <= m:=by
 unfold er at h;split at h
 · rename_i hv
   split at h
   · cases h
   exact ⟨hv,by omega⟩
 rename_i hv;exact absurd h hv
def b0d (n:Int) (l:List Fd):(iz n l).length <= 4294967296:=by
 unfold iz;have:=uc (a7 n);split
 · exact bmy (boj _ _) this
 simp
end
end
section
open Go.Proofs
def bke (l:List Fd) (p:AS):a6 brj 157 [pP (fdl l),pA p] (a8 [(a5i l p).pc,pB (vl l p),pI (qk l p)]):=by
 refine hpx (nt:=32) Tryz.func157 ?_;refine sx7 ?_;refine m9 0 ?_;refine w_7 ?_;refine qcx wl (zz 16 l) ?_;refine w_7 ?_;refine hcn (fun h0=>?_) (fun h0=>?_)
 · refine w_8 ?_;refine hrr ?_;have he:=be3 (p:=p) h0;exact f9 rfl rfl (⟨aol he.2.1,ccb he.2.2.symm,cci he.1.symm,trivial⟩)
 refine w_5 ?_;refine qcx zo (a9w p) ?_;refine w_2 ?_;refine hcd (fun h1=>?_) (fun h1=>?_)
 · refine w_7 ?_;refine hrr ?_;have he:=bcc h0 h1;exact f9 rfl rfl (⟨aol he.2.1,ccb he.2.2.symm,cci he.1.symm,trivial⟩)
 refine w_8 ?_;refine hcn (fun h2=>?_) (fun h2=>?_)
 · refine w_7 ?_;refine hrr ?_;have he:=bgc h0 h1 h2;exact f9 rfl rfl (⟨aol he.2.1,ccb he.2.2.symm,cci he.1.symm,trivial⟩)
 refine w_5 ?_;refine qcx amd (ats l p) ?_;refine w_3 ?_;refine m9 1 ?_;refine cq ?_;refine hrr ?_;have he:=bfm h0 h1 h2;exact f9 rfl rfl (⟨bix he.2.1.symm,ccb he.2.2.symm,cci he.1.symm,trivial⟩)
def b9t (s:AS) (l:List Fd):a6 brj 146 [pA s,pP (bx (fdl l))] (a8 [pB (cz l s)]):=by
 refine hpx (nt:=13) Tryz.func146 ?_;refine w_8 ?_;refine qcx amd (ats l s) ?_;refine w_3 ?_;refine m9 0 ?_;refine v_8 ?_;exact CoL.refl _
def bgy (n:Int) (l:List Fd):a6 brj 89 [pI n,pP (fdl l)] (a8 [pP (asl (iz n l)),pI (er n l 8)]):=by
 refine hpx (nt:=18) Tryz.func89 ?_;refine sx7 ?_;refine m9 2 ?_;refine w_8 ?_;refine qcx (wgx Tryz.func76) (bdi n l) ?_;refine w_7 ?_;refine hcn (fun h0=>?_) (fun h0=>?_)
 · refine v_6 ?_;exact ⟨CoC.one (zr (bdv h0)),CoC.refl _,trivial⟩
 refine w_2 ?_;have hv:=ep (z6 h0).1;refine d8 3 rfl rfl rfl ?_;refine w_2 ?_;refine qcx alt (auu n hv.1 hv.2.1) ?_;refine fc9 a9d (awx (a7 n)) trivial ?_;refine qy ?_;refine fc9 afc ((atx (ax (a7 n)) 146 1 (fun i=>[bx (fdl l)].getD i .any) (cz l) (wgx Tryz.func146) (fun s=>b9t s l)).swap 900 901) uu ?_;refine v_3 ?_;exact ⟨CoC.one (CoP.of_eq (by rw [beg h0])),cci h0.symm,trivial⟩
end
section
def rh (l:List Fd) (p z:AS):AS:=(p &&& clo l (z &&& p)) &&& ~~~z
def fe (l:List Fd) (z p:AS):Bool:=decide (rh l p z ≠ 0)
def ag4 (l:List Fd) (ps:List AS):Nat -> AS -> AS
 | 0,z=>z
 | n + 1,z=>match ps.find? (fe l z) with
  | none=>z
  | some p=>ag4 l ps n (z ||| rh l p z)
def a57 (l:List Fd) (ps:List AS) (z:AS):AS:=ag4 l ps 4294967297 z
def yt (l:List Fd) (ps:List AS) (f:Fd):Bool:=decide (sub f.rhs (a57 l ps f.lhs))
def bd0 (l:List Fd) (p z:AS):az .andNot .u32 (az .and .u32 (asI p) (asI (clo l (z &&& p)))) (asI z) = asI (rh l p z):=by rw [fv,gl];rfl
section
variable {l:List Fd}
def bah {p z:AS}:(!decide (asI (rh l p z) = 0)) = fe l z p:=by
 unfold fe;rw [show (0:Int) = asI 0 from rfl,adc];simp
def bh8 {z m:AS} (h:m &&& ~~~z = m) (h0:m ≠ 0):z.toNat < (z ||| m).toNat:=by
 have hs:sub z (z ||| m):=ap.2 fun i _ hi=>by rw [bo9,hi];rfl
 have hle:=a1x hs
 rcases bp6 hle with h1 | h1
 · exact h1
 exfalso;apply h0;have e:z = z ||| m:=bnp h1
 apply bo5;intro i hi;have e1:=congrArg (fun s:AS=>s.getLsbD i) e;have e2:=congrArg (fun s:AS=>s.getLsbD i) h;simp only [bo9,bn4,boo] at e1 e2;have e3:(0:AS).getLsbD i = false:=by simp
 rw [e3];rw [decide_eq_true hi] at e2;clear h h0 hs hle h1 e;revert e1 e2;cases z.getLsbD i <;> cases m.getLsbD i <;> simp
def b1o {p z:AS} (h:fe l z p = true):z.toNat < (z ||| rh l p z).toNat:=by
 refine bh8 ?_ (of_decide_eq_true h);unfold rh;rw [BitVec.and_assoc,BitVec.and_self]
def abj (l:List Fd) (ps:List AS) (z0:AS) (x:Nat × List Nat × AS):Prop:=ag4 l ps x.1 x.2.2 = a57 l ps z0 /\ 4294967296 < x.1 + x.2.2.toNat /\ x.2.1.length + x.1 = 4294967297
def aod (l:List Fd) (ps:List AS) (z0:AS):abj l ps z0 (4294967297,[],z0):=by
 refine ⟨rfl, ?_, ?_⟩
 · dsimp only;omega
 dsimp only;rw [bo6]
variable {ps:List AS} {x:Nat × List Nat × AS}
def a8d {z0:AS} (h:abj l ps z0 x):0 < x.1:=by
 have:=h.2.1;have:=x.2.2.isLt;omega
def aro {z0:AS} (h:abj l ps z0 x) (hi:idx (fe l x.2.2) ps < 0):x.2.2 = a57 l ps z0:=by
 have hp:=a8d h;rw [<- h.1];obtain ⟨n,hn⟩:∃ n,x.1 = n + 1:=⟨x.1 - 1,by omega⟩;rw [hn];unfold ag4
 have:ps.find? (fe l x.2.2) = none:=by
  have hm:idx (fe l x.2.2) ps = -1:=by
   by_cases h:idx (fe l x.2.2) ps = -1
   · exact h
   obtain ⟨i,h1,_⟩:=a0k h;omega
  exact ak2 (abt hm)
 rw [this]
def aot {z0:AS} {i:Nat} (h:abj l ps z0 x) (hi:i < ps.length) (hv:fe l x.2.2 (ps.getD i default) = true) (hj:∀ j,j < i -> fe l x.2.2 (ps.getD j default) = false):
 abj l ps z0 (x.1 - 1,x.2.1 ++ [i],x.2.2 ||| rh l (ps.getD i default) x.2.2):=by
 have hp:=a8d h;have hlt:=b1o hv;obtain ⟨h1,h2,h3⟩:=h;obtain ⟨n,hn⟩:∃ n,x.1 = n + 1:=⟨x.1 - 1,by omega⟩;refine ⟨?_,by dsimp only;omega, ?_⟩
 · rw [<- h1,hn]
   have:ps.find? (fe l x.2.2) = some (ps.getD i default):=aee hi hj hv;show ag4 l ps n _ = _
   conv=>rhs;unfold ag4
   rw [this]
 dsimp only;rw [bmo,bo3];omega
def c8 (l:List Fd) (ps:List AS) (i:Nat):List Nat:=(List.range i).filter fun j=>!yt l ps (l.getD j default)
def p8 (l:List Fd) (ps:List AS):Bool:=(List.range l.length).all fun j=>yt l ps (l.getD j default)
def uj {i:Nat} (h:yt l ps (l.getD i default) = false):c8 l ps (i + 1) = c8 l ps i ++ [i]:=by
 unfold c8;rw [bod,bnv];simp only [bns,h,bqt,bpu,if_true,boh,bnn,bo1,if_false]
def uh {i:Nat} (h:yt l ps (l.getD i default) = true):c8 l ps (i + 1) = c8 l ps i:=by
 unfold c8;rw [bod,bnv];simp only [bns,h,bqt,bpu,if_true,boh,bnn,bo1,if_false]
def aid (l:List Fd) (ps:List AS) (i:Nat):(c8 l ps i).length <= i:=bmy (boj _ _) (by rw [bp3];exact bmp _)
def ac0:decide (((c8 l ps l.length).length:Int) = 0) = p8 l ps:=by
 unfold c8 p8;rw [bom,decide_eq_true_iff,bnr];constructor
 · intro h x hx
   have h0:((List.range l.length).filter fun j=>!yt l ps (l.getD j default)) = []:=boe bqx;rw [bpw] at h0;have:=h0 x hx;simpa using this
 intro h;rw [bpw.2 fun x hx=>(by rw [h x hx];decide)];rfl
def bg1 {f:Fd}:decide (az .andNot .u32 (asI f.rhs) (asI (a57 l ps f.lhs)) = 0) = yt l ps f:=decide_eq_decide.2 ig
def b9q (l:List Fd):HV.clo 247 2 (fun i=>[HV.p (bx (fdl l)), .ptr 1 0].getD i (.p .any)) = HV.clo 247 2 (fun i=>([HV.p (bx (fdl l)), .ptr 1000 0].getD i (.p .any)).ren (swp 1000 1)) :=
 congrArg (HV.clo 247 2) (funext fun i=>match i with | 0=>rfl | 1=>rfl | n + 2=>rfl)
end
end
section
open Go.Proofs
def b49 (l:List Fd) (p z:AS):a6 brj 248 [pP (fdl l),pA p,pA z] (a8 [pA (rh l p z)]):=by
 refine hpx (nt:=16) Tryz.func248 ?_;refine cq ?_;refine rc rfl rfl rfl rfl rfl rfl ur (xj l (z &&& p)) (⟨CoC.refl _,cci (fv _ _),trivial⟩) rfl rfl ?_;refine v_5 ?_;exact ⟨cci (bd0 l p z),trivial⟩
def bjn (x:AS) (l:List Fd) (z:AS):cb brj 247 [.one (.p (asC x)), .one (.p (bx (fdl l))), .one (.ptr 1000 0)] [(1000, .box [.p (asC z)])] (.v (.one (.p (.raw (.bool (fe l z x)))))) [(1000, .box [.p (asC z)])] [1000]:=by
 refine hfx (nt:=10) Tryz.func247 ?_;refine w_9 ?_;refine qcx (wgx Tryz.func248) (b49 l x z) ?_;refine w_3 ?_;refine hrr ?_;exact ⟨_,_,rfl,bqz,cob bah,uu⟩
def bkz (ps:List AS) (l:List Fd) (z:AS):cb brj 167 [.one (.p (asl ps)), .one (.clo 247 2 fun i=>[HV.p (bx (fdl l)), .ptr 1000 0].getD i (.p .any))] [(1000, .box [.p (asC z)])] (.v (.one (.p (.raw (.int .i64 (idx (fe l z) ps)))))) [(1000, .box [.p (asC z)])] [1000]:=by
 refine hfx (nt:=19) Tryz.func167 ?_;refine cg ?_;refine ca 0 rfl fun hn=>?_;refine w_3 ?_;refine db (ι:=Unit) kn (kb 1000 km) (fun _i=>⟨[],[]⟩) (fun _i=>idx (fe l z) ps = -1) ?_ ?_
 ·
  refine w_7 ?_;refine ae (ι:=Nat) (ka 0 (ka 1 (ka 7 kn))) (kb 1000 km) (fun i=>⟨[(8,some (vI i))],[]⟩) (fun i=>i <= ps.length /\ (∀ j,j < i -> fe l z (ps.getD j default) = false)) (fun i=>ps.length - i) (0) (⟨bms _,bq⟩) kk ?_;rintro i ⟨hi,hI⟩;refine w_5 ?_;refine hcd (fun h0=>?_) (fun h0=>?_)
  ·
   refine n7 ?_;refine fc9 (wgx Tryz.func247) (bjn (ps.getD i default) l z) uu ?_;refine c6 ?_;refine hcb (fun h1=>?_) (fun h1=>?_)
   · refine w_5 ?_;refine hrr ?_;exact ⟨_,_,rfl,bqz,coi (sq (i:=i) bqx hI h1).symm,uu⟩
   refine w_5 ?_;refine lpz (i + 1) kk ?_;exact ⟨by show i + 1 <= _;omega,aw hI (h1)⟩
  refine dj ?_;refine ⟨(), ?_, ?_⟩
  · exact sy fun j hj=>hI j bqx
  exact kk
 rintro _ hj;refine w_4 ?_;refine hrr ?_;exact ⟨_,_,rfl,bqz,coi hj.symm,uu⟩
def bb4 (l:List Fd) (ps:List AS) (z0:AS):a6 brj 217 [pP (fdl l),pP (asl ps),pA z0] (a8 [pA (a57 l ps z0),pP .any]):=by
 refine hpx (nt:=30) Tryz.func217 ?_;refine sx7 ?_;refine m9 0 ?_;refine m9 1 ?_;refine w_8 ?_;refine d8 3 rfl rfl rfl ?_;refine bw 8 900 true 1 3 (lf iC []) br2 rfl (CoP.sl rfl (.inr rfl) (fun h=>h) (fun i j hi _=>absurd hi (bmq i))) (.inr rfl) rfl ?_;refine ae (ι:=Nat × List Nat × AS) (ka 1 (ka 3 (ka 5 kn))) km (fun x=>⟨[(8,some (.v (.one (.ref 900 x.2.1.length))))],[(900,some (.arr true 1 3 x.2.1.length (lf iC x.2.1))),(1,some (.box [.p (asC x.2.2)]))]⟩) (fun x=>abj l ps z0 x) (fun x=>x.1) ((4294967297,[],z0)) (aod l ps z0) kk ?_;rintro x hx;have hlen:=hx.2.2;have hpos:=a8d hx;refine w_5 ?_;refine fj rfl rfl rfl rfl rfl rfl age ((bkz ps l x.2.2).swap 1000 1) (⟨CoP.refl _,b9q l,trivial⟩) uu rfl rfl ?_;refine w_8 ?_;refine hcd (fun h0=>?_) (fun h0=>?_)
 · refine cg ?_;refine al 8 rfl rfl rfl ?_;refine v_6 ?_;exact ⟨cci (congrArg asI (aro hx bqx)),CoC.one (CoP.any_of),trivial⟩
 obtain ⟨i0,hi0,hi1,hi2,hi3⟩:=a0k (p:=fe l x.2.2) (l:=ps) bqx;refine bz ?_;refine rc rfl rfl rfl rfl rfl rfl (wgx Tryz.func248) (b49 l (ps.getD i0 default) x.2.2) (⟨CoC.refl _,CoC.one (CoP.of_eq (by rw [hi0];rfl)),CoC.refl _,trivial⟩) rfl rfl ?_;refine w_7 ?_;refine m9 2 ?_;refine r9 3 true ?_;refine w_2 ?_;refine ⟨(x.1 - 1,x.2.1 ++ [i0],x.2.2 ||| rh l (ps.getD i0 default) x.2.2), ?_, ?_, ?_⟩
 · exact aot hx hi1 hi2 hi3
 · dsimp only
   omega
 exact ⟨⟨⟨_,rfl,(bf rfl)⟩,tt⟩,⟨⟨_,rfl,(bg rfl (CoP.of_eq (congrArg (fun z=>PV.raw (.int .i64 z)) hi0)))⟩,⟨_,rfl,⟨CoP.of_eq (congrArg (fun z=>PV.raw (.int .u32 z)) (bOr _ _)),trivial⟩⟩,trivial⟩⟩
def biq (l:List Fd) (ps:List AS) (z:AS):a6 brj 171 [pP (fdl l),pP (asl ps),pA z] (a8 [pA (a57 l ps z)]):=by
 refine hpx (nt:=17) Tryz.func171 ?_;refine w_9 ?_;refine qcx (wgx Tryz.func217) (bb4 l ps z) ?_;refine cq ?_;exact hx8 rfl rfl rfl (CoL.refl _)
def bij (l:List Fd) (ps:List AS) (x:Fd):a6 brj 122 [pP (fdl l),pP (asl ps),x.pc] (a8 [pB (yt l ps x)]):=by
 refine hpx (nt:=16) Tryz.func122 ?_;refine sx7 ?_;refine m9 0 ?_;refine bz ?_;refine qcx (wgx Tryz.func171) (biq l ps x.lhs) ?_;refine v_5 ?_;exact ⟨ccb bg1,trivial⟩
def b52 (l:List Fd) (ps:List AS) (hl:l.length <= 16777216):a6 brj 59 [pP (fdl l),pP (asl ps)] (a8 [pP (il (c8 l ps l.length))]):=by
 refine hpx (nt:=26) Tryz.func59 ?_;refine bz ?_;refine ca 0 rfl fun hn=>?_;refine w_6 ?_;refine bw 5 900 true 1 3 (lf iC []) br2 rfl (CoP.sl rfl (.inr rfl) (fun h=>h) (fun i j hi _=>absurd hi (bmq i))) (.inr rfl) rfl ?_;refine b7 (ka 0 (ka 1 (ka 8 (ka 9 kn)))) km (fun i=>⟨[(5,some (.v (.one (.ref 900 (c8 l ps i).length)))),(10,some (vI i))],[(900,some (.arr true 1 3 (c8 l ps i).length (lf iC (c8 l ps i))))]⟩) l.length kk ?_;rintro i hi;have hlen:=aid l ps i;refine w_5 ?_;refine hcd (fun h0=>?_) (fun h0=>?_)
 ·
  refine w_8 ?_;refine m9 0 ?_;refine w_8 ?_;refine qcx (wgx Tryz.func122) (bij l ps (l.getD i default)) ?_;refine w_2 ?_;refine aj _ rfl (fun r1=>?_) (fun r1=>?_)
  ·
   have h1:=cu r1;have hq:=cu r1;refine w_3 ?_;refine m9 1 ?_;refine r9 2 true ?_;refine w_6 ?_
   first | (refine ⟨i + 1, ?_, ?_, ?_⟩
            · show i + 1 <= _;omega
            · first | omega | (dsimp only;omega)
            exact ⟨⟨⟨_,rfl,(bf (uj bqy))⟩,tt⟩,⟨⟨_,rfl,(bg (uj bqy) (CoP.refl _))⟩,trivial⟩⟩)
         | (refine ⟨i + 1, ?_, ?_, ?_⟩
            · show i + 1 <= _;omega
            · first | omega | (dsimp only;omega)
            exact ⟨⟨⟨_,rfl,(bj (uh bqy))⟩,tt⟩,⟨⟨_,rfl,(bh (uh bqy))⟩,trivial⟩⟩)
  have h1:=ct r1;have hq:=ct r1;refine w_5 ?_
  first | (refine ⟨i + 1, ?_, ?_, ?_⟩
           · show i + 1 <= _;omega
           · first | omega | (dsimp only;omega)
           exact ⟨⟨⟨_,rfl,(bf (uj bqy))⟩,tt⟩,⟨⟨_,rfl,(bg (uj bqy) (CoP.refl _))⟩,trivial⟩⟩)
        | (refine ⟨i + 1, ?_, ?_, ?_⟩
           · show i + 1 <= _;omega
           · first | omega | (dsimp only;omega)
           exact ⟨⟨⟨_,rfl,(bj (uh bqy))⟩,tt⟩,⟨⟨_,rfl,(bh (uh bqy))⟩,trivial⟩⟩)
 obtain rfl:i = l.length:=by omega
 refine w_6 ?_;refine al 4 rfl rfl rfl ?_;exact hx8 rfl rfl rfl (⟨CoC.one (CoP.refl _),trivial⟩)
def ake:goodFn brj 90:=wgx Tryz.func90
def b1h (l:List Fd) (ps:List AS) (hl:l.length <= 16777216):a6 brj 90 [pP (fdl l),pP (asl ps)] (a8 [pB (p8 l ps)]):=by
 refine hpx (nt:=10) Tryz.func90 ?_;refine w_8 ?_;refine qcx (wgx Tryz.func59) (b52 l ps hl) ?_;refine v_4 ?_;exact ⟨ccb ac0,trivial⟩
end
end Go.Hx
