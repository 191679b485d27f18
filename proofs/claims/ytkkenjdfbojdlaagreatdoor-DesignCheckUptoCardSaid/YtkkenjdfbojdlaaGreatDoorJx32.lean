/- A part of the proof: Bz3 Hx27 Y1 Bz4 Y2. -/
import Derived.Test.YtkkenjdfbojdlaaGreatDoorJx31
set_option linter.all false
set_option maxRecDepth 100000
set_option maxHeartbeats 1000000
namespace Go.Hx
section
def ml:List AS -> Nat
 | []=>0
 | b :: l=>b.toNat + ml l
def aaf:∀ (l k:List AS),ml (l ++ k) = ml l + ml k
 | [],k=>by simp [ml]
 | b :: l,k=>by simp [ml,aaf l k];omega
def OkB (l:List AS):Prop:=ml l < 4294967296 /\ ∀ b ∈ l,b ≠ 0
section
variable {l:List AS}
def adu (h:OkB l):l.length <= 4294967296:=by
 have:∀ l:List AS,(∀ b ∈ l,b ≠ 0) -> l.length <= ml l:=by
  intro l
  induction l with
  | nil=>intro _;simp [ml]
  | cons b l ih =>
   intro h;have h1:=ih fun x hx=>h x (by simp [hx]);have h2:=a6m (h b bnp);simp only [bk5,ml];omega
 have h1:=this l h.2;have:=h.1;omega
def bcn (m:Fd) (l:List AS):ml (rdB m l) = ml l:=by
 have:∀ l:List AS,ml (l.map (hdB m)) + ml (l.flatMap (tlB m)) = ml l:=by
  intro l
  induction l with
  | nil=>rfl
  | cons b l ih =>
   rw [bkt,bml,aaf];simp only [ml];by_cases h:dt m b = true
   · have:=a90 b m.rhs
     simp only [hdB,tlB,h,if_true,ml];omega
   rw [bmy] at h;simp only [hdB,tlB,h,ml,bkr,if_false];omega
 unfold rdB;rw [aaf];exact this l
variable {m:Fd}
def atn (h:OkB l):OkB (rdB m l):=by
 refine ⟨by rw [bcn];exact h.1,fun b hb=>?_⟩;unfold rdB at hb
 rcases bjw.1 hb with hb | hb
 · obtain ⟨b0,h0,rfl⟩:=bkg.1 hb
   unfold hdB;split
   · rename_i hs;exact (sa.1 hs).2.1
   exact h.2 _ h0
 obtain ⟨b0,h0,hb⟩:=List.mem_flatMap.1 hb;unfold tlB at hb;split at hb
 · rename_i hs
   simp at hb;subst hb;exact (sa.1 hs).2.2
 cases hb
def agh (rest:AS):OkB (jo rest):=by
 unfold jo;split
 · exact ⟨by simp [ml],fun _ h=>by cases h⟩
 rename_i h;exact ⟨by simp only [ml];have:=rest.isLt;omega,fun b hb=>by simp at hb;subst hb;exact h⟩
def a8a {rest:AS} (h:¬ rest = 0):jo rest = [] ++ [rest]:=by rw [jo,if_neg h];rfl
def a6u {rest:AS} (h:rest = 0):jo rest = []:=by rw [jo,if_pos h]
def a9p (m:Fd) (l:List AS):stB m l 0 = l:=by simp [stB]
def a1f (m:Fd) (l:List AS):stB m l l.length = rdB m l:=by simp [stB,rdB]
def um (m:Fd) (l:List AS) (i:Nat):((l.take i).map (hdB m)).length = min i l.length:=by simp
variable {i:Nat}
def b70 (h:i < l.length):(stB m l i).getD i default = l.getD i default:=by
 have e:((l.take i).map (hdB m)).length = i:=by rw [um];omega
 unfold stB;rw [bkn,bjd,bl0 (by rw [e];omega),e,Nat.sub_self,bl2 (by rw [bkz];omega),blp,blw,<- bjd]
def stB_get' {a:Nat} (hia:i <= a) (h:a < l.length):(stB m l i).getD a default = l.getD a default:=by
 have e:((l.take i).map (hdB m)).length = i:=by rw [um];omega
 unfold stB;rw [bkn,bjd,bl0 (by rw [e];omega),e,bl2 (by rw [bkz];omega),blp,show i + (a - i) = a by omega,<- bjd]
def aqn (m:Fd) (l:List AS) (i:Nat):l.length <= (stB m l i).length:=by
 unfold stB;rw [bjj,bjj,um,bkz];omega
def ago (h:i < l.length):l.drop i = l.getD i default :: l.drop (i + 1):=by
 rw [bmh h];congr 1;simp [bjd,bjc h]
def o7 (h:i < l.length) (hs:dt m (l.getD i default) = false):stB m l (i + 1) = stB m l i:=by
 unfold stB;rw [au h,bln,bn4,ago h];simp only [bkt,bmz,bml,List.flatMap_nil,hdB,tlB,hs,bkr,if_false,bkd,bkn,bmb,bn6]
def ahi (h:i < l.length) (hs:dt m (l.getD i default) = true):stB m l (i + 1) = (stB m l i).set i (l.getD i default &&& m.rhs) ++ [l.getD i default &&& ~~~m.rhs]:=by
 have e:((l.take i).map (hdB m)).length = i:=by rw [um];omega
 unfold stB;rw [au h,bln,bn4,ago h];simp only [bkt,bmz,bml,List.flatMap_nil,hdB,tlB,hs,if_true,bkd];generalize hA:(l.take i).map (hdB m) = A at e ⊢;generalize (l.take i).flatMap (tlB m) = B;generalize l.drop (i + 1) = D;subst e;rw [bkn A,bkn A,bkn A,List.set_append_right _ _ (bjg _),Nat.sub_self,bkn A];simp
def bcd (m:Fd) (l:List AS):∀ i,(stB m l i).length <= (rdB m l).length:=by
 intro i;by_cases hi:i < l.length
 · have:∀ k,i + k <= l.length -> (stB m l i).length <= (stB m l (i + k)).length:=by
    intro k
    induction k with
    | zero=>intro _;exact bjg _
    | succ k ih =>
     intro hk;have h1:=ih bnl;refine bjr h1 ?_;cases hs:dt m (l.getD (i + k) default)
     · rw [show i + (k + 1) = i + k + 1 by omega,o7 bnl hs];exact bjg _
     rw [show i + (k + 1) = i + k + 1 by omega,ahi bnl hs,bjj,blo];omega
   have h2:=this (l.length - i) bnl;rw [show i + (l.length - i) = l.length by omega,a1f] at h2;exact h2
 unfold stB rdB;rw [List.take_of_length_le bnl,bnb bnl];simp
def a6f (l:List AS) (i:Nat):Nat -> Nat -> PV:=fun k c=>if k < i then .any else sC (l.getD k default) c
def b8f (l:List AS) (i:Nat):a6f l i i 0 = asC (l.getD i default):=by
 unfold a6f;rw [if_neg (bmt i)]
def a6q {cl:Bool} {n:Nat} (hn:n = l.length):CoP (.sl n 1 cl (a6f l i)) (.sl l.length 1 false (a6f l (i + 1))):=by
 subst hn;refine CoP.sl rfl (.inl rfl) (fun h=>by cases h) fun k c hk hc=>?_;unfold a6f;by_cases h1:k < i
 · rw [if_pos h1,if_pos (show k < i + 1 by omega)];exact CoP.refl _
 rw [if_neg h1];by_cases h2:k < i + 1
 · rw [if_pos h2];exact CoP.any_of
 rw [if_neg h2];exact CoP.refl _
def aka {L:List AS} {k:Nat} {v:PV} (hil:i < L.length) (hk:k = i:=by rfl):CoP (.sl L.length 1 false (en (lf sC (stB m L i)) k 0 [v])) (.sl L.length 1 false (a6f L (i + 1))):=by
 subst hk;refine CoP.sl rfl (.inl rfl) (fun h=>h) fun a c ha hc=>?_;obtain rfl:c = 0:=by omega
 unfold a6f;by_cases h:a < k + 1
 · rw [if_pos h];exact CoP.any_of
 rw [if_neg h];unfold en lf;rw [if_neg bnl,stB_get' bnl ha];exact CoP.refl _
def auk {A B:List AS} {a:Nat} (h:a < A.length):(A ++ B).getD a default = A.getD a default:=by simp [bjd,bl2 h]
def atl {A:List AS} {x:AS}:(A ++ [x]).getD A.length default = x:=by simp [bjd]
def wv {wr wr':Bool} {e:TypeId} {L:List AS} {k:Nat} {u:Int} {g:Nat -> Nat -> PV} (hil:i < L.length) (hs:dt m (L.getD i default) = true) (hk:k = i) (hu:u = asI (L.getD i default &&& m.rhs)) (hg:CoP (g 0 0) (asC (L.getD i default &&& ~~~m.rhs))) (hw:wr' = true -> wr = true:=by exact fun h=>h):
 CoO (.arr wr 1 e ((stB m L i).length + 1) (fe (stB m L i).length (en (lf sC (stB m L i)) k 0 [.raw (.int .u32 u)]) g)) (.arr wr' 1 e (stB m L (i + 1)).length (lf sC (stB m L (i + 1)))):=by
 subst hk hu;have hl:=aqn m L k;rw [ahi hil hs];refine ⟨hw,rfl,rfl,by rw [bjj,blo];rfl,fun a j ha hj=>?_⟩;obtain rfl:j = 0:=by omega
 unfold fe;generalize L.getD k default &&& m.rhs = X;generalize L.getD k default &&& ~~~m.rhs = Y at hg ⊢;generalize stB m L k = A at hl ha ⊢;by_cases h:a < A.length
 · rw [if_pos h]
   refine CoP.of_eq ?_;show en (lf sC A) k 0 [.raw (.int .u32 (asI X))] a 0 = sC ((A.set k X ++ [Y]).getD a default) 0;rw [auk (by rw [blo];exact h)];unfold en lf;by_cases h2:a = k
   · subst h2
     rw [if_pos ⟨rfl,bjg _,by simp⟩,nq h];rfl
   rw [if_neg bnl,getD_set_ne' h2]
 obtain rfl:a = A.length:=by omega
 rw [if_neg h,Nat.sub_self];show CoP (g 0 0) (sC ((A.set k X ++ [Y]).getD A.length default) 0);have:=atl (A:=A.set k X) (x:=Y);rw [blo] at this;rw [this];exact hg
variable {ms:List Fd}
def a3n {j:Nat} (h:j < ms.length):cg (ms.take (j + 1)) l = rdB (ms.getD j default) (cg (ms.take j) l):=by
 unfold cg;rw [au h,bki];rfl
def aof:∀ (ms:List Fd) (m:Fd) (l:List AS),m7 (ms ++ [m]) l = (m7 ms l || (cg ms l).any (dt m))
 | [],m,l=>by simp [m7,cg]
 | k :: ms,m,l=>by
  simp only [bmb,m7];rw [aof ms m (rdB k l),Bool.or_assoc];rfl
def aj8 {j:Nat} (h:j < ms.length):m7 (ms.take (j + 1)) l = (m7 (ms.take j) l || (cg (ms.take j) l).any (dt (ms.getD j default))):=by
 rw [au h,aof]
def a7n (h:OkB l):∀ {ms:List Fd},OkB (cg ms l):=by
 intro ms
 induction ms generalizing l with
 | nil=>exact h
 | cons m ms ih=>exact ih (atn h)
structure BkI (ms:List Fd) (R:List AS) (x:Nat × List AS × Bool):Prop where
 ok:OkB x.2.1
 t:x.2.2 = true -> xd ms x.1 x.2.1 = R /\ muB x.2.1 < x.1
 f:x.2.2 = false -> x.2.1 = R
def axi (ms:List Fd) (rest:AS):BkI ms (blks ms rest) (18446744073709551616,jo rest,true):=⟨agh rest,fun _=>⟨rfl,agj rest⟩,fun h=>by cases h⟩
def b3y {R:List AS} {f:Nat} (h:BkI ms R (f,l,true)):BkI ms R (f - 1,cg ms l,m7 ms l) /\ 0 < f:=by
 obtain ⟨h1,h2⟩:=h.t rfl;have h2:muB l < f:=h2;obtain ⟨g,rfl⟩:∃ g,f = g + 1:=⟨f - 1,by omega⟩;have h3:=aee ms l;refine ⟨⟨a7n h.ok,fun hc=>?_,fun hc=>?_⟩,by omega⟩
 · have hc:m7 ms l = true:=hc
   have h1:xd ms (g + 1) l = R:=h1;unfold xd at h1;rw [if_pos hc] at h1 h3;exact ⟨h1,by show muB (cg ms l) < g;omega⟩
 have hc:m7 ms l = false:=hc;have h1:xd ms (g + 1) l = R:=h1;unfold xd at h1;rw [hc] at h1;exact h1
def ckB (n:Int) (l m:List Fd) (s:AS):Int:=if be n l m = 0 then (if s >>> n.toNat = 0 then 0 else 1) else be n l m
def b1s {n:Int} {l m:List Fd} {s:AS} (h:¬ be n l m = 0):ckB n l m s = be n l m:=if_neg h
def b1h {n:Int} {l m:List Fd} {s:AS} (h:be n l m = 0) (h2:¬ s >>> n.toNat = 0):ckB n l m s = 1:=by unfold ckB;rw [if_pos h,if_neg h2]
def arm {n:Int} {l m:List Fd} {s:AS} (h:be n l m = 0) (h2:s >>> n.toNat = 0):ckB n l m s = 0:=by unfold ckB;rw [if_pos h,if_pos h2]
def acv {n:Int} {l m:List Fd} {s:AS} (h:ckB n l m s = 0):be n l m = 0 /\ s >>> n.toNat = 0:=by
 unfold ckB at h;split at h
 · split at h
   · exact ⟨by assumption,by assumption⟩
   cases h
 exact absurd h bnm
def ao4 (f:Fd):(sgl f).length <= 32:=by unfold sgl;rw [bk0];exact n8 _
def lg (fs ms:List Fd) (i k:Nat):List Fd:=ms ++ (fs.take i).flatMap sgl ++ (sgl (fs.getD i default)).take k
def afo (fs ms:List Fd):lg fs ms 0 0 = ms:=by simp [lg]
variable {fs:List Fd}
def au7 (h:i < fs.length):lg fs ms (i + 1) 0 = lg fs ms i (sgl (fs.getD i default)).length:=by
 unfold lg;rw [au h,bn4,bjk];simp
def b12 (fs ms:List Fd):lg fs ms fs.length 0 = ju fs ms:=by simp [lg,ju]
def auw {k:Nat} (h:k < (sgl (fs.getD i default)).length):lg fs ms i (k + 1) = lg fs ms i k ++ [(sgl (fs.getD i default)).getD k default]:=by
 unfold lg;rw [au h,<- bkn]
def axh {k:Nat}:(lg fs ms i k).length <= ms.length + 32 * (i + 1):=by
 have:∀ l:List Fd,(l.flatMap sgl).length <= 32 * l.length:=by
  intro l
  induction l with
  | nil=>simp
  | cons f l ih =>
   rw [bml,bjj,bk5];have:=ao4 f;omega
 have h1:=this (fs.take i);have h2:=ao4 (fs.getD i default);unfold lg;rw [bjj,bjj,bjn];rw [bjn] at h1;omega
end
end
section
open Go.RowKit
section
variable {ro:Option Nat} {P:Program} {nt:Nat} {st:HSt} {Q:Exit -> HSt -> Prop}
def ve {w0:World} {cc:Ctx} {a:Act} {w:World} (hrr:ai w0 nt cc st.den a w) {d:Nat} {x:HR} (hx:ap cc st.den.o x (a.tmps.getD d undef)):ai w0 nt cc (HSt.den ⟨(d,some x) :: st.t,st.o⟩) a w:=by
 refine ⟨hrr.defers,hrr.size,hrr.below,fun k y hy=>?_,hrr.objs,hrr.inj,hrr.imm,hrr.sep,hrr.was,hrr.frm,hrr.fsep,hrr.fixed⟩;simp only [HSt.den] at hy;rw [bo] at hy;dsimp only at hy;split at hy
 · rename_i hk
   subst hk;simp only [bjb] at hy;subst hy;exact hx
 exact hrr.tmps k y hy
section
variable {f:Nat -> Nat -> PV}
def azf {c:Code} (d:Nat) {id n n' s:Nat} {wr:Bool} {e:TypeId} (hd:bc st.t d = some (.v (.one (.ref id n)))) (ho:bc st.o id = some (.arr wr s e n' f)) (hn:n' = n) (h:HW (ro:=ro) P nt c ⟨(d,some (.v (.one (.win id n 0 n)))) :: st.t,st.o⟩ Q):HW (ro:=ro) P nt c st Q:=by
 subst hn;refine wz st d _ (fun w0 m0 a w hr=>?_) h;obtain ⟨cc,hold,hrr⟩:=hr;refine ⟨cc,hold,hrr, ?_⟩;have hu:bf cc st.den.o (.ref id n') (a.tmps.getD d undef):=hrr.tmps d _ hd;refine ⟨hu.1,hu.2.1,fun ob s2 e2 n2 ho2 hd2=>⟨(hu.2.2 _ _ _ _ ho2 hd2).1,fun hk=>?_⟩⟩;have he:=(hu.2.2 _ _ _ _ ho2 hd2).2 hk;obtain rfl:ob = .arr wr s e n' f:=Option.some.inj (ho2.symm.trans ho);simp only [aa.dim,bjb,bjl] at hd2;obtain ⟨rfl,rfl,rfl⟩:=hd2;obtain ⟨ad,cap,hv,hc1,hc2⟩:=y5 (hrr.objs _ _ ho2);exact ⟨ad,ad,cap,hv,by rw [he,hv];rfl,by omega,hc1,hc2,fun _=>by cases ad <;> simp [nf]⟩
def b78 {c:Code} (d dh:Nat) {id n n' n0 k s:Nat} {e:TypeId} (hd:bc st.t d = some (.v (.one (.ref id n)))) (hh:bc st.t dh = some (.v (.one (.win id k 0 n0)))) (ho:bc st.o id = some (.arr true s e n' f)) (hn:n' = n) (hk:k = n) (hne:Nat.beq d dh = false) (hA:∀ ad cap,n + 1 <= cap -> HW (ro:=ro) P nt c ⟨(d,some (.v (.one (.pin id n ad cap)))) :: (dh,some (bi (.raw (.slice ad n0 cap)))) :: st.t,st.o⟩ Q) (hB:HW (ro:=ro) P nt c ⟨(d,some (bi (.sl n s true f))) :: (dh,some (bi (.sl n0 s false f))) :: st.t,(id,none) :: st.o⟩ Q):HW (ro:=ro) P nt c st Q:=by
 subst hn hk;intro w0 m0 a w hr;obtain ⟨cc,hold,hrr⟩:=hr;have hu:bf cc st.den.o (.ref id k) (a.tmps.getD d undef):=hrr.tmps d _ hd;have hv:bf cc st.den.o (.win id k 0 n0) (a.tmps.getD dh undef):=hrr.tmps dh _ hh;obtain ⟨ad,ad',cap,q1,q2,q3,q4,q5,q6⟩:=yd hv ho rfl;have hu1:=(hu.2.2 _ _ _ _ ho rfl).2 rfl;by_cases hc:k + 1 <= cap
 · obtain rfl:ad' = ad:=by
    rw [q6 bnl];cases ad <;> simp [nf]
   refine hA ad' cap hc w0 m0 a w ⟨cc,hold, ?_⟩;have h1:ai w0 nt cc (HSt.den ⟨(dh,some (bi (.raw (.slice ad' n0 cap)))) :: st.t,st.o⟩) a w:=ve hrr ⟨by simpa using q2,rfl⟩;refine ve (st:=⟨(dh,some (bi (.raw (.slice ad' n0 cap)))) :: st.t,st.o⟩) h1 ⟨hu1.trans q1,hu.2.1,hu.2.2⟩
 obtain rfl:cap = k:=by omega
 have hfr:=hrr.freeze (id:=id) ho;rw [<- s5] at hfr;refine hB w0 m0 a w ⟨{ old:=cc.old,imm:=frozenImm cc w id,tab:=xw hrr ho,own:=cc.own,blk:=cc.blk,rows:=cc.rows },hold, ?_⟩;have hfa:=po hrr ho;have h1:=ve (st:=⟨st.t,(id,none) :: st.o⟩) (d:=dh) (x:=bi (.sl n0 s false fun a b=>f (0 + a) b)) hfr (acq hrr ho hv);have e0:(fun a b=>f (0 + a) b) = f:=by funext a b;rw [bk6]
 rw [e0] at h1;refine ve (st:=⟨(dh,some (bi (.sl n0 s false f))) :: st.t,(id,none) :: st.o⟩) h1 ?_;rw [hu1];obtain ⟨A,C,r1,r2,r3,r4,r5⟩:=hfa;refine ⟨A,C,r1,r2,r3,fun _=>?_,r5⟩;rw [q1] at r1;simp only [Value.slice.injEq,true_and] at r1;exact r1.2.symm
def azd {c:Code} (d dh:Nat) {id n n' n0 s cap:Nat} {ad:Option Addr} {e:TypeId} (hd:bc st.t d = some (.v (.one (.pin id n ad cap)))) (hh:bc st.t dh = some (bi (.raw (.slice ad n0 cap)))) (ho:bc st.o id = some (.arr true s e n' f)) (hn:n' = n) (hle:n0 <= n) (hne:Nat.beq d dh = false) (h:HW (ro:=ro) P nt c ⟨(d,some (.v (.one (.ref id n)))) :: (dh,some (.v (.one (.win id n 0 n0)))) :: st.t,st.o⟩ Q):HW (ro:=ro) P nt c st Q:=by
 subst hn;intro w0 m0 a w hr;obtain ⟨cc,hold,hrr⟩:=hr;have hu:bf cc st.den.o (.pin id n' ad cap) (a.tmps.getD d undef):=hrr.tmps d _ hd;have hv:bf cc st.den.o (.p (.raw (.slice ad n0 cap))) (a.tmps.getD dh undef):=hrr.tmps dh _ hh;obtain ⟨hv1,_⟩:=hv;have hu1:=(hu.2.2 _ _ _ _ ho rfl).2 rfl;refine h w0 m0 a w ⟨cc,hold, ?_⟩
 have h1:ai w0 nt cc (HSt.den ⟨(dh,some (.v (.one (.win id n' 0 n0)))) :: st.t,st.o⟩) a w:=by
  refine ve hrr ⟨by rw [hv1];rfl,hu.2.1,fun ob s2 e2 n2 ho2 hd2=>⟨(hu.2.2 _ _ _ _ ho2 hd2).1,fun hk=>?_⟩⟩;obtain rfl:ob = .arr true s e n' f:=Option.some.inj (ho2.symm.trans ho);simp only [aa.dim,bjb,bjl] at hd2;obtain ⟨rfl,rfl,rfl⟩:=hd2;obtain ⟨ad2,cap2,g1,g2,g3⟩:=y5 (hrr.objs _ _ ho2);have hown:cc.own id = .slice ad n' cap:=hu1.symm.trans hu.1;rw [hown] at g1;simp only [Value.slice.injEq,true_and] at g1;obtain ⟨rfl,rfl⟩:=g1;exact ⟨ad,ad,cap,hown,hv1,by omega,g2,g3,fun _=>by cases ad <;> simp [nf]⟩
 exact ve (st:=⟨(dh,some (.v (.one (.win id n' 0 n0)))) :: st.t,st.o⟩) h1 ⟨by rw [hu.1];rfl,hu.2.1,hu.2.2⟩
end
end
end
section
open Go.Proofs
def ug {a b:AS} (h:al .and .u32 (asI a) (asI b) = 0):a &&& b = 0:=c8.1 ((fc a b).symm.trans h)
def oz {a b:AS} (h:¬ al .and .u32 (asI a) (asI b) = 0):¬ a &&& b = 0:=fun e=>h ((fc a b).trans (congrArg asI e))
def are {a b:AS} (h:al .andNot .u32 (asI a) (asI b) = 0):a &&& ~~~b = 0:=c8.1 ((gk a b).symm.trans h)
def ai0 {a b:AS} (h:¬ al .andNot .u32 (asI a) (asI b) = 0):¬ a &&& ~~~b = 0:=fun e=>h ((gk a b).trans (congrArg asI e))
def a80 {m:Fd} {x:AS} (h:¬ x &&& m.lhs = 0):dt m x = false:=by unfold dt;rw [decide_eq_false h];rfl
def a6t {m:Fd} {x:AS} (h:x &&& m.rhs = 0):dt m x = false:=by simp [dt,h]
def am5 (a b:AS):decide (al .and .u32 (asI a) (asI b) = 0) = decide (a &&& b = 0):=by
 by_cases h:al .and .u32 (asI a) (asI b) = 0
 · rw [decide_eq_true h,decide_eq_true (ug h)]
 rw [decide_eq_false h,decide_eq_false (oz h)]
def bc2 (a b:AS):decide (al .andNot .u32 (asI a) (asI b) = 0) = decide (a &&& ~~~b = 0):=by
 by_cases h:al .andNot .u32 (asI a) (asI b) = 0
 · rw [decide_eq_true h,decide_eq_true (are h)]
 rw [decide_eq_false h,decide_eq_false (ai0 h)]
def a7i (m:Fd) (x:AS):(bif (bif decide (al .and .u32 (asI x) (asI m.lhs) = 0) then !decide (al .and .u32 (asI x) (asI m.rhs) = 0) else false) then !decide (al .andNot .u32 (asI x) (asI m.rhs) = 0) else false) = dt m x:=by
 rw [am5,am5,bc2];unfold dt;by_cases h1:x &&& m.lhs = 0 <;> by_cases h2:x &&& m.rhs = 0 <;> by_cases h3:x &&& ~~~m.rhs = 0 <;> simp only [h1,h2,h3,decide_true,decide_false,ne_eq,not_true_eq_false,not_false_eq_true,bmm,bnh,cond_true,cond_false,Bool.and_self,Bool.and_true,blm,bnj,Bool.false_and]
def wd {m:Fd} {l:List AS} {i:Nat} (c:Bool) (h:i < l.length) (hs:dt m (l.getD i default) = true):true = (c || (l.take (i + 1)).any (dt m)):=by
 rw [au h,List.any_append];simp only [List.any_cons,List.any_nil,hs,Bool.or_true,Bool.or_false]
def a6g {m:Fd} {l:List AS} {i:Nat} (c:Bool) (h:i < l.length) (hs:dt m (l.getD i default) = false):(c || (l.take i).any (dt m)) = (c || (l.take (i + 1)).any (dt m)):=by
 rw [au h,List.any_append];simp only [List.any_cons,List.any_nil,hs,Bool.or_true,Bool.or_false]
def as3 (x:Nat × List AS × Bool):Nat:=x.1 + (bif x.2.2 then 1 else 0)
def b8o {f:Nat} {l l':List AS} {c:Bool} (h:0 < f):as3 (f - 1,l',c) < as3 (f,l,true):=by
 cases c <;> simp only [as3,cond_true,cond_false] <;> omega
def aq4 (n:Int) (ms:List Fd) (x:AS) (h0:0 <= n) (h1:n <= 16):a6 bo6 188 [pI n,pP (fdl ms),pA x] (a7 [pP (asl (ord (blks ms (a8 n &&& ~~~x))))]):=by
 refine hpx (nt:=76) Tryz.func188 ?_;refine c6 1 rfl fun hn=>?_;have hrest:al .andNot .u32 (IntKind.wrap .u32 (1 * 2 ^ (min n.toNat 32)) - 1) (asI x) = asI (a8 n &&& ~~~x):=by rw [tn h0 h1,gk]
 refine w_8 ?_;refine cb 7 900 true 1 46 (lf sC []) bns rfl (CoP.sl rfl (.inr rfl) (fun h=>h) (fun i j hi _=>absurd hi (bjh i))) (.inr rfl) rfl ?_;refine kx (ka 1 kn) km ⟨[(7,some (.v (.one (.ref 900 (jo (a8 n &&& ~~~x)).length))))],[(900,some (.arr true 1 46 (jo (a8 n &&& ~~~x)).length (lf sC (jo (a8 n &&& ~~~x)))))]⟩ ?_ ?_
 ·
  refine w_4 ?_;refine rq rfl rfl rfl rfl rfl ?_ (hp:=⟨yr h0 h1,x5 h0 h1⟩);refine w_9 ?_;refine hcn (fun h0=>?_) (fun h0=>?_)
  · have hne:¬ (a8 n &&& ~~~x) = 0:=fun e=>h0 (hrest.trans (congrArg asI e));refine w_3 ?_;refine m9 0 ?_;refine r9 1 true ?_;refine w_2 ?_;exact ⟨⟨⟨_,rfl,(by first | exact bv (a8a hne) | exact bz (a6u hz))⟩,tt⟩,⟨⟨_,rfl,(by first | exact bt (a8a hne) (CoP.of_eq (congrArg (fun z=>PV.raw (.int .u32 z)) hrest)) | exact bq (a6u hz))⟩,trivial⟩⟩
  have hz:(a8 n &&& ~~~x) = 0:=c8.1 (hrest.symm.trans h0);refine d6 ?_;exact ⟨⟨⟨_,rfl,(by first | exact bv (a8a hne) | exact bz (a6u hz))⟩,tt⟩,⟨⟨_,rfl,(by first | exact bt (a8a hne) (CoP.of_eq (congrArg (fun z=>PV.raw (.int .u32 z)) hrest)) | exact bq (a6u hz))⟩,trivial⟩⟩
 refine w_6 ?_;refine ae (ι:=(Nat × List AS × Bool)) (ka 1 kn) km (fun y=>⟨[(7,some (.v (.one (.ref 900 y.2.1.length)))),(9,some (vB y.2.2))],[(900,some (.arr true 1 46 y.2.1.length (lf sC y.2.1)))]⟩) (fun y=>BkI ms (blks ms (a8 n &&& ~~~x)) y) (fun y=>as3 y) ((18446744073709551616,jo (a8 n &&& ~~~x),true)) (axi ms (a8 n &&& ~~~x)) kk ?_;rintro ⟨f,l,ag⟩ hI;refine w_5 ?_;refine ak _ rfl (fun r1=>?_) (fun r1=>?_)
 ·
  have h1:=r1;obtain rfl:ag = true:=r1;obtain ⟨hI2,hf⟩:=b3y hI;have hok:=hI.ok;refine j9 ?_;refine bg (ka 1 (ka 26 (ka 27 kn))) km (fun j=>⟨[(7,some (.v (.one (.ref 900 (cg (ms.take j) l).length)))),(9,some (vB (m7 (ms.take j) l))),(28,some (vI j))],[(900,some (.arr true 1 46 (cg (ms.take j) l).length (lf sC (cg (ms.take j) l))))]⟩) ms.length ⟨⟨zy,⟨_,rfl,(CoR.refl _)⟩,tt⟩,uu⟩ ?_;rintro j hj;have hokj:OkB (cg (ms.take j) l):=a7n hok;have hlj:=adu (atn (m:=(ms.getD j default)) hokj);refine w_5 ?_;refine hcd (fun h2=>?_) (fun h2=>?_)
  ·
   refine w_7 ?_;refine m9 2 ?_;refine w_9 ?_;refine azf 32 rfl rfl rfl ?_;refine ae (ι:=(Nat × Bool)) (ka 1 (ka 11 (ka 26 (ka 27 (ka 28 (ka 33 kn)))))) (kb 2 km) (fun y=>⟨[(7,some (.v (.one (.ref (bif y.2 then 900 else 951) (stB (ms.getD j default) (cg (ms.take j) l) y.1).length)))),(9,some (vB (m7 (ms.take j) l || ((cg (ms.take j) l).take y.1).any (dt (ms.getD j default))))),(34,some (vI y.1)),(32,some (bif y.2 then .v (.one (.win 900 (stB (ms.getD j default) (cg (ms.take j) l) y.1).length 0 (cg (ms.take j) l).length)) else bi (.sl (cg (ms.take j) l).length 1 false (a6f (cg (ms.take j) l) y.1))))],[(bif y.2 then 900 else 951,some (.arr true 1 46 (stB (ms.getD j default) (cg (ms.take j) l) y.1).length (lf sC (stB (ms.getD j default) (cg (ms.take j) l) y.1))))]⟩) (fun y=>y.1 <= (cg (ms.take j) l).length) (fun y=>(cg (ms.take j) l).length - y.1) ((0,true)) (bji _) ⟨⟨⟨_,rfl,(bz (a9p _ _))⟩,⟨_,rfl,(cob bnp)⟩,⟨_,rfl,(CoR.refl _)⟩,⟨_,rfl,(CoR.of_eq (by rw [a9p];rfl))⟩,trivial⟩,⟨⟨_,rfl,(bq (a9p _ _))⟩,trivial⟩⟩ ?_;rintro ⟨i,b⟩ hi;have hi:i <= (cg (ms.take j) l).length:=hi;have hsl:=bcd (ms.getD j default) (cg (ms.take j) l) i;have hsl2:=aqn (ms.getD j default) (cg (ms.take j) l) i
   rcases b with _ | _
   ·
    show HW _ _ _ ⟨_ :: _,_⟩ _;refine w_5 ?_;refine hcd (fun h3=>?_) (fun h3=>?_)
    ·
     have hil:i < (cg (ms.take j) l).length:=by omega
     refine w_7 ?_;refine rq (out:=⟨_, .v (.one (.p (asC ((cg (ms.take j) l).getD i default))))⟩) rfl rfl rfl (congrArg (fun z=>some (Out.mk _ (HR.v (HC.one (HV.p z))))) (b8f (cg (ms.take j) l) i)) rfl ?_;refine w_3 ?_;refine kx (ka 1 (ka 7 (ka 9 (ka 11 (ka 12 (ka 13 (ka 26 (ka 27 (ka 28 (ka 32 (ka 33 (ka 34 kn)))))))))))) (kb 2 km) ⟨[(57,some (vB (dt (ms.getD j default) ((cg (ms.take j) l).getD i default))))],[(951,some (.arr true 1 46 (stB (ms.getD j default) (cg (ms.take j) l) i).length (lf sC (stB (ms.getD j default) (cg (ms.take j) l) i))))]⟩ ?_ ?_
     ·
      refine w_7 ?_;refine ah rfl rfl (fun r4=>?_) (fun r4=>?_)
      ·
       have h4:=tz1 r4;have g1:((cg (ms.take j) l).getD i default) &&& (ms.getD j default).lhs = 0:=ug h4;(iterate 5 refine qy ?_ (hg:=(gtt r4)));refine w_2 ?_;refine ah rfl rfl (fun r5=>?_) (fun r5=>?_)
       ·
        have h5:=tz2 (cj (bn r4 r5));have g2:¬ ((cg (ms.take j) l).getD i default) &&& (ms.getD j default).rhs = 0:=oz h5;(iterate 5 refine qy ?_ (hg:=(gtt r5)));refine w_2 ?_
        exact ⟨⟨⟨_,rfl,(cob (by first | exact a7i _ _ | exact (a80 g1).symm | exact (a6t g2).symm))⟩,tt⟩,uu⟩
       have h5:=tz1 (ck (bn r4 r5));have g2:((cg (ms.take j) l).getD i default) &&& (ms.getD j default).rhs = 0:=ug h5;(iterate 5 refine k9 (gft r5) ?_);refine rq rfl rfl rfl rfl rfl ?_ (hp:=r5);refine c5 ?_
       exact ⟨⟨⟨_,rfl,(cob (by first | exact a7i _ _ | exact (a80 g1).symm | exact (a6t g2).symm))⟩,tt⟩,uu⟩
      have h4:=tz2 r4;have g1:¬ ((cg (ms.take j) l).getD i default) &&& (ms.getD j default).lhs = 0:=oz h4;(iterate 5 refine k9 (gft r4) ?_);refine rq rfl rfl rfl rfl rfl ?_ (hp:=r4);refine qy ?_;(iterate 5 refine k9 rfl ?_);refine w_2 ?_
      exact ⟨⟨⟨_,rfl,(cob (by first | exact a7i _ _ | exact (a80 g1).symm | exact (a6t g2).symm))⟩,tt⟩,uu⟩
     refine ak _ rfl (fun r6=>?_) (fun r6=>?_)
     ·
      have h6:=r6;have hs:dt (ms.getD j default) ((cg (ms.take j) l).getD i default) = true:=r6;have hl2:(stB (ms.getD j default) (cg (ms.take j) l) (i + 1)).length = (stB (ms.getD j default) (cg (ms.take j) l) i).length + 1:=by rw [ahi hil hs,bjj,blo];rfl
      refine aj2 ?_;refine m9 3 ?_;refine r9 4 true ?_;refine w_9 ?_
      first | (refine ⟨(i + 1, false), ?_, ?_, ?_⟩
               · show i + 1 <= _;omega
               · first | omega | (dsimp only;omega)
               exact ⟨⟨⟨_,rfl,(CoR.of_eq (congrArg (fun z=>HR.v (.one (.ref 951 z))) hl2.symm))⟩,⟨_,rfl,(cob (wd _ hil hs))⟩,⟨_,rfl,(CoR.refl _)⟩,⟨_,rfl,(CoC.one (a6q rfl))⟩,tt⟩,⟨⟨_,rfl,(wv hil hs rfl (fc _ _) (CoP.of_eq (congrArg (fun z=>PV.raw (.int .u32 z)) (gk _ _))))⟩,uu⟩⟩)
            | (refine ⟨(i + 1,false), ?_, ?_, ?_⟩
               · show i + 1 <= _;omega
               · first | omega | (dsimp only;omega)
               exact ⟨⟨⟨_,rfl,(bz (o7 hil hs))⟩,⟨_,rfl,(cob (a6g _ hil hs))⟩,⟨_,rfl,(CoR.refl _)⟩,⟨_,rfl,(CoC.one (a6q rfl))⟩,tt⟩,⟨⟨_,rfl,(bq (o7 hil hs))⟩,uu⟩⟩)
     have h6:=r6;have hs:dt (ms.getD j default) ((cg (ms.take j) l).getD i default) = false:=r6;refine w_5 ?_
     first | (refine ⟨(i + 1, false), ?_, ?_, ?_⟩
              · show i + 1 <= _;omega
              · first | omega | (dsimp only;omega)
              exact ⟨⟨⟨_,rfl,(CoR.of_eq (congrArg (fun z=>HR.v (.one (.ref 951 z))) hl2.symm))⟩,⟨_,rfl,(cob (wd _ hil hs))⟩,⟨_,rfl,(CoR.refl _)⟩,⟨_,rfl,(CoC.one (a6q rfl))⟩,tt⟩,⟨⟨_,rfl,(wv hil hs rfl (fc _ _) (CoP.of_eq (congrArg (fun z=>PV.raw (.int .u32 z)) (gk _ _))))⟩,uu⟩⟩)
           | (refine ⟨(i + 1,false), ?_, ?_, ?_⟩
              · show i + 1 <= _;omega
              · first | omega | (dsimp only;omega)
              exact ⟨⟨⟨_,rfl,(bz (o7 hil hs))⟩,⟨_,rfl,(cob (a6g _ hil hs))⟩,⟨_,rfl,(CoR.refl _)⟩,⟨_,rfl,(CoC.one (a6q rfl))⟩,tt⟩,⟨⟨_,rfl,(bq (o7 hil hs))⟩,uu⟩⟩)
    obtain rfl:i = (cg (ms.take j) l).length:=by omega
    refine wq 7 900 rfl rfl rfl rfl ?_;refine w_5 ?_;exact lpx (j + 1) ⟨⟨⟨_,rfl,(bz (by rw [a3n bnl,a1f]))⟩,⟨_,rfl,(cob (by rw [aj8 bnl,bjk]))⟩,tt⟩,⟨⟨_,rfl,(bq (by rw [a3n bnl,a1f]))⟩,trivial⟩⟩
   show HW _ _ _ ⟨_ :: _,_⟩ _;refine w_5 ?_;refine hcd (fun h7=>?_) (fun h7=>?_)
   ·
    have hil:i < (cg (ms.take j) l).length:=by omega
    refine w_7 ?_;refine rq (out:=⟨_, .v (.one (.p (asC ((cg (ms.take j) l).getD i default))))⟩) rfl rfl rfl (congrArg (fun z=>some (Out.mk _ (HR.v (HC.one (HV.p z))))) ((show lf sC (stB (ms.getD j default) (cg (ms.take j) l) i) (0 + i) 0 = _ by rw [bk6];exact congrArg asC (b70 hil)))) rfl ?_;refine w_3 ?_;refine kx (ka 1 (ka 7 (ka 9 (ka 11 (ka 12 (ka 13 (ka 26 (ka 27 (ka 28 (ka 32 (ka 33 (ka 34 kn)))))))))))) (kb 2 km) ⟨[(57,some (vB (dt (ms.getD j default) ((cg (ms.take j) l).getD i default))))],[(900,some (.arr true 1 46 (stB (ms.getD j default) (cg (ms.take j) l) i).length (lf sC (stB (ms.getD j default) (cg (ms.take j) l) i))))]⟩ ?_ ?_
    ·
     refine w_7 ?_;refine ah rfl rfl (fun r8=>?_) (fun r8=>?_)
     ·
      have h8:=tz1 r8;have g1:((cg (ms.take j) l).getD i default) &&& (ms.getD j default).lhs = 0:=ug h8;(iterate 5 refine qy ?_ (hg:=(gtt r8)));refine w_2 ?_;refine ah rfl rfl (fun r9=>?_) (fun r9=>?_)
      ·
       have h9:=tz2 (cj (bn r8 r9));have g2:¬ ((cg (ms.take j) l).getD i default) &&& (ms.getD j default).rhs = 0:=oz h9;(iterate 5 refine qy ?_ (hg:=(gtt r9)));refine w_2 ?_
       exact ⟨⟨⟨_,rfl,(cob (by first | exact a7i _ _ | exact (a80 g1).symm | exact (a6t g2).symm))⟩,tt⟩,uu⟩
      have h9:=tz1 (ck (bn r8 r9));have g2:((cg (ms.take j) l).getD i default) &&& (ms.getD j default).rhs = 0:=ug h9;(iterate 5 refine k9 (gft r9) ?_);refine rq rfl rfl rfl rfl rfl ?_ (hp:=r9);refine c5 ?_
      exact ⟨⟨⟨_,rfl,(cob (by first | exact a7i _ _ | exact (a80 g1).symm | exact (a6t g2).symm))⟩,tt⟩,uu⟩
     have h8:=tz2 r8;have g1:¬ ((cg (ms.take j) l).getD i default) &&& (ms.getD j default).lhs = 0:=oz h8;(iterate 5 refine k9 (gft r8) ?_);refine rq rfl rfl rfl rfl rfl ?_ (hp:=r8);refine qy ?_;(iterate 5 refine k9 rfl ?_);refine w_2 ?_
     exact ⟨⟨⟨_,rfl,(cob (by first | exact a7i _ _ | exact (a80 g1).symm | exact (a6t g2).symm))⟩,tt⟩,uu⟩
    refine ak _ rfl (fun r10=>?_) (fun r10=>?_)
    ·
     have h10:=r10;have hs:dt (ms.getD j default) ((cg (ms.take j) l).getD i default) = true:=r10;have hl2:(stB (ms.getD j default) (cg (ms.take j) l) (i + 1)).length = (stB (ms.getD j default) (cg (ms.take j) l) i).length + 1:=by rw [ahi hil hs,bjj,blo];rfl
     refine fj ?_;refine b78 7 32 rfl rfl rfl rfl rfl rfl (fun ad cap hcap=>?_) ?_
     ·
      refine w_6 ?_;refine m9 5 ?_;refine r9 6 true ?_;refine w_2 ?_;refine azd 7 32 rfl rfl rfl rfl (by dsimp only at *;omega) rfl ?_;refine w_7 ?_
      first | (refine ⟨(i + 1, true), ?_, ?_, ?_⟩
               · show i + 1 <= _;omega
               · first | omega | (dsimp only;omega)
               exact ⟨⟨⟨_,rfl,(CoR.of_eq (congrArg (fun z=>HR.v (.one (.ref 900 z))) hl2.symm))⟩,⟨_,rfl,(cob (wd _ hil hs))⟩,⟨_,rfl,(CoR.refl _)⟩,⟨_,rfl,(CoR.of_eq (congrArg (fun z=>HR.v (.one (.win 900 z 0 _))) hl2.symm))⟩,tt⟩,⟨⟨_,rfl,(wv hil hs rfl (fc _ _) (CoP.of_eq (congrArg (fun z=>PV.raw (.int .u32 z)) (gk _ _))))⟩,uu⟩⟩)
            | (refine ⟨(i + 1,false), ?_, ?_, ?_⟩
               · show i + 1 <= _;omega
               · first | omega | (dsimp only;omega)
               exact ⟨⟨⟨_,rfl,(CoR.of_eq (congrArg (fun z=>HR.v (.one (.ref 951 z))) hl2.symm))⟩,⟨_,rfl,(cob (wd _ hil hs))⟩,⟨_,rfl,(CoR.refl _)⟩,⟨_,rfl,(CoC.one (aka hil))⟩,tt⟩,⟨⟨_,rfl,(wv hil hs rfl (fc _ _) (CoP.of_eq (congrArg (fun z=>PV.raw (.int .u32 z)) (gk _ _))))⟩,uu⟩⟩)
            | (refine ⟨(i + 1,true), ?_, ?_, ?_⟩
               · show i + 1 <= _;omega
               · first | omega | (dsimp only;omega)
               exact ⟨⟨⟨_,rfl,(bz (o7 hil hs))⟩,⟨_,rfl,(cob (a6g _ hil hs))⟩,⟨_,rfl,(CoR.refl _)⟩,⟨_,rfl,(CoR.of_eq (congrArg (fun z=>HR.v (.one (.win 900 z 0 _))) (congrArg List.length (o7 hil hs)).symm))⟩,tt⟩,⟨⟨_,rfl,(bq (o7 hil hs))⟩,uu⟩⟩)
     refine w_6 ?_;refine m9 950 ?_;refine r9 951 true ?_;refine w_9 ?_
     first | (refine ⟨(i + 1, true), ?_, ?_, ?_⟩
              · show i + 1 <= _;omega
              · first | omega | (dsimp only;omega)
              exact ⟨⟨⟨_,rfl,(CoR.of_eq (congrArg (fun z=>HR.v (.one (.ref 900 z))) hl2.symm))⟩,⟨_,rfl,(cob (wd _ hil hs))⟩,⟨_,rfl,(CoR.refl _)⟩,⟨_,rfl,(CoR.of_eq (congrArg (fun z=>HR.v (.one (.win 900 z 0 _))) hl2.symm))⟩,tt⟩,⟨⟨_,rfl,(wv hil hs rfl (fc _ _) (CoP.of_eq (congrArg (fun z=>PV.raw (.int .u32 z)) (gk _ _))))⟩,uu⟩⟩)
           | (refine ⟨(i + 1,false), ?_, ?_, ?_⟩
              · show i + 1 <= _;omega
              · first | omega | (dsimp only;omega)
              exact ⟨⟨⟨_,rfl,(CoR.of_eq (congrArg (fun z=>HR.v (.one (.ref 951 z))) hl2.symm))⟩,⟨_,rfl,(cob (wd _ hil hs))⟩,⟨_,rfl,(CoR.refl _)⟩,⟨_,rfl,(CoC.one (aka hil))⟩,tt⟩,⟨⟨_,rfl,(wv hil hs rfl (fc _ _) (CoP.of_eq (congrArg (fun z=>PV.raw (.int .u32 z)) (gk _ _))))⟩,uu⟩⟩)
           | (refine ⟨(i + 1,true), ?_, ?_, ?_⟩
              · show i + 1 <= _;omega
              · first | omega | (dsimp only;omega)
              exact ⟨⟨⟨_,rfl,(bz (o7 hil hs))⟩,⟨_,rfl,(cob (a6g _ hil hs))⟩,⟨_,rfl,(CoR.refl _)⟩,⟨_,rfl,(CoR.of_eq (congrArg (fun z=>HR.v (.one (.win 900 z 0 _))) (congrArg List.length (o7 hil hs)).symm))⟩,tt⟩,⟨⟨_,rfl,(bq (o7 hil hs))⟩,uu⟩⟩)
    have h10:=r10;have hs:dt (ms.getD j default) ((cg (ms.take j) l).getD i default) = false:=r10;refine w_5 ?_
    first | (refine ⟨(i + 1, true), ?_, ?_, ?_⟩
             · show i + 1 <= _;omega
             · first | omega | (dsimp only;omega)
             exact ⟨⟨⟨_,rfl,(CoR.of_eq (congrArg (fun z=>HR.v (.one (.ref 900 z))) hl2.symm))⟩,⟨_,rfl,(cob (wd _ hil hs))⟩,⟨_,rfl,(CoR.refl _)⟩,⟨_,rfl,(CoR.of_eq (congrArg (fun z=>HR.v (.one (.win 900 z 0 _))) hl2.symm))⟩,tt⟩,⟨⟨_,rfl,(wv hil hs rfl (fc _ _) (CoP.of_eq (congrArg (fun z=>PV.raw (.int .u32 z)) (gk _ _))))⟩,uu⟩⟩)
          | (refine ⟨(i + 1,false), ?_, ?_, ?_⟩
             · show i + 1 <= _;omega
             · first | omega | (dsimp only;omega)
             exact ⟨⟨⟨_,rfl,(CoR.of_eq (congrArg (fun z=>HR.v (.one (.ref 951 z))) hl2.symm))⟩,⟨_,rfl,(cob (wd _ hil hs))⟩,⟨_,rfl,(CoR.refl _)⟩,⟨_,rfl,(CoC.one (aka hil))⟩,tt⟩,⟨⟨_,rfl,(wv hil hs rfl (fc _ _) (CoP.of_eq (congrArg (fun z=>PV.raw (.int .u32 z)) (gk _ _))))⟩,uu⟩⟩)
          | (refine ⟨(i + 1,true), ?_, ?_, ?_⟩
             · show i + 1 <= _;omega
             · first | omega | (dsimp only;omega)
             exact ⟨⟨⟨_,rfl,(bz (o7 hil hs))⟩,⟨_,rfl,(cob (a6g _ hil hs))⟩,⟨_,rfl,(CoR.refl _)⟩,⟨_,rfl,(CoR.of_eq (congrArg (fun z=>HR.v (.one (.win 900 z 0 _))) (congrArg List.length (o7 hil hs)).symm))⟩,tt⟩,⟨⟨_,rfl,(bq (o7 hil hs))⟩,uu⟩⟩)
   obtain rfl:i = (cg (ms.take j) l).length:=by omega
   refine w_5 ?_;exact lpx (j + 1) ⟨⟨⟨_,rfl,(bz (by rw [a3n bnl,a1f]))⟩,⟨_,rfl,(cob (by rw [aj8 bnl,bjk]))⟩,tt⟩,⟨⟨_,rfl,(bq (by rw [a3n bnl,a1f]))⟩,trivial⟩⟩
  obtain rfl:j = ms.length:=by omega
  rw [show ms.take ms.length = ms from bjk];refine dj ?_;refine ⟨(f - 1,cg ms l,m7 ms l), ?_, ?_, ?_⟩
  · exact hI2
  · exact b8o hf
  exact kk
 have h1:=r1;obtain rfl:ag = false:=r1;have hl:l = (blks ms (a8 n &&& ~~~x)):=hI.f rfl;subst hl;refine w_2 ?_;refine aq 7 rfl rfl rfl ?_;refine w_2 ?_;refine qcx y4 (a5z (blks ms (a8 n &&& ~~~x)) (bjr (adu hI.ok) bns)) ?_;refine v_2 ?_;exact CoL.refl _
end
section
def b8n {f:Fd} {k:Nat} (h:k < (aj f.rhs).length):(sgl f).getD k default = ⟨f.lhs,jd ((aj f.rhs).getD k default)⟩:=by
 unfold sgl;simp [bjd,bjc h]
def abs (f:Fd):(sgl f).length = (aj f.rhs).length:=by unfold sgl;rw [bk0]
def aqb {fs ms:List Fd} {i k:Nat} (h:k < (aj (fs.getD i default).rhs).length):lg fs ms i (k + 1) = lg fs ms i k ++ [⟨(fs.getD i default).lhs,jd ((aj (fs.getD i default).rhs).getD k default)⟩]:=by
 rw [auw (by rw [abs];exact h),b8n h]
def apo {fs ms:List Fd} {i:Nat} (h:i < fs.length):lg fs ms (i + 1) 0 = lg fs ms i (aj (fs.getD i default).rhs).length:=by rw [au7 h,abs]
def b69 {a b:AS} {k:Nat} (h:sub a b) (hb:b >>> k = 0):a >>> k = 0:=by
 apply kg;intro i hi;have:=congrArg (fun z:AS=>z.getLsbD i) hb;simp only [bm9] at this ⊢
 cases ha:a.getLsbD (k + i) with
 | false=>simp
 | true=>rw [ar.1 h _ (zk ha) ha] at this;simp at this
def ym (b:AS) (f:Fd):Bool:=!decide ((f.rhs &&& ~~~f.lhs) &&& b = 0)
def ur (l:List Fd) (o b:AS):AS:=if bsz b = 1 then (if l.any (ym b) = true then o ||| b else o) else o
def uj (l:List Fd) (o:AS) (bs:List AS):AS:=bs.foldl (ur l) o
def a4r {l:List Fd} {o:AS} {bs:List AS} {i:Nat} (h:i < bs.length):uj l o (bs.take (i + 1)) = ur l (uj l o (bs.take i)) (bs.getD i default):=by
 unfold uj;rw [au h,bki];rfl
section
variable {l:List Fd} {o:AS} {bs:List AS} {i:Nat}
def al7 (h:i < bs.length) (hq:¬ bsz (bs.getD i default) = 1):uj l o (bs.take i) = uj l o (bs.take (i + 1)):=by rw [a4r h,ur,if_neg hq]
def alm (h:i < bs.length) (hq:bsz (bs.getD i default) = 1) (ha:l.any (ym (bs.getD i default)) = false):uj l o (bs.take i) = uj l o (bs.take (i + 1)):=by rw [a4r h,ur,if_pos hq,if_neg (by rw [ha];decide)]
def ak1 (h:i < bs.length) (hq:bsz (bs.getD i default) = 1) (ha:l.any (ym (bs.getD i default)) = true):uj l o (bs.take i) ||| bs.getD i default = uj l o (bs.take (i + 1)):=by rw [a4r h,ur,if_pos hq,if_pos ha]
end
def dc (n:Int) (l m:List Fd) (x:AS):List AS:=ord (blks (ju l m) (a8 n &&& ~~~x))
def b0u (n:Int) (l m:List Fd) (x:AS):List AS:=if ckB n l m x = 0 then dc n l m x else []
def od (n:Int) (l m:List Fd) (x:AS):AS:=uj l x (dc n l m x)
def aqt (n:Int) (l m:List Fd) (x:AS):AS:=if ckB n l m x = 0 then od n l m x else 0
def axw (ms:List Fd) (rest:AS):OkB (blks ms rest):=by
 have:∀ (f:Nat) (l:List AS),OkB l -> OkB (xd ms f l):=by
  intro f
  induction f with
  | zero=>intro l h;exact h
  | succ f ih =>
   intro l h;unfold xd;split
   · exact ih _ (a7n h)
   exact a7n h
 exact this _ _ (agh rest)
def a3r (n:Int) (l m:List Fd) (x:AS):(dc n l m x).length <= 4294967296:=bjr (lj _) (adu (axw _ _))
def mq (p:AS) (bs:List AS):List AS:=(bs.filter fun b=>!decide (b &&& p = 0)).map fun b=>b &&& p
section
variable {i:Nat}
def wo {p:AS} {bs:List AS} (h:i < bs.length) (hq:¬ bs.getD i default &&& p = 0):mq p (bs.take (i + 1)) = mq p (bs.take i) ++ [bs.getD i default &&& p]:=by
 unfold mq;rw [au h,bkq,bln,bko,if_pos (by rw [decide_eq_false hq];rfl)];rfl
def wh {p:AS} {bs:List AS} (h:i < bs.length) (hq:bs.getD i default &&& p = 0):mq p (bs.take (i + 1)) = mq p (bs.take i):=by
 unfold mq;rw [au h,bkq,bln,bko,if_neg (by rw [decide_eq_true hq];decide)];simp
def aai (p:AS) (bs:List AS):(mq p bs).length <= bs.length:=by
 unfold mq;rw [bk0];exact bl8 _ _
def o5 (n:Int) (l m:List Fd) (x p:AS):List AS:=ord (mq p (dc n l m x))
def a7l (n:Int) (l m:List Fd) (x p:AS):(mq p (dc n l m x)).length <= 8589934592:=bjr (aai _ _) (bjr (a3r _ _ _ _) bns)
def ck4 (n:Int) (l m:List Fd) (s:AS):Int:=if n < 0 \/ 8 < n then 7 else ckB n l m s
variable {l m:List Fd} {n:Int} {s:AS}
def b2p (h:n < 0 \/ 8 < n):ck4 n l m s = 7:=if_pos h
def abx (h:¬ (n < 0 \/ 8 < n)):ck4 n l m s = ckB n l m s:=if_neg h
def akh (h:ck4 n l m s = 0):0 <= n /\ n <= 8 /\ ckB n l m s = 0:=by
 unfold ck4 at h;split at h
 · cases h
 exact ⟨by omega,by omega,h⟩
def ae4 {t:AS} (h:ckB n l m s = 0) (ht:sub t s):ckB n l m t = 0:=arm (acv h).1 (b69 ht (acv h).2)
def b5w {t:AS} (h:ck4 n l m s = 0) (ht:sub t s):ck4 n l m t = 0:=by
 obtain ⟨h1,h2,h3⟩:=akh h;rw [abx bnl];exact ae4 h3 ht
def axx (n:Int) (l m:List Fd) (x p:AS):List AS:=if ck4 n l m (x ||| p) = 0 then o5 n l m x p else []
def a4s (n:Int) (l m:List Fd) (p x:AS):Option Fd:=if p &&& ~~~(od n l m x) = 0 then none else if 1 < (o5 n l m x p).length then some ⟨x,(o5 n l m x p).getD 0 default⟩ else none
def lw (n:Int) (l m:List Fd) (p:AS):Option Fd:=(aw p).findSome? (a4s n l m p)
def ae6:Option Fd -> Fd × Bool
 | some v=>(v,true)
 | none=>(⟨0,0⟩,false)
def a64 (n:Int) (l m:List Fd) (p:AS):Fd × Bool:=if ck4 n l m p = 0 then ae6 (lw n l m p) else (⟨0,0⟩,false)
def bc3 {p:AS} (h:¬ ck4 n l m p = 0):a64 n l m p = (⟨0,0⟩,false):=if_neg h
def am7 {p:AS} (h:ck4 n l m p = 0):a64 n l m p = ae6 (lw n l m p):=if_pos h
def ja {α β:Type} [Inhabited α] {f:α -> Option β} {l:List α} (h:i < l.length) (hn:(l.take i).findSome? f = none):(l.take (i + 1)).findSome? f = f (l.getD i default):=by
 rw [au h,bnk,hn];simp only [List.findSome?_cons,List.findSome?_nil,Option.none_or];cases f (l.getD i default) <;> rfl
def tg {α β:Type} [Inhabited α] {f:α -> Option β} {l:List α} {v:β} (h:i < l.length) (hn:(l.take i).findSome? f = none) (hv:f (l.getD i default) = some v):l.findSome? f = some v:=by
 have h1:=ja h hn;rw [hv] at h1;rw [<- bmf (i + 1) l,bnk,h1];rfl
def afp {z:AS} (h:z ∈ aw s):sub z s:=by
 unfold aw at h;split at h
 · cases h
 exact a08.1 h
def a0f {α:Type} [Inhabited α] {l:List α} (h:i < l.length):l.getD i default ∈ l:=by
 rw [bjd,bjc h];exact bk7 h
def bib (V:AS -> Option Fd):Prop:=∀ p v,V p = some v -> sub (v.lhs ||| v.rhs) p /\ v.lhs ||| v.rhs ≠ p /\ p &&& ~~~v.rhs ≠ p
end
section
variable {V:AS -> Option Fd}
def vF (V:AS -> Option Fd) (s:AS):Fd:=(ae6 (V s)).1
def vBo (V:AS -> Option Fd) (s:AS):Bool:=(ae6 (V s)).2
def bab (V:AS -> Option Fd) (s:AS):AS:=(vF V s).lhs ||| (vF V s).rhs
def bdi (V:AS -> Option Fd) (s:AS):AS:=s &&& ~~~(vF V s).rhs
def am2 (V:AS -> Option Fd):Nat -> List AS -> List AS -> List AS
 | 0,_,out=>out
 | n + 1,todo,out =>
  if todo.length = 0 then out
  else if vBo V (todo.getD (todo.length - 1) default) = true then am2 V n (todo.take (todo.length - 1) ++ [bab V (todo.getD (todo.length - 1) default),bdi V (todo.getD (todo.length - 1) default)]) out
  else am2 V n (todo.take (todo.length - 1)) (out ++ [todo.getD (todo.length - 1) default])
def bj3 (V:AS -> Option Fd) (p0:AS) (x:Nat × List AS × List AS):Prop:=am2 V x.1 x.2.1 x.2.2 = am2 V 6562 [p0] [] /\ qd x.2.1 < x.1 /\ x.2.2.length + x.1 <= 6562
def lvG (V:AS -> Option Fd):Nat -> AS -> List AS
 | 0,s=>[s]
 | n + 1,s=>if vBo V s = true then lvG V n (bab V s) ++ lvG V n (bdi V s) else [s]
end
def bg9 (n:Int) (l m:List Fd):List AS:=am2 (lw n l m) 6562 [a8 n] []
def bhm (n:Int) (l m:List Fd):List AS:=if ck4 n l m 0 = 0 then ic (bg9 n l m) else []
end
section
open Go.Proofs
def ba6 (n:Nat) (c:Bool) (f:Nat -> Nat -> PV) (hn:n <= 17592186044416) :
 d4 bo6 234 [.one (.p (.sl n 2 c f))] [] (.v (.one (.ref 0 n))) [(0, .arr true 2 49 n f)] []:=by
 refine hfx (nt:=8) Tryz.func234 ?_;refine sx7 ?_;refine dp true rfl rfl rfl rfl rfl trivial ?_;refine c5 ?_;refine a7v (ι:=Bool) (fun c=>⟨[(0,some (bi (.sl n 2 c f)))],[]⟩) (fun _=>True) ?_ fun c _=>?_
 · rcases bl7 n with hz | h0
   · subst hz
     refine hw_exact' 0 rfl fun ad cap hcap=>?_;refine sx7 ?_;(iterate 2 refine dp true rfl rfl rfl rfl rfl trivial ?_);refine c5 ?_;refine ak ad.isNone rfl (fun hc=>?_) (fun hc=>?_)
     · refine sx7 ?_
       refine dp true rfl rfl rfl rfl rfl trivial ?_;refine c5 ?_;refine cb 2 0 true 2 49 f bns rfl (CoP.sl rfl (.inr rfl) (fun h=>h) fun i j hi _=>absurd hi (bjh i)) (.inr rfl) rfl ?_;refine hrr ?_;exact ⟨_,_,rfl,trivial,CoR.refl _,uu⟩
     refine d6 ?_;exact ⟨false,trivial,⟨⟨_,rfl,CoP.raw_sl hcap⟩,trivial⟩,trivial⟩
   refine sx7 ?_;refine dp true rfl rfl rfl rfl rfl trivial ?_;refine dp true rfl rfl rfl rfl rfl h0 ?_;refine c5 ?_;refine ak false rfl (fun hc=>by cases hc) (fun hc=>?_);refine d6 ?_;exact ⟨c,trivial,tt,trivial⟩
 refine sx7 ?_;refine a1m 0 rfl rfl rfl rfl rfl rfl trivial ?_;refine dp true rfl rfl rfl rfl rfl trivial ?_;refine a62 0 true rfl rfl rfl rfl rfl rfl ⟨trivial,rfl,rfl,rfl, .inl rfl,by show 0 + n <= 9223372036854775807;omega,by show (0 + n) * 8 <= 140737488355328;omega,fun _=>.inl rfl⟩ ?_;refine dp true rfl rfl rfl rfl rfl trivial ?_;refine c5 ?_;refine hrr ?_;refine ⟨_,_,rfl,trivial,CoR.of_eq (by show HR.v (.one (.ref 0 (0 + n))) = _;rw [bk6]),⟨⟨_,rfl, ?_⟩,trivial⟩⟩;exact ⟨fun h=>h,rfl,rfl,(bk6 n).symm,fun i j _ _=>CoP.of_eq (by simp [fe])⟩
def aol (n:Int) (l m:List Fd) (x:AS):a6 bo6 187 [pI n,pP (fdl l),pP (fdl m),pA x] (a7 [pI (ckB n l m x)]):=by
 refine hpx (nt:=21) Tryz.func187 ?_;refine c7 ?_;refine qcx wu (sv n l m) ?_;refine w_7 ?_;refine hcn (fun h0=>?_) (fun h0=>?_)
 · refine v_5 ?_;exact ⟨cci (b1s bnm).symm,trivial⟩
 have hb:be n l m = 0:=h0;obtain ⟨hn0,hn1,_⟩:=ji hb;refine w_6 ?_;refine rq rfl rfl rfl rfl rfl ?_ (hp:=hn0);refine w_2 ?_;refine hcn (fun h1=>?_) (fun h1=>?_)
 · refine v_4 ?_;exact ⟨cci (b1h hb (fun e=>(by assumption:¬ _ = _) ((xc x n.toNat).trans (congrArg asI e)))).symm,trivial⟩
 refine v_5 ?_;exact ⟨cci (arm hb (c8.1 ((xc x n.toNat).symm.trans bnm))).symm,trivial⟩
def b1m (l m:List Fd) (hl:l.length <= 64) (hm:m.length <= 64):a6 bo6 189 [pP (fdl l),pP (fdl m)] (a7 [pP (fdl (ju l m))]):=by
 refine hpx (nt:=37) Tryz.func189 ?_;refine w_7 ?_;refine fc9 (wgx Tryz.func234) ((ba6 m.length false (lf Fd.c m) bnl).swap 0 900) trivial ?_;refine c7 ?_;refine bg (ka 12 (ka 13 kn)) km (fun i=>⟨[(5,some (.v (.one (.ref 900 (lg l m i 0).length)))),(14,some (vI i))],[(900,some (.arr true 2 49 (lg l m i 0).length (lf Fd.c (lg l m i 0))))]⟩) l.length ⟨⟨⟨_,rfl,(bz (afo l m))⟩,⟨_,rfl,(CoR.refl _)⟩,trivial⟩,⟨⟨_,rfl,(bq (afo l m))⟩,trivial⟩⟩ ?_;rintro i hi;have hmb:=n8 (l.getD i default).rhs;refine w_5 ?_;refine hcd (fun h0=>?_) (fun h0=>?_)
 ·
  refine w_7 ?_;refine m9 0 ?_;refine w_6 ?_;refine qcx a1z (aes (l.getD i default).rhs) ?_;refine w_4 ?_;refine bg (ka 7 (ka 12 (ka 13 (ka 14 (ka 20 (ka 21 kn)))))) (kb 0 km) (fun k=>⟨[(5,some (.v (.one (.ref 900 (lg l m i k).length)))),(22,some (vI k))],[(900,some (.arr true 2 49 (lg l m i k).length (lf Fd.c (lg l m i k))))]⟩) ((aj (l.getD i default).rhs).length) ⟨⟨zy,⟨_,rfl,(CoR.refl _)⟩,trivial⟩,uu⟩ ?_;rintro k hk;have hal:=axh (fs:=l) (ms:=m) (i:=i) (k:=k);refine w_5 ?_;refine hcd (fun h1=>?_) (fun h1=>?_)
  · refine sh ?_;refine m9 1 ?_;refine r9 2 true ?_;refine w_7 ?_;exact lpx (k + 1) ⟨⟨⟨_,rfl,(bv (aqb bnl))⟩,tt⟩,⟨⟨_,rfl,(p9 (aqb bnl) (CoP.refl _) (CoP.of_eq (congrArg (fun z=>PV.raw (.int .u32 z)) (amr 1 _))))⟩,uu⟩⟩
  obtain rfl:k = (aj (l.getD i default).rhs).length:=by omega
  refine w_5 ?_;exact lpx (i + 1) ⟨⟨⟨_,rfl,(bz (apo bnl))⟩,tt⟩,⟨⟨_,rfl,(bq (apo bnl))⟩,trivial⟩⟩
 obtain rfl:i = l.length:=by omega
 refine w_6 ?_;refine aq 4 rfl rfl rfl ?_;exact hx8 rfl rfl rfl (⟨CoC.one (CoP.of_eq (by rw [b12];rfl)),trivial⟩)
def b8l (n:Int) (l m:List Fd) (x:AS):a6 bo6 192 [pI n,pP (fdl l),pP (fdl m),pA x] (a7 [pP (asl (b0u n l m x)),pI (ckB n l m x)]):=by
 refine hpx (nt:=25) Tryz.func192 ?_;refine fj ?_;refine qcx (wgx Tryz.func187) (aol n l m x) ?_;refine w_7 ?_;refine hcn (fun h0=>?_) (fun h0=>?_)
 · refine v_6 ?_;exact ⟨CoC.one (a38 (if_neg bnm)),CoC.refl _,trivial⟩
 have hz:ckB n l m x = 0:=h0;have hb:=acv hz;obtain ⟨hn0,hn1,hl64,_,hm64,_⟩:=ji hb.1;refine w_6 ?_;refine qcx (wgx Tryz.func189) (b1m l m hl64 hm64) ?_;refine qy ?_;refine qcx (wgx Tryz.func188) (aq4 n (ju l m) x hn0 hn1) ?_;refine v_3 ?_;exact ⟨CoC.one (CoP.of_eq (by rw [show b0u n l m x = dc n l m x from if_pos hz];rfl)),cci hz.symm,trivial⟩
def bbv (f:Fd) (b:AS):a6 bo6 191 [f.pc,pP (bx (asC b))] (a7 [pB (ym b f)]):=by
 refine hpx (nt:=12) Tryz.func191 ?_;refine sx7 ?_;refine m9 0 ?_;refine nx ?_;exact hx8 rfl rfl rfl (⟨ccb (by unfold ym;rw [gk,am5]),trivial⟩)
def b4t (n:Int) (l m:List Fd) (x:AS):a6 bo6 139 [pI n,pP (fdl l),pP (fdl m),pA x] (a7 [pA (aqt n l m x),pI (ckB n l m x)]):=by
 refine hpx (nt:=45) Tryz.func139 ?_;refine fj ?_;refine qcx (wgx Tryz.func187) (aol n l m x) ?_;refine w_7 ?_;refine hcn (fun h0=>?_) (fun h0=>?_)
 · refine v_6 ?_;exact ⟨cci (congrArg asI (show (0:AS) = aqt n l m x from (if_neg bnm).symm)),CoC.refl _,trivial⟩
 have hz:ckB n l m x = 0:=h0;have hb:=acv hz;obtain ⟨hn0,hn1,hl64,_,hm64,_⟩:=ji hb.1;refine fj ?_;refine qcx (wgx Tryz.func189) (b1m l m hl64 hm64) ?_;refine qy ?_;refine qcx (wgx Tryz.func188) (aq4 n (ju l m) x hn0 hn1) ?_;refine w_4 ?_;have hbl:=a3r n l m x;refine bg (ka 1 (ka 28 (ka 29 kn))) km (fun i=>⟨[(11,some (vA (uj l x ((dc n l m x).take i)))),(30,some (vI i))],[]⟩) ((dc n l m x).length) ⟨⟨⟨_,rfl,(CoR.refl _)⟩,⟨_,rfl,(CoR.refl _)⟩,trivial⟩,trivial⟩ ?_;rintro i hi;refine w_5 ?_;refine hcd (fun h1=>?_) (fun h1=>?_)
 ·
  have hil:i < (dc n l m x).length:=Int.ofNat_lt.1 h1;refine w_7 ?_;refine m9 0 ?_;refine w_6 ?_;refine qcx ye (a7h ((dc n l m x).getD i default)) ?_;refine w_2 ?_;refine hcn (fun h2=>?_) (fun h2=>?_)
  · have hq:¬ bsz ((dc n l m x).getD i default) = 1:=fun e=>h2 (by rw [e];rfl);refine w_5 ?_;exact lpx (i + 1) ⟨⟨⟨_,rfl,(by first | exact br (congrArg asI (al7 hil hq)) | exact br (congrArg asI (alm hil hq ha)) | exact br ((bOr _ _).trans (congrArg asI (ak1 hil hq ha))))⟩,tt⟩,trivial⟩
  have hq:bsz ((dc n l m x).getD i default) = 1:=Int.ofNat_inj.1 h2;refine w_2 ?_;refine cw 13 rfl rfl rfl ?_;refine w_3 ?_;refine qcx (wgx Tryz.func190) (ben l 191 1 (fun j=>[bx (asC ((dc n l m x).getD i default))].getD j .any) (ym ((dc n l m x).getD i default)) (wgx Tryz.func191) (fun f=>bbv f ((dc n l m x).getD i default))) ?_;refine c5 ?_;refine ak _ rfl (fun r3=>?_) (fun r3=>?_)
  · have h3:=r3;have ha:l.any (ym ((dc n l m x).getD i default)) = true:=r3;refine c7 ?_;exact lpx (i + 1) ⟨⟨⟨_,rfl,(by first | exact br (congrArg asI (al7 hil hq)) | exact br (congrArg asI (alm hil hq ha)) | exact br ((bOr _ _).trans (congrArg asI (ak1 hil hq ha))))⟩,tt⟩,trivial⟩
  have h3:=r3;have ha:l.any (ym ((dc n l m x).getD i default)) = false:=r3;refine w_5 ?_;exact lpx (i + 1) ⟨⟨⟨_,rfl,(by first | exact br (congrArg asI (al7 hil hq)) | exact br (congrArg asI (alm hil hq ha)) | exact br ((bOr _ _).trans (congrArg asI (ak1 hil hq ha))))⟩,tt⟩,trivial⟩
 obtain rfl:i = (dc n l m x).length:=Nat.le_antisymm hi (bn1 fun q=>h1 (Int.ofNat_lt.2 q));rw [show (dc n l m x).take (dc n l m x).length = (dc n l m x) from bjk];refine v_7 ?_;exact ⟨cci (congrArg asI (show od n l m x = aqt n l m x from (if_pos hz).symm)),cci hz.symm,trivial⟩
def aon (n:Int) (l m:List Fd) (s:AS):a6 bo6 79 [pI n,pP (fdl l),pP (fdl m),pA s] (a7 [pI (ck4 n l m s)]):=by
 refine hpx (nt:=27) Tryz.func79 ?_;refine c7 ?_;refine ah rfl rfl (fun r0=>?_) (fun r0=>?_)
 ·
  have h0:=tz1 r0;(iterate 2 refine k9 (gtf r0) ?_);refine rq rfl rfl rfl rfl rfl ?_ (hp:=r0);refine w_6 ?_
  exact hx8 rfl rfl rfl (⟨cci (b2p bnl).symm,trivial⟩)
 have h0:=tz2 r0;(iterate 2 refine qy ?_ (hg:=(gff r0)));refine w_2 ?_;refine ak _ rfl (fun r1=>?_) (fun r1=>?_)
 · have h1:=tz1 (am r0 r1);refine v_4 ?_;exact ⟨cci (b2p bnl).symm,trivial⟩
 have h1:=tz2 (am r0 r1);refine w_7 ?_;refine qcx wu (sv n l m) ?_;refine w_7 ?_;refine hcn (fun h2=>?_) (fun h2=>?_)
 ·
  have hc:¬ (n < 0 \/ 8 < n):=by omega
  refine v_5 ?_;exact ⟨cci ((abx hc).trans (b1s bnm)).symm,trivial⟩
 have hb:be n l m = 0:=h2;obtain ⟨hn0,hn1,_⟩:=ji hb;have hc:¬ (n < 0 \/ 8 < n):=by omega
 refine w_6 ?_;refine rq rfl rfl rfl rfl rfl ?_ (hp:=hn0);refine w_2 ?_;refine hcn (fun h3=>?_) (fun h3=>?_)
 · refine v_4 ?_;exact ⟨cci ((abx hc).trans (b1h hb (fun e=>(by assumption:¬ _ = _) ((xc s n.toNat).trans (congrArg asI e))))).symm,trivial⟩
 refine v_5 ?_;exact ⟨cci ((abx hc).trans (arm hb (c8.1 ((xc s n.toNat).symm.trans bnm)))).symm,trivial⟩
end
end Go.Hx
