/- A part of the proof: Bz3 Hx27 Y1 Bz4. -/
import Derived.Test.YtkkenjdfbojdlaaGreatDoorMx32
set_option linter.all false
set_option maxRecDepth 100000
set_option maxHeartbeats 1000000
namespace Go.Hx
section
def ph:List AS -> Nat
 | []=>0
 | b :: l=>b.toNat + ph l
def acw:∀ (l k:List AS),ph (l ++ k) = ph l + ph k
 | [],k=>by simp [ph]
 | b :: l,k=>by simp [ph,acw l k];omega
def OkB (l:List AS):Prop:=ph l < 4294967296 /\ ∀ b ∈ l,b ≠ 0
section
variable {l:List AS}
def ags (h:OkB l):l.length <= 4294967296:=by
 have:∀ l:List AS,(∀ b ∈ l,b ≠ 0) -> l.length <= ph l:=by
  intro l
  induction l with
  | nil=>intro _;simp [ph]
  | cons b l ih =>
   intro h;have h1:=ih fun x hx=>h x (by simp [hx]);have h2:=a73 (h b bst);simp only [bov,ph];omega
 have h1:=this l h.2;have:=h.1;omega
def bi4 (m:Fd) (l:List AS):ph (rdB m l) = ph l:=by
 have:∀ l:List AS,ph (l.map (hdB m)) + ph (l.flatMap (tlB m)) = ph l:=by
  intro l
  induction l with
  | nil=>rfl
  | cons b l ih =>
   rw [bpt,brk,acw];simp only [ph];by_cases h:eq m b = true
   · have:=abd b m.rhs
     simp only [hdB,tlB,h,if_true,ph];omega
   rw [brn] at h;simp only [hdB,tlB,h,ph,bpe,if_false];omega
 unfold rdB;rw [acw];exact this l
variable {m:Fd}
def az0 (h:OkB l):OkB (rdB m l):=by
 refine ⟨by rw [bi4];exact h.1,fun b hb=>?_⟩;unfold rdB at hb
 rcases boj.1 hb with hb | hb
 · obtain ⟨b0,h0,rfl⟩:=boo.1 hb
   unfold hdB;split
   · rename_i hs;exact (rp.1 hs).2.1
   exact h.2 _ h0
 obtain ⟨b0,h0,hb⟩:=List.mem_flatMap.1 hb;unfold tlB at hb;split at hb
 · rename_i hs
   simp at hb;subst hb;exact (rp.1 hs).2.2
 cases hb
def air (rest:AS):OkB (li rest):=by
 unfold li;split
 · exact ⟨by simp [ph],fun _ h=>by cases h⟩
 rename_i h;exact ⟨by simp only [ph];have:=rest.isLt;omega,fun b hb=>by simp at hb;subst hb;exact h⟩
def a9t {rest:AS} (h:¬ rest = 0):li rest = [] ++ [rest]:=by rw [li,if_neg h];rfl
def a9l {rest:AS} (h:rest = 0):li rest = []:=by rw [li,if_pos h]
def abx (m:Fd) (l:List AS):stB m l 0 = l:=by simp [stB]
def a3t (m:Fd) (l:List AS):stB m l l.length = rdB m l:=by simp [stB,rdB]
def w3 (m:Fd) (l:List AS) (i:Nat):((l.take i).map (hdB m)).length = min i l.length:=by simp
variable {i:Nat}
def be0 (h:i < l.length):(stB m l i).getD i default = l.getD i default:=by
 have e:((l.take i).map (hdB m)).length = i:=by rw [w3];omega
 unfold stB;rw [bpo,bo7,bq3 (by rw [e];omega),e,Nat.sub_self,bq0 (by rw [bpy];omega),bqj,bqo,<- bo7]
def stB_get' {a:Nat} (hia:i <= a) (h:a < l.length):(stB m l i).getD a default = l.getD a default:=by
 have e:((l.take i).map (hdB m)).length = i:=by rw [w3];omega
 unfold stB;rw [bpo,bo7,bq3 (by rw [e];omega),e,bq0 (by rw [bpy];omega),bqj,show i + (a - i) = a by omega,<- bo7]
def arn (m:Fd) (l:List AS) (i:Nat):l.length <= (stB m l i).length:=by
 unfold stB;rw [bob,bob,w3,bpy];omega
def aj8 (h:i < l.length):l.drop i = l.getD i default :: l.drop (i + 1):=by
 rw [brf h];congr 1;simp [bo7,bo6 h]
def qx (h:i < l.length) (hs:eq m (l.getD i default) = false):stB m l (i + 1) = stB m l i:=by
 unfold stB;rw [aw h,bqi,bs9,aj8 h];simp only [bpt,bs2,brk,List.flatMap_nil,hdB,tlB,hs,bpe,if_false,bpd,bpo,br9,bsa]
def aks (h:i < l.length) (hs:eq m (l.getD i default) = true):stB m l (i + 1) = (stB m l i).set i (l.getD i default &&& m.rhs) ++ [l.getD i default &&& ~~~m.rhs]:=by
 have e:((l.take i).map (hdB m)).length = i:=by rw [w3];omega
 unfold stB;rw [aw h,bqi,bs9,aj8 h];simp only [bpt,bs2,brk,List.flatMap_nil,hdB,tlB,hs,if_true,bpd];generalize hA:(l.take i).map (hdB m) = A at e ⊢;generalize (l.take i).flatMap (tlB m) = B;generalize l.drop (i + 1) = D;subst e;rw [bpo A,bpo A,bpo A,List.set_append_right _ _ (bo9 _),Nat.sub_self,bpo A];simp
def bfm (m:Fd) (l:List AS):∀ i,(stB m l i).length <= (rdB m l).length:=by
 intro i;by_cases hi:i < l.length
 · have:∀ k,i + k <= l.length -> (stB m l i).length <= (stB m l (i + k)).length:=by
    intro k
    induction k with
    | zero=>intro _;exact bo9 _
    | succ k ih =>
     intro hk;have h1:=ih bsq;refine bon h1 ?_;cases hs:eq m (l.getD (i + k) default)
     · rw [show i + (k + 1) = i + k + 1 by omega,qx bsq hs];exact bo9 _
     rw [show i + (k + 1) = i + k + 1 by omega,aks bsq hs,bob,bqg];omega
   have h2:=this (l.length - i) bsq;rw [show i + (l.length - i) = l.length by omega,a3t] at h2;exact h2
 unfold stB rdB;rw [List.take_of_length_le bsq,bsg bsq];simp
def a8q (l:List AS) (i:Nat):Nat -> Nat -> PV:=fun k c=>if k < i then .any else sC (l.getD k default) c
def b8y (l:List AS) (i:Nat):a8q l i i 0 = asC (l.getD i default):=by
 unfold a8q;rw [if_neg (brr i)]
def aac {cl:Bool} {n:Nat} (hn:n = l.length):CoP (.sl n 1 cl (a8q l i)) (.sl l.length 1 false (a8q l (i + 1))):=by
 subst hn;refine CoP.sl rfl (.inl rfl) (fun h=>by cases h) fun k c hk hc=>?_;unfold a8q;by_cases h1:k < i
 · rw [if_pos h1,if_pos (show k < i + 1 by omega)];exact CoP.refl _
 rw [if_neg h1];by_cases h2:k < i + 1
 · rw [if_pos h2];exact CoP.any_of
 rw [if_neg h2];exact CoP.refl _
def apa {L:List AS} {k:Nat} {v:PV} (hil:i < L.length) (hk:k = i:=by rfl):CoP (.sl L.length 1 false (fj (lf sC (stB m L i)) k 0 [v])) (.sl L.length 1 false (a8q L (i + 1))):=by
 subst hk;refine CoP.sl rfl (.inl rfl) (fun h=>h) fun a c ha hc=>?_;obtain rfl:c = 0:=by omega
 unfold a8q;by_cases h:a < k + 1
 · rw [if_pos h];exact CoP.any_of
 rw [if_neg h];unfold fj lf;rw [if_neg bsq,stB_get' bsq ha];exact CoP.refl _
def b16 {A B:List AS} {a:Nat} (h:a < A.length):(A ++ B).getD a default = A.getD a default:=by simp [bo7,bq0 h]
def azg {A:List AS} {x:AS}:(A ++ [x]).getD A.length default = x:=by simp [bo7]
def yi {wr wr':Bool} {e:TypeId} {L:List AS} {k:Nat} {u:Int} {g:Nat -> Nat -> PV} (hil:i < L.length) (hs:eq m (L.getD i default) = true) (hk:k = i) (hu:u = asI (L.getD i default &&& m.rhs)) (hg:CoP (g 0 0) (asC (L.getD i default &&& ~~~m.rhs))) (hw:wr' = true -> wr = true:=by exact fun h=>h):
 CoO (.arr wr 1 e ((stB m L i).length + 1) (gv (stB m L i).length (fj (lf sC (stB m L i)) k 0 [.raw (.int .u32 u)]) g)) (.arr wr' 1 e (stB m L (i + 1)).length (lf sC (stB m L (i + 1)))):=by
 subst hk hu;have hl:=arn m L k;rw [aks hil hs];refine ⟨hw,rfl,rfl,by rw [bob,bqg];rfl,fun a j ha hj=>?_⟩;obtain rfl:j = 0:=by omega
 unfold gv;generalize L.getD k default &&& m.rhs = X;generalize L.getD k default &&& ~~~m.rhs = Y at hg ⊢;generalize stB m L k = A at hl ha ⊢;by_cases h:a < A.length
 · rw [if_pos h]
   refine CoP.of_eq ?_;show fj (lf sC A) k 0 [.raw (.int .u32 (asI X))] a 0 = sC ((A.set k X ++ [Y]).getD a default) 0;rw [b16 (by rw [bqg];exact h)];unfold fj lf;by_cases h2:a = k
   · subst h2
     rw [if_pos ⟨rfl,bo9 _,by simp⟩,qp h];rfl
   rw [if_neg bsq,getD_set_ne' h2]
 obtain rfl:a = A.length:=by omega
 rw [if_neg h,Nat.sub_self];show CoP (g 0 0) (sC ((A.set k X ++ [Y]).getD A.length default) 0);have:=azg (A:=A.set k X) (x:=Y);rw [bqg] at this;rw [this];exact hg
variable {ms:List Fd}
def a5c {j:Nat} (h:j < ms.length):cz (ms.take (j + 1)) l = rdB (ms.getD j default) (cz (ms.take j) l):=by
 unfold cz;rw [aw h,bpk];rfl
def atb:∀ (ms:List Fd) (m:Fd) (l:List AS),nv (ms ++ [m]) l = (nv ms l || (cz ms l).any (eq m))
 | [],m,l=>by simp [nv,cz]
 | k :: ms,m,l=>by
  simp only [br9,nv];rw [atb ms m (rdB k l),Bool.or_assoc];rfl
def anh {j:Nat} (h:j < ms.length):nv (ms.take (j + 1)) l = (nv (ms.take j) l || (cz (ms.take j) l).any (eq (ms.getD j default))):=by
 rw [aw h,atb]
def a9b (h:OkB l):∀ {ms:List Fd},OkB (cz ms l):=by
 intro ms
 induction ms generalizing l with
 | nil=>exact h
 | cons m ms ih=>exact ih (az0 h)
structure BkI (ms:List Fd) (R:List AS) (x:Nat × List AS × Bool):Prop where
 ok:OkB x.2.1
 t:x.2.2 = true -> zr ms x.1 x.2.1 = R /\ muB x.2.1 < x.1
 f:x.2.2 = false -> x.2.1 = R
def b58 (ms:List Fd) (rest:AS):BkI ms (blks ms rest) (18446744073709551616,li rest,true):=⟨air rest,fun _=>⟨rfl,ai9 rest⟩,fun h=>by cases h⟩
def bbe {R:List AS} {f:Nat} (h:BkI ms R (f,l,true)):BkI ms R (f - 1,cz ms l,nv ms l) /\ 0 < f:=by
 obtain ⟨h1,h2⟩:=h.t rfl;have h2:muB l < f:=h2;obtain ⟨g,rfl⟩:∃ g,f = g + 1:=⟨f - 1,by omega⟩;have h3:=agu ms l;refine ⟨⟨a9b h.ok,fun hc=>?_,fun hc=>?_⟩,by omega⟩
 · have hc:nv ms l = true:=hc
   have h1:zr ms (g + 1) l = R:=h1;unfold zr at h1;rw [if_pos hc] at h1 h3;exact ⟨h1,by show muB (cz ms l) < g;omega⟩
 have hc:nv ms l = false:=hc;have h1:zr ms (g + 1) l = R:=h1;unfold zr at h1;rw [hc] at h1;exact h1
def ckB (n:Int) (l m:List Fd) (s:AS):Int:=if be n l m = 0 then (if s >>> n.toNat = 0 then 0 else 1) else be n l m
def b7c {n:Int} {l m:List Fd} {s:AS} (h:¬ be n l m = 0):ckB n l m s = be n l m:=if_neg h
def b7a {n:Int} {l m:List Fd} {s:AS} (h:be n l m = 0) (h2:¬ s >>> n.toNat = 0):ckB n l m s = 1:=by unfold ckB;rw [if_pos h,if_neg h2]
def afj {n:Int} {l m:List Fd} {s:AS} (h:be n l m = 0) (h2:s >>> n.toNat = 0):ckB n l m s = 0:=by unfold ckB;rw [if_pos h,if_pos h2]
def a7o {n:Int} {l m:List Fd} {s:AS} (h:ckB n l m s = 0):be n l m = 0 /\ s >>> n.toNat = 0:=by
 unfold ckB at h;split at h
 · split at h
   · exact ⟨by assumption,by assumption⟩
   cases h
 exact absurd h bsr
def atw (f:Fd):(sgl f).length <= 32:=by unfold sgl;rw [bp2];exact qc _
def mr (fs ms:List Fd) (i k:Nat):List Fd:=ms ++ (fs.take i).flatMap sgl ++ (sgl (fs.getD i default)).take k
def aim (fs ms:List Fd):mr fs ms 0 0 = ms:=by simp [mr]
variable {fs:List Fd}
def b11 (h:i < fs.length):mr fs ms (i + 1) 0 = mr fs ms i (sgl (fs.getD i default)).length:=by
 unfold mr;rw [aw h,bs9,bog];simp
def b22 (fs ms:List Fd):mr fs ms fs.length 0 = j5 fs ms:=by simp [mr,j5]
def b10 {k:Nat} (h:k < (sgl (fs.getD i default)).length):mr fs ms i (k + 1) = mr fs ms i k ++ [(sgl (fs.getD i default)).getD k default]:=by
 unfold mr;rw [aw h,<- bpo]
def b23 {k:Nat}:(mr fs ms i k).length <= ms.length + 32 * (i + 1):=by
 have:∀ l:List Fd,(l.flatMap sgl).length <= 32 * l.length:=by
  intro l
  induction l with
  | nil=>simp
  | cons f l ih =>
   rw [brk,bob,bov];have:=atw f;omega
 have h1:=this (fs.take i);have h2:=atw (fs.getD i default);unfold mr;rw [bob,bob,boi];rw [boi] at h1;omega
end
end
section
open Go.RowKit
section
variable {ro:Option Nat} {P:Program} {nt:Nat} {st:HSt} {Q:Exit -> HSt -> Prop}
def y9 {w0:World} {cc:Ctx} {a:Act} {w:World} (hrr:aj w0 nt cc st.den a w) {d:Nat} {x:HR} (hx:ar cc st.den.o x (a.tmps.getD d undef)):aj w0 nt cc (HSt.den ⟨(d,some x) :: st.t,st.o⟩) a w:=by
 refine ⟨hrr.defers,hrr.size,hrr.below,fun k y hy=>?_,hrr.objs,hrr.inj,hrr.imm,hrr.sep,hrr.was,hrr.frm,hrr.fsep,hrr.fixed⟩;simp only [HSt.den] at hy;rw [bo] at hy;dsimp only at hy;split at hy
 · rename_i hk
   subst hk;simp only [bo5] at hy;subst hy;exact hx
 exact hrr.tmps k y hy
section
variable {f:Nat -> Nat -> PV}
def b4x {c:Code} (d:Nat) {id n n' s:Nat} {wr:Bool} {e:TypeId} (hd:bf st.t d = some (.v (.one (.ref id n)))) (ho:bf st.o id = some (.arr wr s e n' f)) (hn:n' = n) (h:HW (ro:=ro) P nt c ⟨(d,some (.v (.one (.win id n 0 n)))) :: st.t,st.o⟩ Q):HW (ro:=ro) P nt c st Q:=by
 subst hn;refine yj st d _ (fun w0 m0 a w hr=>?_) h;obtain ⟨cc,hold,hrr⟩:=hr;refine ⟨cc,hold,hrr, ?_⟩;have hu:bh cc st.den.o (.ref id n') (a.tmps.getD d undef):=hrr.tmps d _ hd;refine ⟨hu.1,hu.2.1,fun ob s2 e2 n2 ho2 hd2=>⟨(hu.2.2 _ _ _ _ ho2 hd2).1,fun hk=>?_⟩⟩;have he:=(hu.2.2 _ _ _ _ ho2 hd2).2 hk;obtain rfl:ob = .arr wr s e n' f:=Option.some.inj (ho2.symm.trans ho);simp only [a8.dim,bo5,bof] at hd2;obtain ⟨rfl,rfl,rfl⟩:=hd2;obtain ⟨ad,cap,hv,hc1,hc2⟩:=a0b (hrr.objs _ _ ho2);exact ⟨ad,ad,cap,hv,by rw [he,hv];rfl,by omega,hc1,hc2,fun _=>by cases ad <;> simp [qg]⟩
def b8z {c:Code} (d dh:Nat) {id n n' n0 k s:Nat} {e:TypeId} (hd:bf st.t d = some (.v (.one (.ref id n)))) (hh:bf st.t dh = some (.v (.one (.win id k 0 n0)))) (ho:bf st.o id = some (.arr true s e n' f)) (hn:n' = n) (hk:k = n) (hne:Nat.beq d dh = false) (hA:∀ ad cap,n + 1 <= cap -> HW (ro:=ro) P nt c ⟨(d,some (.v (.one (.pin id n ad cap)))) :: (dh,some (bn (.raw (.slice ad n0 cap)))) :: st.t,st.o⟩ Q) (hB:HW (ro:=ro) P nt c ⟨(d,some (bn (.sl n s true f))) :: (dh,some (bn (.sl n0 s false f))) :: st.t,(id,none) :: st.o⟩ Q):HW (ro:=ro) P nt c st Q:=by
 subst hn hk;intro w0 m0 a w hr;obtain ⟨cc,hold,hrr⟩:=hr;have hu:bh cc st.den.o (.ref id k) (a.tmps.getD d undef):=hrr.tmps d _ hd;have hv:bh cc st.den.o (.win id k 0 n0) (a.tmps.getD dh undef):=hrr.tmps dh _ hh;obtain ⟨ad,ad',cap,q1,q2,q3,q4,q5,q6⟩:=a0g hv ho rfl;have hu1:=(hu.2.2 _ _ _ _ ho rfl).2 rfl;by_cases hc:k + 1 <= cap
 · obtain rfl:ad' = ad:=by
    rw [q6 bsq];cases ad <;> simp [qg]
   refine hA ad' cap hc w0 m0 a w ⟨cc,hold, ?_⟩;have h1:aj w0 nt cc (HSt.den ⟨(dh,some (bn (.raw (.slice ad' n0 cap)))) :: st.t,st.o⟩) a w:=y9 hrr ⟨by simpa using q2,rfl⟩;refine y9 (st:=⟨(dh,some (bn (.raw (.slice ad' n0 cap)))) :: st.t,st.o⟩) h1 ⟨hu1.trans q1,hu.2.1,hu.2.2⟩
 obtain rfl:cap = k:=by omega
 have hfr:=hrr.freeze (id:=id) ho;rw [<- um] at hfr;refine hB w0 m0 a w ⟨{ old:=cc.old,imm:=frozenImm cc w id,tab:=zu hrr ho,own:=cc.own,blk:=cc.blk,rows:=cc.rows },hold, ?_⟩;have hfa:=sw hrr ho;have h1:=y9 (st:=⟨st.t,(id,none) :: st.o⟩) (d:=dh) (x:=bn (.sl n0 s false fun a b=>f (0 + a) b)) hfr (aex hrr ho hv);have e0:(fun a b=>f (0 + a) b) = f:=by funext a b;rw [bpc]
 rw [e0] at h1;refine y9 (st:=⟨(dh,some (bn (.sl n0 s false f))) :: st.t,(id,none) :: st.o⟩) h1 ?_;rw [hu1];obtain ⟨A,C,r1,r2,r3,r4,r5⟩:=hfa;refine ⟨A,C,r1,r2,r3,fun _=>?_,r5⟩;rw [q1] at r1;simp only [Value.slice.injEq,true_and] at r1;exact r1.2.symm
def b2r {c:Code} (d dh:Nat) {id n n' n0 s cap:Nat} {ad:Option Addr} {e:TypeId} (hd:bf st.t d = some (.v (.one (.pin id n ad cap)))) (hh:bf st.t dh = some (bn (.raw (.slice ad n0 cap)))) (ho:bf st.o id = some (.arr true s e n' f)) (hn:n' = n) (hle:n0 <= n) (hne:Nat.beq d dh = false) (h:HW (ro:=ro) P nt c ⟨(d,some (.v (.one (.ref id n)))) :: (dh,some (.v (.one (.win id n 0 n0)))) :: st.t,st.o⟩ Q):HW (ro:=ro) P nt c st Q:=by
 subst hn;intro w0 m0 a w hr;obtain ⟨cc,hold,hrr⟩:=hr;have hu:bh cc st.den.o (.pin id n' ad cap) (a.tmps.getD d undef):=hrr.tmps d _ hd;have hv:bh cc st.den.o (.p (.raw (.slice ad n0 cap))) (a.tmps.getD dh undef):=hrr.tmps dh _ hh;obtain ⟨hv1,_⟩:=hv;have hu1:=(hu.2.2 _ _ _ _ ho rfl).2 rfl;refine h w0 m0 a w ⟨cc,hold, ?_⟩
 have h1:aj w0 nt cc (HSt.den ⟨(dh,some (.v (.one (.win id n' 0 n0)))) :: st.t,st.o⟩) a w:=by
  refine y9 hrr ⟨by rw [hv1];rfl,hu.2.1,fun ob s2 e2 n2 ho2 hd2=>⟨(hu.2.2 _ _ _ _ ho2 hd2).1,fun hk=>?_⟩⟩;obtain rfl:ob = .arr true s e n' f:=Option.some.inj (ho2.symm.trans ho);simp only [a8.dim,bo5,bof] at hd2;obtain ⟨rfl,rfl,rfl⟩:=hd2;obtain ⟨ad2,cap2,g1,g2,g3⟩:=a0b (hrr.objs _ _ ho2);have hown:cc.own id = .slice ad n' cap:=hu1.symm.trans hu.1;rw [hown] at g1;simp only [Value.slice.injEq,true_and] at g1;obtain ⟨rfl,rfl⟩:=g1;exact ⟨ad,ad,cap,hown,hv1,by omega,g2,g3,fun _=>by cases ad <;> simp [qg]⟩
 exact y9 (st:=⟨(dh,some (.v (.one (.win id n' 0 n0)))) :: st.t,st.o⟩) h1 ⟨by rw [hu.1];rfl,hu.2.1,hu.2.2⟩
end
end
end
section
open Go.Proofs
def wk {a b:AS} (h:ap .and .u32 (asI a) (asI b) = 0):a &&& b = 0:=ck.1 ((gk a b).symm.trans h)
def s7 {a b:AS} (h:¬ ap .and .u32 (asI a) (asI b) = 0):¬ a &&& b = 0:=fun e=>h ((gk a b).trans (congrArg asI e))
def avh {a b:AS} (h:ap .andNot .u32 (asI a) (asI b) = 0):a &&& ~~~b = 0:=ck.1 ((it a b).symm.trans h)
def al2 {a b:AS} (h:¬ ap .andNot .u32 (asI a) (asI b) = 0):¬ a &&& ~~~b = 0:=fun e=>h ((it a b).trans (congrArg asI e))
def aa0 {m:Fd} {x:AS} (h:¬ x &&& m.lhs = 0):eq m x = false:=by unfold eq;rw [decide_eq_false h];rfl
def aae {m:Fd} {x:AS} (h:x &&& m.rhs = 0):eq m x = false:=by simp [eq,h]
def apr (a b:AS):decide (ap .and .u32 (asI a) (asI b) = 0) = decide (a &&& b = 0):=by
 by_cases h:ap .and .u32 (asI a) (asI b) = 0
 · rw [decide_eq_true h,decide_eq_true (wk h)]
 rw [decide_eq_false h,decide_eq_false (s7 h)]
def be3 (a b:AS):decide (ap .andNot .u32 (asI a) (asI b) = 0) = decide (a &&& ~~~b = 0):=by
 by_cases h:ap .andNot .u32 (asI a) (asI b) = 0
 · rw [decide_eq_true h,decide_eq_true (avh h)]
 rw [decide_eq_false h,decide_eq_false (al2 h)]
def a9a (m:Fd) (x:AS):(bif (bif decide (ap .and .u32 (asI x) (asI m.lhs) = 0) then !decide (ap .and .u32 (asI x) (asI m.rhs) = 0) else false) then !decide (ap .andNot .u32 (asI x) (asI m.rhs) = 0) else false) = eq m x:=by
 rw [apr,apr,be3];unfold eq;by_cases h1:x &&& m.lhs = 0 <;> by_cases h2:x &&& m.rhs = 0 <;> by_cases h3:x &&& ~~~m.rhs = 0 <;> simp only [h1,h2,h3,decide_true,decide_false,ne_eq,not_true_eq_false,not_false_eq_true,br6,bs1,cond_true,cond_false,Bool.and_self,Bool.and_true,bq1,bso,Bool.false_and]
def zh {m:Fd} {l:List AS} {i:Nat} (c:Bool) (h:i < l.length) (hs:eq m (l.getD i default) = true):true = (c || (l.take (i + 1)).any (eq m)):=by
 rw [aw h,List.any_append];simp only [List.any_cons,List.any_nil,hs,bsp,Bool.or_false]
def a7c {m:Fd} {l:List AS} {i:Nat} (c:Bool) (h:i < l.length) (hs:eq m (l.getD i default) = false):(c || (l.take i).any (eq m)) = (c || (l.take (i + 1)).any (eq m)):=by
 rw [aw h,List.any_append];simp only [List.any_cons,List.any_nil,hs,bsp,Bool.or_false]
def avn (x:Nat × List AS × Bool):Nat:=x.1 + (bif x.2.2 then 1 else 0)
def b8n {f:Nat} {l l':List AS} {c:Bool} (h:0 < f):avn (f - 1,l',c) < avn (f,l,true):=by
 cases c <;> simp only [avn,cond_true,cond_false] <;> omega
def at4 (n:Int) (ms:List Fd) (x:AS) (h0:0 <= n) (h1:n <= 16):a7 btb 188 [pI n,pP (fdl ms),pA x] (aa [pP (asl (ord (blks ms (a6 n &&& ~~~x))))]):=by
 refine hpx (nt:=76) Tryz.func188 ?_;refine cq 1 rfl fun hn=>?_;have hrest:ap .andNot .u32 (IntKind.wrap .u32 (1 * 2 ^ (min n.toNat 32)) - 1) (asI x) = asI (a6 n &&& ~~~x):=by rw [u6 h0 h1,it]
 refine w_8 ?_;refine ct 7 900 true 1 46 (lf sC []) bsu rfl (CoP.sl rfl (.inr rfl) (fun h=>h) (fun i j hi _=>absurd hi (bod i))) (.inr rfl) rfl ?_;refine nc (ka 1 kn) km ⟨[(7,some (.v (.one (.ref 900 (li (a6 n &&& ~~~x)).length))))],[(900,some (.arr true 1 46 (li (a6 n &&& ~~~x)).length (lf sC (li (a6 n &&& ~~~x)))))]⟩ ?_ ?_
 ·
  refine w_4 ?_;refine rq rfl rfl rfl rfl rfl ?_ (hp:=⟨xq h0 h1,vg h0 h1⟩);refine w_9 ?_;refine hcn (fun h0=>?_) (fun h0=>?_)
  · have hne:¬ (a6 n &&& ~~~x) = 0:=fun e=>h0 (hrest.trans (congrArg asI e));refine w_3 ?_;refine m9 0 ?_;refine r9 1 true ?_;refine w_2 ?_;exact ⟨⟨⟨_,rfl,(by first | exact c8 (a9t hne) | exact ce (a9l hz))⟩,tt⟩,⟨⟨_,rfl,(by first | exact bu (a9t hne) (CoP.of_eq (congrArg (fun z=>PV.raw (.int .u32 z)) hrest)) | exact bv (a9l hz))⟩,trivial⟩⟩
  have hz:(a6 n &&& ~~~x) = 0:=ck.1 (hrest.symm.trans h0);refine dp ?_;exact ⟨⟨⟨_,rfl,(by first | exact c8 (a9t hne) | exact ce (a9l hz))⟩,tt⟩,⟨⟨_,rfl,(by first | exact bu (a9t hne) (CoP.of_eq (congrArg (fun z=>PV.raw (.int .u32 z)) hrest)) | exact bv (a9l hz))⟩,trivial⟩⟩
 refine w_6 ?_;refine ah (ι:=(Nat × List AS × Bool)) (ka 1 kn) km (fun y=>⟨[(7,some (.v (.one (.ref 900 y.2.1.length)))),(9,some (vB y.2.2))],[(900,some (.arr true 1 46 y.2.1.length (lf sC y.2.1)))]⟩) (fun y=>BkI ms (blks ms (a6 n &&& ~~~x)) y) (fun y=>avn y) ((18446744073709551616,li (a6 n &&& ~~~x),true)) (b58 ms (a6 n &&& ~~~x)) kk ?_;rintro ⟨f,l,ag⟩ hI;refine w_5 ?_;refine am _ rfl (fun r1=>?_) (fun r1=>?_)
 ·
  have h1:=r1;obtain rfl:ag = true:=r1;obtain ⟨hI2,hf⟩:=bbe hI;have hok:=hI.ok;refine kw ?_;refine bp (ka 1 (ka 26 (ka 27 kn))) km (fun j=>⟨[(7,some (.v (.one (.ref 900 (cz (ms.take j) l).length)))),(9,some (vB (nv (ms.take j) l))),(28,some (vI j))],[(900,some (.arr true 1 46 (cz (ms.take j) l).length (lf sC (cz (ms.take j) l))))]⟩) ms.length ⟨⟨zy,⟨_,rfl,(CoR.refl _)⟩,tt⟩,uu⟩ ?_;rintro j hj;have hokj:OkB (cz (ms.take j) l):=a9b hok;have hlj:=ags (az0 (m:=(ms.getD j default)) hokj);refine w_5 ?_;refine hcd (fun h2=>?_) (fun h2=>?_)
  ·
   refine w_7 ?_;refine m9 2 ?_;refine w_9 ?_;refine b4x 32 rfl rfl rfl ?_;refine ah (ι:=(Nat × Bool)) (ka 1 (ka 11 (ka 26 (ka 27 (ka 28 (ka 33 kn)))))) (kb 2 km) (fun y=>⟨[(7,some (.v (.one (.ref (bif y.2 then 900 else 951) (stB (ms.getD j default) (cz (ms.take j) l) y.1).length)))),(9,some (vB (nv (ms.take j) l || ((cz (ms.take j) l).take y.1).any (eq (ms.getD j default))))),(34,some (vI y.1)),(32,some (bif y.2 then .v (.one (.win 900 (stB (ms.getD j default) (cz (ms.take j) l) y.1).length 0 (cz (ms.take j) l).length)) else bn (.sl (cz (ms.take j) l).length 1 false (a8q (cz (ms.take j) l) y.1))))],[(bif y.2 then 900 else 951,some (.arr true 1 46 (stB (ms.getD j default) (cz (ms.take j) l) y.1).length (lf sC (stB (ms.getD j default) (cz (ms.take j) l) y.1))))]⟩) (fun y=>y.1 <= (cz (ms.take j) l).length) (fun y=>(cz (ms.take j) l).length - y.1) ((0,true)) (boe _) ⟨⟨⟨_,rfl,(ce (abx _ _))⟩,⟨_,rfl,(cob bst)⟩,⟨_,rfl,(CoR.refl _)⟩,⟨_,rfl,(CoR.of_eq (by rw [abx];rfl))⟩,trivial⟩,⟨⟨_,rfl,(bv (abx _ _))⟩,trivial⟩⟩ ?_;rintro ⟨i,b⟩ hi;have hi:i <= (cz (ms.take j) l).length:=hi;have hsl:=bfm (ms.getD j default) (cz (ms.take j) l) i;have hsl2:=arn (ms.getD j default) (cz (ms.take j) l) i
   rcases b with _ | _
   ·
    show HW _ _ _ ⟨_ :: _,_⟩ _;refine w_5 ?_;refine hcd (fun h3=>?_) (fun h3=>?_)
    ·
     have hil:i < (cz (ms.take j) l).length:=by omega
     refine w_7 ?_;refine rq (out:=⟨_, .v (.one (.p (asC ((cz (ms.take j) l).getD i default))))⟩) rfl rfl rfl (congrArg (fun z=>some (Out.mk _ (HR.v (HC.one (HV.p z))))) (b8y (cz (ms.take j) l) i)) rfl ?_;refine w_3 ?_;refine nc (ka 1 (ka 7 (ka 9 (ka 11 (ka 12 (ka 13 (ka 26 (ka 27 (ka 28 (ka 32 (ka 33 (ka 34 kn)))))))))))) (kb 2 km) ⟨[(57,some (vB (eq (ms.getD j default) ((cz (ms.take j) l).getD i default))))],[(951,some (.arr true 1 46 (stB (ms.getD j default) (cz (ms.take j) l) i).length (lf sC (stB (ms.getD j default) (cz (ms.take j) l) i))))]⟩ ?_ ?_
     ·
      refine w_7 ?_;refine ai rfl rfl (fun r4=>?_) (fun r4=>?_)
      ·
       have h4:=tz1 r4;have g1:((cz (ms.take j) l).getD i default) &&& (ms.getD j default).lhs = 0:=wk h4;(iterate 5 refine qy ?_ (hg:=(gtt r4)));refine w_2 ?_;refine ai rfl rfl (fun r5=>?_) (fun r5=>?_)
       ·
        have h5:=tz2 (ci (bq r4 r5));have g2:¬ ((cz (ms.take j) l).getD i default) &&& (ms.getD j default).rhs = 0:=s7 h5;(iterate 5 refine qy ?_ (hg:=(gtt r5)));refine w_2 ?_
        exact ⟨⟨⟨_,rfl,(cob (by first | exact a9a _ _ | exact (aa0 g1).symm | exact (aae g2).symm))⟩,tt⟩,uu⟩
       have h5:=tz1 (cj (bq r4 r5));have g2:((cz (ms.take j) l).getD i default) &&& (ms.getD j default).rhs = 0:=wk h5;(iterate 5 refine k9 (gft r5) ?_);refine w_2 ?_
       exact ⟨⟨⟨_,rfl,(cob (by first | exact a9a _ _ | exact (aa0 g1).symm | exact (aae g2).symm))⟩,tt⟩,uu⟩
      have h4:=tz2 r4;have g1:¬ ((cz (ms.take j) l).getD i default) &&& (ms.getD j default).lhs = 0:=s7 h4;(iterate 5 refine k9 (gft r4) ?_);refine w_2 ?_;(iterate 5 refine k9 rfl ?_);refine w_2 ?_
      exact ⟨⟨⟨_,rfl,(cob (by first | exact a9a _ _ | exact (aa0 g1).symm | exact (aae g2).symm))⟩,tt⟩,uu⟩
     refine am _ rfl (fun r6=>?_) (fun r6=>?_)
     ·
      have h6:=r6;have hs:eq (ms.getD j default) ((cz (ms.take j) l).getD i default) = true:=r6;have hl2:(stB (ms.getD j default) (cz (ms.take j) l) (i + 1)).length = (stB (ms.getD j default) (cz (ms.take j) l) i).length + 1:=by rw [aks hil hs,bob,bqg];rfl
      refine ao5 ?_;refine m9 3 ?_;refine r9 4 true ?_;refine w_9 ?_
      first | (refine lpz (i + 1, false) ⟨⟨⟨_, rfl, (CoR.of_eq (congrArg (fun z => HR.v (.one (.ref 951 z))) hl2.symm))⟩, ⟨_, rfl, (cob (zh _ hil hs))⟩, ⟨_, rfl, (CoR.refl _)⟩, ⟨_, rfl, (CoC.one (aac rfl))⟩, tt⟩, ⟨⟨_, rfl, (yi hil hs rfl (gk _ _) (CoP.of_eq (congrArg (fun z => PV.raw (.int .u32 z)) (it _ _))))⟩, uu⟩⟩ ?_; show i + 1 <= _; omega)
            | (refine lpz (i + 1,false) ⟨⟨⟨_,rfl,(ce (qx hil hs))⟩,⟨_,rfl,(cob (a7c _ hil hs))⟩,⟨_,rfl,(CoR.refl _)⟩,⟨_,rfl,(CoC.one (aac rfl))⟩,tt⟩,⟨⟨_,rfl,(bv (qx hil hs))⟩,uu⟩⟩ ?_;show i + 1 <= _;omega)
     have h6:=r6;have hs:eq (ms.getD j default) ((cz (ms.take j) l).getD i default) = false:=r6;refine w_5 ?_
     first | (refine lpz (i + 1, false) ⟨⟨⟨_, rfl, (CoR.of_eq (congrArg (fun z => HR.v (.one (.ref 951 z))) hl2.symm))⟩, ⟨_, rfl, (cob (zh _ hil hs))⟩, ⟨_, rfl, (CoR.refl _)⟩, ⟨_, rfl, (CoC.one (aac rfl))⟩, tt⟩, ⟨⟨_, rfl, (yi hil hs rfl (gk _ _) (CoP.of_eq (congrArg (fun z => PV.raw (.int .u32 z)) (it _ _))))⟩, uu⟩⟩ ?_; show i + 1 <= _; omega)
           | (refine lpz (i + 1,false) ⟨⟨⟨_,rfl,(ce (qx hil hs))⟩,⟨_,rfl,(cob (a7c _ hil hs))⟩,⟨_,rfl,(CoR.refl _)⟩,⟨_,rfl,(CoC.one (aac rfl))⟩,tt⟩,⟨⟨_,rfl,(bv (qx hil hs))⟩,uu⟩⟩ ?_;show i + 1 <= _;omega)
    obtain rfl:i = (cz (ms.take j) l).length:=by omega
    refine sa 7 900 rfl rfl rfl rfl ?_;refine w_5 ?_;exact lpx (j + 1) ⟨⟨⟨_,rfl,(ce (by rw [a5c bsq,a3t]))⟩,⟨_,rfl,(cob (by rw [anh bsq,bog]))⟩,tt⟩,⟨⟨_,rfl,(bv (by rw [a5c bsq,a3t]))⟩,trivial⟩⟩
   show HW _ _ _ ⟨_ :: _,_⟩ _;refine w_5 ?_;refine hcd (fun h7=>?_) (fun h7=>?_)
   ·
    have hil:i < (cz (ms.take j) l).length:=by omega
    refine w_7 ?_;refine rq (out:=⟨_, .v (.one (.p (asC ((cz (ms.take j) l).getD i default))))⟩) rfl rfl rfl (congrArg (fun z=>some (Out.mk _ (HR.v (HC.one (HV.p z))))) ((show lf sC (stB (ms.getD j default) (cz (ms.take j) l) i) (0 + i) 0 = _ by rw [bpc];exact congrArg asC (be0 hil)))) rfl ?_;refine w_3 ?_;refine nc (ka 1 (ka 7 (ka 9 (ka 11 (ka 12 (ka 13 (ka 26 (ka 27 (ka 28 (ka 32 (ka 33 (ka 34 kn)))))))))))) (kb 2 km) ⟨[(57,some (vB (eq (ms.getD j default) ((cz (ms.take j) l).getD i default))))],[(900,some (.arr true 1 46 (stB (ms.getD j default) (cz (ms.take j) l) i).length (lf sC (stB (ms.getD j default) (cz (ms.take j) l) i))))]⟩ ?_ ?_
    ·
     refine w_7 ?_;refine ai rfl rfl (fun r8=>?_) (fun r8=>?_)
     ·
      have h8:=tz1 r8;have g1:((cz (ms.take j) l).getD i default) &&& (ms.getD j default).lhs = 0:=wk h8;(iterate 5 refine qy ?_ (hg:=(gtt r8)));refine w_2 ?_;refine ai rfl rfl (fun r9=>?_) (fun r9=>?_)
      ·
       have h9:=tz2 (ci (bq r8 r9));have g2:¬ ((cz (ms.take j) l).getD i default) &&& (ms.getD j default).rhs = 0:=s7 h9;(iterate 5 refine qy ?_ (hg:=(gtt r9)));refine w_2 ?_
       exact ⟨⟨⟨_,rfl,(cob (by first | exact a9a _ _ | exact (aa0 g1).symm | exact (aae g2).symm))⟩,tt⟩,uu⟩
      have h9:=tz1 (cj (bq r8 r9));have g2:((cz (ms.take j) l).getD i default) &&& (ms.getD j default).rhs = 0:=wk h9;(iterate 5 refine k9 (gft r9) ?_);refine w_2 ?_
      exact ⟨⟨⟨_,rfl,(cob (by first | exact a9a _ _ | exact (aa0 g1).symm | exact (aae g2).symm))⟩,tt⟩,uu⟩
     have h8:=tz2 r8;have g1:¬ ((cz (ms.take j) l).getD i default) &&& (ms.getD j default).lhs = 0:=s7 h8;(iterate 5 refine k9 (gft r8) ?_);refine w_2 ?_;(iterate 5 refine k9 rfl ?_);refine w_2 ?_
     exact ⟨⟨⟨_,rfl,(cob (by first | exact a9a _ _ | exact (aa0 g1).symm | exact (aae g2).symm))⟩,tt⟩,uu⟩
    refine am _ rfl (fun r10=>?_) (fun r10=>?_)
    ·
     have h10:=r10;have hs:eq (ms.getD j default) ((cz (ms.take j) l).getD i default) = true:=r10;have hl2:(stB (ms.getD j default) (cz (ms.take j) l) (i + 1)).length = (stB (ms.getD j default) (cz (ms.take j) l) i).length + 1:=by rw [aks hil hs,bob,bqg];rfl
     refine i6 ?_;refine b8z 7 32 rfl rfl rfl rfl rfl rfl (fun ad cap hcap=>?_) ?_
     ·
      refine w_6 ?_;refine m9 5 ?_;refine r9 6 true ?_;refine w_2 ?_;refine b2r 7 32 rfl rfl rfl rfl (by dsimp only at *;omega) rfl ?_;refine w_7 ?_
      first | (refine lpz (i + 1, true) ⟨⟨⟨_, rfl, (CoR.of_eq (congrArg (fun z => HR.v (.one (.ref 900 z))) hl2.symm))⟩, ⟨_, rfl, (cob (zh _ hil hs))⟩, ⟨_, rfl, (CoR.refl _)⟩, ⟨_, rfl, (CoR.of_eq (congrArg (fun z => HR.v (.one (.win 900 z 0 _))) hl2.symm))⟩, tt⟩, ⟨⟨_, rfl, (yi hil hs rfl (gk _ _) (CoP.of_eq (congrArg (fun z => PV.raw (.int .u32 z)) (it _ _))))⟩, uu⟩⟩ ?_; show i + 1 <= _; omega)
            | (refine lpz (i + 1,false) ⟨⟨⟨_,rfl,(CoR.of_eq (congrArg (fun z=>HR.v (.one (.ref 951 z))) hl2.symm))⟩,⟨_,rfl,(cob (zh _ hil hs))⟩,⟨_,rfl,(CoR.refl _)⟩,⟨_,rfl,(CoC.one (apa hil))⟩,tt⟩,⟨⟨_,rfl,(yi hil hs rfl (gk _ _) (CoP.of_eq (congrArg (fun z=>PV.raw (.int .u32 z)) (it _ _))))⟩,uu⟩⟩ ?_;show i + 1 <= _;omega)
            | (refine lpz (i + 1,true) ⟨⟨⟨_,rfl,(ce (qx hil hs))⟩,⟨_,rfl,(cob (a7c _ hil hs))⟩,⟨_,rfl,(CoR.refl _)⟩,⟨_,rfl,(CoR.of_eq (congrArg (fun z=>HR.v (.one (.win 900 z 0 _))) (congrArg List.length (qx hil hs)).symm))⟩,tt⟩,⟨⟨_,rfl,(bv (qx hil hs))⟩,uu⟩⟩ ?_;show i + 1 <= _;omega)
     refine w_6 ?_;refine m9 950 ?_;refine r9 951 true ?_;refine w_9 ?_
     first | (refine lpz (i + 1, true) ⟨⟨⟨_, rfl, (CoR.of_eq (congrArg (fun z => HR.v (.one (.ref 900 z))) hl2.symm))⟩, ⟨_, rfl, (cob (zh _ hil hs))⟩, ⟨_, rfl, (CoR.refl _)⟩, ⟨_, rfl, (CoR.of_eq (congrArg (fun z => HR.v (.one (.win 900 z 0 _))) hl2.symm))⟩, tt⟩, ⟨⟨_, rfl, (yi hil hs rfl (gk _ _) (CoP.of_eq (congrArg (fun z => PV.raw (.int .u32 z)) (it _ _))))⟩, uu⟩⟩ ?_; show i + 1 <= _; omega)
           | (refine lpz (i + 1,false) ⟨⟨⟨_,rfl,(CoR.of_eq (congrArg (fun z=>HR.v (.one (.ref 951 z))) hl2.symm))⟩,⟨_,rfl,(cob (zh _ hil hs))⟩,⟨_,rfl,(CoR.refl _)⟩,⟨_,rfl,(CoC.one (apa hil))⟩,tt⟩,⟨⟨_,rfl,(yi hil hs rfl (gk _ _) (CoP.of_eq (congrArg (fun z=>PV.raw (.int .u32 z)) (it _ _))))⟩,uu⟩⟩ ?_;show i + 1 <= _;omega)
           | (refine lpz (i + 1,true) ⟨⟨⟨_,rfl,(ce (qx hil hs))⟩,⟨_,rfl,(cob (a7c _ hil hs))⟩,⟨_,rfl,(CoR.refl _)⟩,⟨_,rfl,(CoR.of_eq (congrArg (fun z=>HR.v (.one (.win 900 z 0 _))) (congrArg List.length (qx hil hs)).symm))⟩,tt⟩,⟨⟨_,rfl,(bv (qx hil hs))⟩,uu⟩⟩ ?_;show i + 1 <= _;omega)
    have h10:=r10;have hs:eq (ms.getD j default) ((cz (ms.take j) l).getD i default) = false:=r10;refine w_5 ?_
    first | (refine lpz (i + 1, true) ⟨⟨⟨_, rfl, (CoR.of_eq (congrArg (fun z => HR.v (.one (.ref 900 z))) hl2.symm))⟩, ⟨_, rfl, (cob (zh _ hil hs))⟩, ⟨_, rfl, (CoR.refl _)⟩, ⟨_, rfl, (CoR.of_eq (congrArg (fun z => HR.v (.one (.win 900 z 0 _))) hl2.symm))⟩, tt⟩, ⟨⟨_, rfl, (yi hil hs rfl (gk _ _) (CoP.of_eq (congrArg (fun z => PV.raw (.int .u32 z)) (it _ _))))⟩, uu⟩⟩ ?_; show i + 1 <= _; omega)
          | (refine lpz (i + 1,false) ⟨⟨⟨_,rfl,(CoR.of_eq (congrArg (fun z=>HR.v (.one (.ref 951 z))) hl2.symm))⟩,⟨_,rfl,(cob (zh _ hil hs))⟩,⟨_,rfl,(CoR.refl _)⟩,⟨_,rfl,(CoC.one (apa hil))⟩,tt⟩,⟨⟨_,rfl,(yi hil hs rfl (gk _ _) (CoP.of_eq (congrArg (fun z=>PV.raw (.int .u32 z)) (it _ _))))⟩,uu⟩⟩ ?_;show i + 1 <= _;omega)
          | (refine lpz (i + 1,true) ⟨⟨⟨_,rfl,(ce (qx hil hs))⟩,⟨_,rfl,(cob (a7c _ hil hs))⟩,⟨_,rfl,(CoR.refl _)⟩,⟨_,rfl,(CoR.of_eq (congrArg (fun z=>HR.v (.one (.win 900 z 0 _))) (congrArg List.length (qx hil hs)).symm))⟩,tt⟩,⟨⟨_,rfl,(bv (qx hil hs))⟩,uu⟩⟩ ?_;show i + 1 <= _;omega)
   obtain rfl:i = (cz (ms.take j) l).length:=by omega
   refine w_5 ?_;exact lpx (j + 1) ⟨⟨⟨_,rfl,(ce (by rw [a5c bsq,a3t]))⟩,⟨_,rfl,(cob (by rw [anh bsq,bog]))⟩,tt⟩,⟨⟨_,rfl,(bv (by rw [a5c bsq,a3t]))⟩,trivial⟩⟩
  obtain rfl:j = ms.length:=by omega
  rw [show ms.take ms.length = ms from bog];refine dy ?_;refine ⟨(f - 1,cz ms l,nv ms l), ?_, ?_, ?_⟩
  · exact hI2
  · exact b8n hf
  exact kk
 have h1:=r1;obtain rfl:ag = false:=r1;have hl:l = (blks ms (a6 n &&& ~~~x)):=hI.f rfl;subst hl;refine w_2 ?_;refine b6 7 rfl rfl rfl ?_;refine w_2 ?_;refine qcx a0l (a94 (blks ms (a6 n &&& ~~~x)) (bon (ags hI.ok) bsu)) ?_;refine v_2 ?_;exact CoL.refl _
end
section
def b8g {f:Fd} {k:Nat} (h:k < (al f.rhs).length):(sgl f).getD k default = ⟨f.lhs,j8 ((al f.rhs).getD k default)⟩:=by
 unfold sgl;simp [bo7,bo6 h]
def afa (f:Fd):(sgl f).length = (al f.rhs).length:=by unfold sgl;rw [bp2]
def at7 {fs ms:List Fd} {i k:Nat} (h:k < (al (fs.getD i default).rhs).length):mr fs ms i (k + 1) = mr fs ms i k ++ [⟨(fs.getD i default).lhs,j8 ((al (fs.getD i default).rhs).getD k default)⟩]:=by
 rw [b10 (by rw [afa];exact h),b8g h]
def ars {fs ms:List Fd} {i:Nat} (h:i < fs.length):mr fs ms (i + 1) 0 = mr fs ms i (al (fs.getD i default).rhs).length:=by rw [b11 h,afa]
def bc0 {a b:AS} {k:Nat} (h:sub a b) (hb:b >>> k = 0):a >>> k = 0:=by
 apply mf;intro i hi;have:=congrArg (fun z:AS=>z.getLsbD i) hb;simp only [br7] at this ⊢
 cases ha:a.getLsbD (k + i) with
 | false=>simp
 | true=>rw [ae.1 h _ (a1g ha) ha] at this;simp at this
def a0u (b:AS) (f:Fd):Bool:=!decide ((f.rhs &&& ~~~f.lhs) &&& b = 0)
def xb (l:List Fd) (o b:AS):AS:=if bsz b = 1 then (if l.any (a0u b) = true then o ||| b else o) else o
def wc (l:List Fd) (o:AS) (bs:List AS):AS:=bs.foldl (xb l) o
def a8c {l:List Fd} {o:AS} {bs:List AS} {i:Nat} (h:i < bs.length):wc l o (bs.take (i + 1)) = xb l (wc l o (bs.take i)) (bs.getD i default):=by
 unfold wc;rw [aw h,bpk];rfl
section
variable {l:List Fd} {o:AS} {bs:List AS} {i:Nat}
def aky (h:i < bs.length) (hq:¬ bsz (bs.getD i default) = 1):wc l o (bs.take i) = wc l o (bs.take (i + 1)):=by rw [a8c h,xb,if_neg hq]
def aku (h:i < bs.length) (hq:bsz (bs.getD i default) = 1) (ha:l.any (a0u (bs.getD i default)) = false):wc l o (bs.take i) = wc l o (bs.take (i + 1)):=by rw [a8c h,xb,if_pos hq,if_neg (by rw [ha];decide)]
def aps (h:i < bs.length) (hq:bsz (bs.getD i default) = 1) (ha:l.any (a0u (bs.getD i default)) = true):wc l o (bs.take i) ||| bs.getD i default = wc l o (bs.take (i + 1)):=by rw [a8c h,xb,if_pos hq,if_pos ha]
end
def dt (n:Int) (l m:List Fd) (x:AS):List AS:=ord (blks (j5 l m) (a6 n &&& ~~~x))
def b5m (n:Int) (l m:List Fd) (x:AS):List AS:=if ckB n l m x = 0 then dt n l m x else []
def rz (n:Int) (l m:List Fd) (x:AS):AS:=wc l x (dt n l m x)
def avo (n:Int) (l m:List Fd) (x:AS):AS:=if ckB n l m x = 0 then rz n l m x else 0
def b2l (ms:List Fd) (rest:AS):OkB (blks ms rest):=by
 have:∀ (f:Nat) (l:List AS),OkB l -> OkB (zr ms f l):=by
  intro f
  induction f with
  | zero=>intro l h;exact h
  | succ f ih =>
   intro l h;unfold zr;split
   · exact ih _ (a9b h)
   exact a9b h
 exact this _ _ (air rest)
def a61 (n:Int) (l m:List Fd) (x:AS):(dt n l m x).length <= 4294967296:=bon (n3 _) (ags (b2l _ _))
def mt (p:AS) (bs:List AS):List AS:=(bs.filter fun b=>!decide (b &&& p = 0)).map fun b=>b &&& p
section
variable {i:Nat} {p:AS}
def ym {bs:List AS} (h:i < bs.length) (hq:¬ bs.getD i default &&& p = 0):mt p (bs.take (i + 1)) = mt p (bs.take i) ++ [bs.getD i default &&& p]:=by
 unfold mt;rw [aw h,bpr,bqi,bpp,if_pos (by rw [decide_eq_false hq];rfl)];rfl
def z8 {bs:List AS} (h:i < bs.length) (hq:bs.getD i default &&& p = 0):mt p (bs.take (i + 1)) = mt p (bs.take i):=by
 unfold mt;rw [aw h,bpr,bqi,bpp,if_neg (by rw [decide_eq_true hq];decide)];simp
def acl (p:AS) (bs:List AS):(mt p bs).length <= bs.length:=by
 unfold mt;rw [bp2];exact bqb _ _
def jb (n:Int) (l m:List Fd) (x p:AS):List AS:=ord (mt p (dt n l m x))
def a9y (n:Int) (l m:List Fd) (x p:AS):(mt p (dt n l m x)).length <= 8589934592:=bon (acl _ _) (bon (a61 _ _ _ _) bsu)
def ck4 (n:Int) (l m:List Fd) (s:AS):Int:=if n < 0 \/ 8 < n then 7 else ckB n l m s
variable {l m:List Fd} {n:Int} {s:AS}
def b6p (h:n < 0 \/ 8 < n):ck4 n l m s = 7:=if_pos h
def a60 (h:¬ (n < 0 \/ 8 < n)):ck4 n l m s = ckB n l m s:=if_neg h
def yn (h:ck4 n l m s = 0):0 <= n /\ n <= 8 /\ ckB n l m s = 0:=by
 unfold ck4 at h;split at h
 · cases h
 exact ⟨by omega,by omega,h⟩
def ahs {t:AS} (h:ckB n l m s = 0) (ht:sub t s):ckB n l m t = 0:=afj (a7o h).1 (bc0 ht (a7o h).2)
def afs {t:AS} (h:ck4 n l m s = 0) (ht:sub t s):ck4 n l m t = 0:=by
 obtain ⟨h1,h2,h3⟩:=yn h;rw [a60 bsq];exact ahs h3 ht
def b46 (n:Int) (l m:List Fd) (x p:AS):List AS:=if ck4 n l m (x ||| p) = 0 then jb n l m x p else []
def a3f (n:Int) (l m:List Fd) (p x:AS):Option Fd:=if p &&& ~~~(rz n l m x) = 0 then none else if 1 < (jb n l m x p).length then some ⟨x,(jb n l m x p).getD 0 default⟩ else none
def d8 (n:Int) (l m:List Fd) (p:AS):Option Fd:=(av p).findSome? (a3f n l m p)
def agt:Option Fd -> Fd × Bool
 | some v=>(v,true)
 | none=>(⟨0,0⟩,false)
def a84 (n:Int) (l m:List Fd) (p:AS):Fd × Bool:=if ck4 n l m p = 0 then agt (d8 n l m p) else (⟨0,0⟩,false)
def bf5 (h:¬ ck4 n l m p = 0):a84 n l m p = (⟨0,0⟩,false):=if_neg h
def aee (h:ck4 n l m p = 0):a84 n l m p = agt (d8 n l m p):=if_pos h
def kr {α β:Type} [Inhabited α] {f:α -> Option β} {l:List α} (h:i < l.length) (hn:(l.take i).findSome? f = none):(l.take (i + 1)).findSome? f = f (l.getD i default):=by
 rw [aw h,List.findSome?_append,hn];simp only [List.findSome?_cons,List.findSome?_nil,Option.none_or];cases f (l.getD i default) <;> rfl
def vk {α β:Type} [Inhabited α] {f:α -> Option β} {l:List α} {v:β} (h:i < l.length) (hn:(l.take i).findSome? f = none) (hv:f (l.getD i default) = some v):l.findSome? f = some v:=by
 have h1:=kr h hn;rw [hv] at h1;rw [<- brd (i + 1) l,List.findSome?_append,h1];rfl
def a2c {z:AS} (h:z ∈ av s):sub z s:=by
 unfold av at h;split at h
 · cases h
 exact rt.1 h
def pj {α:Type} [Inhabited α] {l:List α} (h:i < l.length):l.getD i default ∈ l:=by
 rw [bo7,bo6 h];exact bp3 h
def ac8 {x c:AS}:c ∈ jb n l m x p <-> ∃ b ∈ blks (j5 l m) (a6 n &&& ~~~x),b &&& p ≠ 0 /\ c = b &&& p:=by
 unfold jb mt dt;rw [gn,boo];constructor
 · rintro ⟨b,hb,rfl⟩
   rw [bpq,gn] at hb;exact ⟨b,hb.1,by simpa using hb.2,rfl⟩
 rintro ⟨b,hb,h,rfl⟩;exact ⟨b,bpq.2 ⟨gn.2 hb,by simpa using h⟩,rfl⟩
def a9k (V:AS -> Option Fd):Prop:=∀ p v,V p = some v -> sub (v.lhs ||| v.rhs) p /\ v.lhs ||| v.rhs ≠ p /\ p &&& ~~~v.rhs ≠ p
def up (n:Int) (l m:List Fd):a9k (d8 n l m):=by
 intro p v h;unfold d8 at h;obtain ⟨x,hx,hv⟩:=bqt h;have hxp:=a2c hx;unfold a3f at hv;split at hv
 · cases hv
 split at hv
 · rename_i hlen
   cases hv;have hbk:=(a3j (j5 l m) (a6 n &&& ~~~x)).1;have m0:=pj (l:=jb n l m x p) (i:=0) bsq;have m1:=pj (l:=jb n l m x p) (i:=1) hlen;have hnd:=yw (mt p (dt n l m x))
   have hne:(jb n l m x p).getD 0 default ≠ (jb n l m x p).getD 1 default:=by
    intro e;rw [bo7,bo7,bo6 (show 0 < (jb n l m x p).length by omega),bo6 hlen,bp0,bp0] at e;have:=(List.getElem_inj (xs:=jb n l m x p) hnd).1 e;omega
   generalize (jb n l m x p).getD 0 default = c0 at *;generalize (jb n l m x p).getD 1 default = c1 at *;obtain ⟨b0,hb0,hz0,rfl⟩:=ac8.1 m0;obtain ⟨b1,hb1,hz1,rfl⟩:=ac8.1 m1;dsimp only;refine ⟨sc hxp lu,fun e=>?_,fun e=>?_⟩
   · obtain ⟨a,ha,h1,h2⟩:=z6 hz1
     have h3:=congrArg (fun z:AS=>z.getLsbD a) e;simp only [bpj,boh,h2,Bool.and_true] at h3;have hr:=ae.1 (hbk.sub hb1) a ha h1;rw [c7 ha,boc] at hr;have hxa:x.getLsbD a = false:=by simpa using hr.2
     rw [hxa,Bool.false_or] at h3;exact hne (by rw [hbk.one hb0 hb1 h3 h1])
   obtain ⟨a,ha,h1,h2⟩:=z6 hz0;have h3:=congrArg (fun z:AS=>z.getLsbD a) e;simp only [c7 ha,boh,h1,h2] at h3;simp at h3
 cases hv
end
section
variable {V:AS -> Option Fd}
def vF (V:AS -> Option Fd) (s:AS):Fd:=(agt (V s)).1
def vBo (V:AS -> Option Fd) (s:AS):Bool:=(agt (V s)).2
def o6 (V:AS -> Option Fd) (s:AS):AS:=(vF V s).lhs ||| (vF V s).rhs
def o7 (V:AS -> Option Fd) (s:AS):AS:=s &&& ~~~(vF V s).rhs
def a63 {s:AS} (h:vBo V s = true):V s = some (vF V s):=by
 unfold vBo at h;unfold vF
 cases hv:V s with
 | none=>rw [hv] at h;cases h
 | some v=>rfl
def a1d (V:AS -> Option Fd):Nat -> List AS -> List AS -> List AS
 | 0,_,out=>out
 | n + 1,todo,out =>
  if todo.length = 0 then out
  else if vBo V (todo.getD (todo.length - 1) default) = true then a1d V n (todo.take (todo.length - 1) ++ [o6 V (todo.getD (todo.length - 1) default),o7 V (todo.getD (todo.length - 1) default)]) out
  else a1d V n (todo.take (todo.length - 1)) (out ++ [todo.getD (todo.length - 1) default])
def a89 (V:AS -> Option Fd) (p0:AS) (x:Nat × List AS × List AS):Prop:=a1d V x.1 x.2.1 x.2.2 = a1d V 6562 [p0] [] /\ f7 x.2.1 < x.1 /\ x.2.2.length + x.1 <= 6562
def ajm {n:Int} (h8:n <= 8):a89 V (a6 n) (6562,[a6 n],[]):=by
 refine ⟨rfl, ?_,bo9 _⟩;show 3 ^ bsz (a6 n) + 0 < 6562;have h1:=y7 (n:=n) (m:=8) h8 bsq;have h2:3 ^ bsz (a6 n) <= 3 ^ 8:=bpm bsq h1;have h3:3 ^ 8 = 6561:=rfl;omega
section
variable {p0:AS} {x:Nat × List AS × List AS}
def a5z (h:a89 V p0 x):x.2.1.length < 6562 /\ x.2.2.length <= 6562 /\ 0 < x.1:=by
 have:=acu x.2.1;obtain ⟨h1,h2,h3⟩:=h;omega
def b2b (h:a89 V p0 x) (h0:x.2.1.length = 0):x.2.2 = a1d V 6562 [p0] []:=by
 have hp:=(a5z h).2.2;obtain ⟨h1,h2,h3⟩:=h;obtain ⟨m,hm⟩:∃ m,x.1 = m + 1:=⟨x.1 - 1,by omega⟩;rw [hm] at h1;unfold a1d at h1;rw [if_pos h0] at h1;exact h1
def zf (hV:a9k V) {s:AS} (h:vBo V s = true):bsz (o6 V s) < bsz s /\ bsz (o7 V s) < bsz s:=by
 obtain ⟨h1,h2,h3⟩:=hV s _ (a63 h);exact ⟨j0 h1 h2,j0 d6 h3⟩
def ay7 (hV:a9k V) (h:a89 V p0 x) (h0:0 < x.2.1.length) (hv:vBo V (x.2.1.getD (x.2.1.length - 1) default) = true):
 a89 V p0 (x.1 - 1,x.2.1.take (x.2.1.length - 1) ++ [o6 V (x.2.1.getD (x.2.1.length - 1) default),o7 V (x.2.1.getD (x.2.1.length - 1) default)],x.2.2):=by
 have hp:=(a5z h).2.2;obtain ⟨h1,h2,h3⟩:=h;obtain ⟨m,hm⟩:∃ m,x.1 = m + 1:=⟨x.1 - 1,by omega⟩;rw [hm] at h1;unfold a1d at h1;rw [if_neg bsq,if_pos hv] at h1;refine ⟨by rw [hm];exact h1, ?_,by dsimp only;omega⟩;have e:=jl (x.2.1.take (x.2.1.length - 1)) [x.2.1.getD (x.2.1.length - 1) default];rw [<- pi h0] at e;have e1:f7 [x.2.1.getD (x.2.1.length - 1) default] = 3 ^ bsz (x.2.1.getD (x.2.1.length - 1) default):=by simp [f7]
 generalize x.2.1.getD (x.2.1.length - 1) default = s at *;dsimp only;rw [jl];have e2:f7 [o6 V s,o7 V s] = 3 ^ bsz (o6 V s) + 3 ^ bsz (o7 V s):=by simp [f7]
 obtain ⟨g1,g2⟩:=zf hV hv;obtain ⟨b,hb⟩:∃ b,bsz s = b + 1:=⟨bsz s - 1,by omega⟩;have p1:3 ^ bsz (o6 V s) <= 3 ^ b:=bpm bsq bsq;have p2:3 ^ bsz (o7 V s) <= 3 ^ b:=bpm bsq bsq;have p3:3 ^ bsz s = 3 ^ b * 3:=by rw [hb,bs6]
 have p4:0 < 3 ^ b:=bqv bsq;omega
def axr (h:a89 V p0 x) (h0:0 < x.2.1.length) (hv:vBo V (x.2.1.getD (x.2.1.length - 1) default) = false):
 a89 V p0 (x.1 - 1,x.2.1.take (x.2.1.length - 1),x.2.2 ++ [x.2.1.getD (x.2.1.length - 1) default]):=by
 have hp:=(a5z h).2.2;obtain ⟨h1,h2,h3⟩:=h;obtain ⟨m,hm⟩:∃ m,x.1 = m + 1:=⟨x.1 - 1,by omega⟩;rw [hm] at h1;unfold a1d at h1;rw [if_neg bsq,if_neg (by rw [hv];decide)] at h1;refine ⟨by rw [hm];exact h1, ?_,by dsimp only;rw [bob,bpz];omega⟩;have e:=jl (x.2.1.take (x.2.1.length - 1)) [x.2.1.getD (x.2.1.length - 1) default];rw [<- pi h0] at e;have e1:f7 [x.2.1.getD (x.2.1.length - 1) default] = 3 ^ bsz (x.2.1.getD (x.2.1.length - 1) default):=by simp [f7]
 have p4:0 < 3 ^ bsz (x.2.1.getD (x.2.1.length - 1) default):=bqv bsq;dsimp only;omega
def lvG (V:AS -> Option Fd):Nat -> AS -> List AS
 | 0,s=>[s]
 | n + 1,s=>if vBo V s = true then lvG V n (o6 V s) ++ lvG V n (o7 V s) else [s]
def a14 (hV:a9k V):∀ (a b:Nat) (s:AS),bsz s < a -> bsz s < b -> lvG V a s = lvG V b s
 | 0,_,_,h,_=>absurd h (bod _)
 | _,0,_,_,h=>absurd h (bod _)
 | a + 1,b + 1,s,ha,hb=>by
  unfold lvG;split
  · rename_i hv
    obtain ⟨g1,g2⟩:=zf hV hv;rw [a14 hV a b _ bsq bsq,a14 hV a b _ bsq bsq]
  rfl
def bl2 (hV:a9k V) {s:AS} (h:vBo V s = true):lvG V 33 s = lvG V 33 (o6 V s) ++ lvG V 33 (o7 V s):=by
 have h1:lvG V 33 s = lvG V 32 (o6 V s) ++ lvG V 32 (o7 V s):=by
  show (if vBo V s = true then _ else _) = _;rw [if_pos h]
 obtain ⟨g1,g2⟩:=zf hV h;have:=aer s;rw [h1,a14 hV 32 33 _ bsq bsq,a14 hV 32 33 _ bsq bsq]
def biw {s:AS} (h:vBo V s = false):lvG V 33 s = [s]:=by
 show (if vBo V s = true then _ else _) = _;rw [if_neg (by rw [h];decide)]
def ac3 (hV:a9k V):∀ (f:Nat) (todo out:List AS),f7 todo < f -> ∀ z,z ∈ a1d V f todo out <-> z ∈ out \/ ∃ s ∈ todo,z ∈ lvG V 33 s
 | 0,_,_,h,_=>absurd h (bod _)
 | f + 1,todo,out,hm,z=>by
  unfold a1d;by_cases h0:todo.length = 0
  · rw [if_pos h0]
    obtain rfl:=brl.1 h0;simp
  rw [if_neg h0];have htl:=pi (todo:=todo) bsq;have e:=jl (todo.take (todo.length - 1)) [todo.getD (todo.length - 1) default];rw [<- htl] at e;have e1:f7 [todo.getD (todo.length - 1) default] = 3 ^ bsz (todo.getD (todo.length - 1) default):=by simp [f7]
  generalize hs:todo.getD (todo.length - 1) default = s at *;generalize todo.take (todo.length - 1) = t at *
  have hmem:∀ P:AS -> Prop,(∃ q ∈ todo,P q) <-> (∃ q ∈ t,P q) \/ P s:=fun P=>by
   rw [htl];simp only [boj,bom];constructor
   · rintro ⟨q,h | rfl,hp⟩
     · exact .inl ⟨q,h,hp⟩
     exact .inr hp
   rintro (⟨q,h,hp⟩ | hp)
   · exact ⟨q, .inl h,hp⟩
   exact ⟨s, .inr rfl,hp⟩
  have p4:0 < 3 ^ bsz s:=bqv bsq;cases hv:vBo V s
  · simp only [bpe,if_false]
    rw [ac3 hV f t _ bsq z,hmem,biw hv];simp only [boj,bom];constructor
    · rintro ((h | h) | h)
      · exact .inl h
      · exact .inr (.inr h)
      exact .inr (.inl h)
    rintro (h | h | h)
    · exact .inl (.inl h)
    · exact .inr h
    exact .inl (.inr h)
  simp only [if_true];obtain ⟨g1,g2⟩:=zf hV hv;have e2:f7 [o6 V s,o7 V s] = 3 ^ bsz (o6 V s) + 3 ^ bsz (o7 V s):=by simp [f7]
  obtain ⟨b,hb⟩:∃ b,bsz s = b + 1:=⟨bsz s - 1,by omega⟩;have p1:3 ^ bsz (o6 V s) <= 3 ^ b:=bpm bsq bsq;have p2:3 ^ bsz (o7 V s) <= 3 ^ b:=bpm bsq bsq;have p3:3 ^ bsz s = 3 ^ b * 3:=by rw [hb,bs6]
  have p5:0 < 3 ^ b:=bqv bsq;rw [ac3 hV f _ out (by rw [jl,e2];omega) z,hmem,bl2 hV hv];simp only [boj,bok,List.not_mem_nil,or_false];constructor
  · rintro (h | ⟨q,h | rfl | rfl,hq⟩)
    · exact .inl h
    · exact .inr (.inl ⟨q,h,hq⟩)
    · exact .inr (.inr (.inl hq))
    exact .inr (.inr (.inr hq))
  rintro (h | ⟨q,h,hq⟩ | h | h)
  · exact .inl h
  · exact .inr ⟨q, .inl h,hq⟩
  · exact .inr ⟨_, .inr (.inl rfl),h⟩
  exact .inr ⟨_, .inr (.inr rfl),h⟩
end
end
def agx (n:Int) (l m:List Fd):List AS:=a1d (d8 n l m) 6562 [a6 n] []
def xl (n:Int) (l m:List Fd):List AS:=if ck4 n l m 0 = 0 then ef (agx n l m) else []
def b00 {n:Int} {l m:List Fd} (h:ck4 n l m 0 = 0):xl n l m = ef (agx n l m):=if_pos h
def bfj {n:Int} {l m:List Fd} (h:¬ ck4 n l m 0 = 0):xl n l m = []:=if_neg h
end
end Go.Hx
