/- A part of the proof: V11 Cs14 V12 Cs15 V13 Cs16 V14 Hx24 Cs17. -/
import Derived.Test.YtkkenjdfbojdlaaGreatDoorIx14
import Derived.Test.YtkkenjdfbojdlaaGreatDoorIx18
set_option linter.all false
set_option maxRecDepth 100000
set_option maxHeartbeats 1000000
namespace Go.Hx
section
open Go.Proofs
def b60 (l:List Fd) (hl:l.length <= 4096):cb brj 229 [.one (.p (fdl l))] [] (.v (.one (.ref 900 (spl l).length))) [(900, .arr true 2 48 (spl l).length (lf Fd.c (spl l)))] []:=by
 refine hfx (nt:=37) Tryz.func229 ?_;refine bz ?_;refine ca 0 rfl fun hn=>?_;refine w_6 ?_;refine bw 3 901 true 2 48 (lf Fd.c []) br2 rfl (CoP.sl rfl (.inr rfl) (fun h=>h) (fun i j hi _=>absurd hi (bmq i))) (.inr rfl) rfl ?_;refine b7 (ka 8 (ka 9 kn)) km (fun i=>⟨[(3,some (.v (.one (.ref 901 (fy (l.take i)).length)))),(10,some (vI i))],[(901,some (.arr true 2 48 (fy (l.take i)).length (lf Fd.c (fy (l.take i)))))]⟩) l.length kk ?_;rintro i hi;refine w_5 ?_;refine hcd (fun h0=>?_) (fun h0=>?_)
 ·
  refine w_7 ?_;refine m9 0 ?_;refine w_9 ?_;refine rc rfl rfl rfl rfl rfl rfl a3q (afj ((l.getD i default).rhs &&& ~~~(l.getD i default).lhs)) (⟨cci (gl _ _),trivial⟩) rfl rfl ?_;refine w_4 ?_;refine b7 (ka 5 (ka 8 (ka 9 (ka 10 (ka 19 (ka 20 kn)))))) (kb 0 km) (fun k=>⟨[(3,some (.v (.one (.ref 901 (ol l i k).length)))),(21,some (vI k))],[(901,some (.arr true 2 48 (ol l i k).length (lf Fd.c (ol l i k))))]⟩) ((ak ((l.getD i default).rhs &&& ~~~(l.getD i default).lhs)).length) ⟨⟨⟨_,rfl,(bj (aa9 l i))⟩,tt⟩,⟨⟨_,rfl,(bh (aa9 l i))⟩,trivial⟩⟩ ?_;rintro k hk;have hml:=o6 ((l.getD i default).rhs &&& ~~~(l.getD i default).lhs);have hsl:=atm (l:=l) (i:=i) (k:=k) bqx;refine w_5 ?_;refine hcd (fun h1=>?_) (fun h1=>?_)
  · refine pw ?_;refine rq rfl rfl rfl rfl rfl ?_ (hp:=(boz _));refine qy ?_;refine m9 1 ?_;refine r9 2 true ?_;refine w_7 ?_;exact lpx (k + 1) ⟨⟨⟨_,rfl,(bf (aa5 rfl bqx))⟩,tt⟩,⟨⟨_,rfl,(jp (aa5 rfl bqx) (CoP.refl _) (CoP.of_eq (by exact congrArg (fun z=>PV.raw (.int .u32 z)) (afk _))))⟩,uu⟩⟩
  obtain rfl:k = (ak ((l.getD i default).rhs &&& ~~~(l.getD i default).lhs)).length:=by omega
  refine w_5 ?_;exact lpx (i + 1) ⟨⟨⟨_,rfl,(bj (aeg bqx rfl).symm)⟩,tt⟩,⟨⟨_,rfl,(bh (aeg bqx rfl).symm)⟩,trivial⟩⟩
 obtain rfl:i = l.length:=by omega
 refine w_2 ?_;refine al 3 rfl rfl rfl ?_;refine w_2 ?_;refine fj rfl rfl rfl rfl rfl rfl (wgx Tryz.func231) (b01 (fy l) (bmy (v8 l) bqx)) (⟨CoP.of_eq brb,trivial⟩) trivial rfl rfl ?_;refine w_2 ?_;refine hrr ?_;exact ⟨_,_,rfl,bqz,CoR.refl _,uu⟩
def bkm (l:List Fd) (hl:l.length <= 4096):a6 brj 184 [pP (fdl l)] (a8 [pP (fdl (a74 l))]):=by
 refine hpx (nt:=60) Tryz.func184 ?_;refine w_7 ?_;refine fc9 (wgx Tryz.func229) (b60 l hl) trivial ?_;refine w_4 ?_;have hsl:=ag3 l;refine w_6 ?_;refine b7 (ka 3 (ka 11 kn)) km (fun i=>⟨[(12,some (vI i))],[(900,some (.arr true 2 48 (spl l).length (lf Fd.c (gu (spl l) i))))]⟩) ((spl l).length) kk ?_;rintro i hi;have htl:=j6 (l:=spl l) (i:=i);refine w_5 ?_;refine hcd (fun h0=>?_) (fun h0=>?_)
 ·
  refine n7 ?_;refine qcx a3q (afj ((gu (spl l) i).getD i default).lhs) ?_;refine w_4 ?_;refine b7 (ka 3 (ka 4 (ka 11 (ka 12 (ka 20 (ka 21 kn)))))) km (fun k=>⟨[(22,some (vI k))],[(900,some (.arr true 2 48 (spl l).length (lf Fd.c (s5 (gu (spl l) i) i k))))]⟩) ((ak ((gu (spl l) i).getD i default).lhs).length) ⟨tt,⟨⟨_,rfl,(dg (az8 _ _) rfl)⟩,trivial⟩⟩ ?_;rintro k hk;have hml:=o6 ((gu (spl l) i).getD i default).lhs;refine w_5 ?_;refine hcd (fun h1=>?_) (fun h1=>?_)
  ·
   have hkl:(s5 (gu (spl l) i) i k).length = (spl l).length:=by rw [an2,j6]
   have hhas:=b2z (l:=(gu (spl l) i)) (i:=i) (k:=k) (by rw [j6];omega) bqx;refine yf ?_;refine rc rfl rfl rfl rfl rfl rfl (wgx Tryz.func230) (bf4 (s5 (gu (spl l) i) i k) ((s5 (gu (spl l) i) i k).getD i default) ((ak ((gu (spl l) i).getD i default).lhs).getD k default)) (⟨CoC.one (a8r (by rw [an2,j6])),CoC.refl _,CoC.refl _,trivial⟩) rfl rfl ?_;refine c6 ?_;refine hcb (fun h2=>?_) (fun h2=>?_)
   ·
    refine w_7 ?_;refine rq rfl rfl rfl rfl rfl ?_ (hp:=(boz _));refine bz ?_
    first | (refine ⟨k + 1, ?_, ?_, ?_⟩
             · show k + 1 <= _;omega
             · first | omega | (dsimp only;omega)
             exact ⟨tt,⟨⟨_,rfl,(a99 (i:=i) (a:=(ak ((gu (spl l) i).getD i default).lhs).getD k default) (l:=(s5 (gu (spl l) i) i k)) (by rw [a1s bqx,aye hhas bqy]) (w3 _ _) bqx bqx hkl.symm)⟩,trivial⟩⟩)
          | (refine ⟨k + 1, ?_, ?_, ?_⟩
             · show k + 1 <= _;omega
             · first | omega | (dsimp only;omega)
             exact ⟨tt,⟨⟨_,rfl,(dg (by rw [a1s bqx,awm bqy]) rfl)⟩,trivial⟩⟩)
   refine w_5 ?_
   first | (refine ⟨k + 1, ?_, ?_, ?_⟩
            · show k + 1 <= _;omega
            · first | omega | (dsimp only;omega)
            exact ⟨tt,⟨⟨_,rfl,(a99 (i:=i) (a:=(ak ((gu (spl l) i).getD i default).lhs).getD k default) (l:=(s5 (gu (spl l) i) i k)) (by rw [a1s bqx,aye hhas bqy]) (w3 _ _) bqx bqx hkl.symm)⟩,trivial⟩⟩)
         | (refine ⟨k + 1, ?_, ?_, ?_⟩
            · show k + 1 <= _;omega
            · first | omega | (dsimp only;omega)
            exact ⟨tt,⟨⟨_,rfl,(dg (by rw [a1s bqx,awm bqy]) rfl)⟩,trivial⟩⟩)
  obtain rfl:k = (ak ((gu (spl l) i).getD i default).lhs).length:=by omega
  refine w_5 ?_;exact lpx (i + 1) ⟨tt,⟨⟨_,rfl,(dg (by rw [a1a,b20 rfl]) rfl)⟩,trivial⟩⟩
 obtain rfl:i = (spl l).length:=by omega
 refine w_2 ?_;refine al 3 rfl rfl rfl ?_;refine w_2 ?_;refine rc rfl rfl rfl rfl rfl rfl (wgx Tryz.func231) (bja (gu (spl l) (spl l).length) (by rw [j6];omega)) (⟨CoC.one (a8r (by rw [j6])),trivial⟩) rfl rfl ?_;refine w_4 ?_;have hrl:=a5m l;refine w_4 ?_;refine ae (ι:=List Fd × Nat) kn km (fun x=>⟨[(3,some (bp (fdl x.1))),(7,some (vI x.2))],[]⟩) (fun x=>pj (x.1.length - x.2) x.1 x.2 = a74 l /\ x.2 <= x.1.length /\ x.1.length <= 131072) (fun x=>x.1.length - x.2) ((xz l,0)) (⟨rfl,bms _,by show (xz l).length <= _;omega⟩) ⟨⟨zy,⟨_,rfl,(coi rfl)⟩,trivial⟩,trivial⟩ ?_;rintro x ⟨hx,hx2,hx3⟩;refine w_8 ?_;refine hcd (fun h3=>?_) (fun h3=>?_)
 ·
  refine w_6 ?_;refine qcx (wgx Tryz.func232) (bdy x.1 x.2 bqx bqx) ?_;refine c6 ?_;refine aj _ rfl (fun r4=>?_) (fun r4=>?_)
  ·
   have h4:=r4;have hq:=r4;refine w_3 ?_;refine qcx (wgx Tryz.func233) (at1 x.1 x.2 bqx bqx) ?_;refine w_2 ?_
   first | (refine ⟨(gc x.1 x.2, x.2), ?_, ?_, ?_⟩
            · have ho:=go (l:=x.1) (i:=x.2) bqx
              exact ⟨by rw [<- hx,a9n bqx hq],by dsimp only;omega,by dsimp only;omega⟩
            · have ho:=go (l:=x.1) (i:=x.2) bqx
              dsimp only;omega
            exact ⟨⟨zy,⟨_,rfl,(coi br0)⟩,trivial⟩,trivial⟩)
         | (refine ⟨(x.1,x.2 + 1), ?_, ?_, ?_⟩
            · exact ⟨by rw [<- hx,a8v bqx hq],by dsimp only;omega,by dsimp only;omega⟩
            · first | omega | (dsimp only;omega)
            exact ⟨⟨zy,⟨_,rfl,(coi br0)⟩,trivial⟩,trivial⟩)
  have h4:=r4;have hq:=r4;refine w_5 ?_
  first | (refine ⟨(gc x.1 x.2, x.2), ?_, ?_, ?_⟩
           · have ho:=go (l:=x.1) (i:=x.2) bqx
             exact ⟨by rw [<- hx,a9n bqx hq],by dsimp only;omega,by dsimp only;omega⟩
           · have ho:=go (l:=x.1) (i:=x.2) bqx
             dsimp only;omega
           exact ⟨⟨zy,⟨_,rfl,(coi br0)⟩,trivial⟩,trivial⟩)
        | (refine ⟨(x.1,x.2 + 1), ?_, ?_, ?_⟩
           · exact ⟨by rw [<- hx,a8v bqx hq],by dsimp only;omega,by dsimp only;omega⟩
           · first | omega | (dsimp only;omega)
           exact ⟨⟨zy,⟨_,rfl,(coi br0)⟩,trivial⟩,trivial⟩)
 have hq:=h3;refine v_6 ?_;exact ⟨CoC.one (CoP.of_eq (by rw [<- hx,ai4 bqx])),trivial⟩
def b0h (l:List Fd) (hl:l.length <= 4096):cb brj 193 [.one (.p (fdl l))] [] (.v (.one (.ref 900 (spl l).length))) [(900, .arr true 2 48 (spl l).length (lf Fd.c (spl l)))] []:=by
 refine hfx (nt:=42) Tryz.func193 ?_;refine bz ?_;refine ca 0 rfl fun hn=>?_;refine w_4 ?_;refine bw 3 901 true 2 48 (lf Fd.c []) br2 rfl (CoP.sl rfl (.inr rfl) (fun h=>h) (fun i j hi _=>absurd hi (bmq i))) (.inr rfl) rfl ?_;refine b7 (ka 0 kn) km (fun i=>⟨[(3,some (.v (.one (.ref 901 (fy (l.take i)).length)))),(4,some (vI i))],[(901,some (.arr true 2 48 (fy (l.take i)).length (lf Fd.c (fy (l.take i)))))]⟩) l.length kk ?_;rintro i hi;refine w_8 ?_;refine hcd (fun h0=>?_) (fun h0=>?_)
 ·
  refine w_8 ?_;refine b7 (ka 0 (ka 4 kn)) km (fun k=>⟨[(3,some (.v (.one (.ref 901 (lb l i k).length)))),(5,some (vI k))],[(901,some (.arr true 2 48 (lb l i k).length (lf Fd.c (lb l i k))))]⟩) 32 ⟨⟨⟨_,rfl,(bj (aaf l i))⟩,tt⟩,⟨⟨_,rfl,(bh (aaf l i))⟩,trivial⟩⟩ ?_;rintro k hk;have hsl:=ava (l:=l) (i:=i) (k:=k) bqx;refine w_6 ?_;refine hcd (fun h1=>?_) (fun h1=>?_)
  ·
   refine yf ?_;refine rc rfl rfl rfl rfl rfl rfl oq (a2g ((l.getD i default).rhs &&& ~~~(l.getD i default).lhs) k) (⟨cci (gl _ _),CoC.refl _,trivial⟩) rfl rfl ?_;refine w_2 ?_;refine hcb (fun h2=>?_) (fun h2=>?_)
   ·
    refine bz ?_;refine m9 0 ?_;refine r9 1 true ?_;refine w_8 ?_
    first | (refine ⟨k + 1, ?_, ?_, ?_⟩
             · show k + 1 <= _;omega
             · first | omega | (dsimp only;omega)
             exact ⟨⟨⟨_,rfl,(bf (a42 bqx bqy))⟩,tt⟩,⟨⟨_,rfl,(jp (a42 bqx bqy) (CoP.refl _) (CoP.of_eq (by exact congrArg (fun z=>PV.raw (.int .u32 z)) (afk _))))⟩,trivial⟩⟩)
          | (refine ⟨k + 1, ?_, ?_, ?_⟩
             · show k + 1 <= _;omega
             · first | omega | (dsimp only;omega)
             exact ⟨⟨⟨_,rfl,(bj (a4u bqx bqy))⟩,tt⟩,⟨⟨_,rfl,(bh (a4u bqx bqy))⟩,trivial⟩⟩)
   refine w_6 ?_
   first | (refine ⟨k + 1, ?_, ?_, ?_⟩
            · show k + 1 <= _;omega
            · first | omega | (dsimp only;omega)
            exact ⟨⟨⟨_,rfl,(bf (a42 bqx bqy))⟩,tt⟩,⟨⟨_,rfl,(jp (a42 bqx bqy) (CoP.refl _) (CoP.of_eq (by exact congrArg (fun z=>PV.raw (.int .u32 z)) (afk _))))⟩,trivial⟩⟩)
         | (refine ⟨k + 1, ?_, ?_, ?_⟩
            · show k + 1 <= _;omega
            · first | omega | (dsimp only;omega)
            exact ⟨⟨⟨_,rfl,(bj (a4u bqx bqy))⟩,tt⟩,⟨⟨_,rfl,(bh (a4u bqx bqy))⟩,trivial⟩⟩)
  obtain rfl:k = 32:=by omega
  refine w_6 ?_;exact lpx (i + 1) ⟨⟨⟨_,rfl,(bj (adn bqx).symm)⟩,tt⟩,⟨⟨_,rfl,(bh (adn bqx).symm)⟩,trivial⟩⟩
 obtain rfl:i = l.length:=by omega
 refine w_2 ?_;refine al 3 rfl rfl rfl ?_;refine w_2 ?_;refine fj rfl rfl rfl rfl rfl rfl (wgx Tryz.func195) (are (fy l) (bmy (v8 l) bqx)) (⟨CoP.of_eq brb,trivial⟩) trivial rfl rfl ?_;refine w_2 ?_;refine hrr ?_;exact ⟨_,_,rfl,bqz,CoR.refl _,uu⟩
end
section
def ye (n:Int) (l:List Fd):List Fd:=if b5 n l = 0 then a74 l else []
section
variable {l:List Fd}
def amk {n:Int} (h:b5 n l = 0):ye n l = a74 l:=if_pos h
def az4 {n:Int} (h:¬ b5 n l = 0):ye n l = []:=if_neg h
def bep {s:Nat} {cl:Bool} {f:Nat -> Nat -> PV} {L:List Fd} (h:L = []):CoP (.sl 0 s cl f) (fdl L):=by subst h;exact aw9
def zr {s:Nat} {cl:Bool} {f:Nat -> Nat -> PV} {L:List AS} (h:L = []):CoP (.sl 0 s cl f) (asl L):=by subst h;exact aw9
def a0p (l:List Fd) (i k:Nat):List Fd:=(List.range k).foldl (im i) l
def b3n {i k:Nat}:(a0p l i k).length = l.length:=a15 _ _
def azy (l:List Fd) (i:Nat):a0p l i 0 = l:=rfl
def a18 (l:List Fd) (i k:Nat):a0p l i (k + 1) = im i (a0p l i k) k:=by
 unfold a0p;rw [bod,bo0];rfl
def b1t {n:Int} (hv:b5 n l = 0) {i k:Nat} (hi:i < (spl l).length) (hk:k = n.toNat):a0p (gu (spl l) i) i k = gu (spl l) (i + 1):=by
 obtain ⟨h0,h1,_,_⟩:=ep hv;rw [a1a];refine au1 (by rw [j6];exact hi) bqx ?_;have:=agb (azu (aky hv)) i
 have h2:=this ((gu (spl l) i).getD i default) (by
  rw [bmm,bml (by rw [j6];exact hi)]
  exact bnb _)
 unfold a7 at h2;rw [bok bqx] at h2;rw [hk];exact h2
end
end
section
open Go.Proofs
def bjd (n:Int) (l:List Fd):a6 brj 134 [pI n,pP (fdl l)] (a8 [pP (fdl (ye n l)),pI (b5 n l)]):=by
 refine hpx (nt:=15) Tryz.func134 ?_;refine bz ?_;refine qcx wl (zz n l) ?_;refine w_7 ?_;refine hcn (fun h0=>?_) (fun h0=>?_)
 · refine v_6 ?_;exact ⟨CoC.one (bep (az4 bqy)),CoC.refl _,trivial⟩
 refine w_4 ?_;refine qcx (wgx Tryz.func184) (bkm l (by have:=(ep bqy).2.2.1;omega)) ?_;refine v_3 ?_;exact ⟨CoC.one (CoP.of_eq (by rw [amk bqy])),cci bqx,trivial⟩
def be0 (n:Int) (l:List Fd):a6 brj 141 [pI n,pP (fdl l)] (a8 [pP (fdl (ye n l)),pI (b5 n l)]):=by
 refine hpx (nt:=61) Tryz.func141 ?_;refine bz ?_;refine qcx a2u (z7 n l) ?_;refine w_7 ?_;refine hcn (fun h0=>?_) (fun h0=>?_)
 · have hv:=h0;refine v_6 ?_;exact ⟨CoC.one (bep (az4 hv)),CoC.refl _,trivial⟩
 have hv:=h0;refine w_2 ?_;obtain ⟨hv0,hv1,hv2,_⟩:=ep hv;refine w_2 ?_;refine fc9 (wgx Tryz.func193) (b0h l bqx) trivial ?_;refine w_4 ?_;have hsl:=ag3 l;refine w_4 ?_;refine b7 (ka 0 (ka 7 kn)) km (fun i=>⟨[(8,some (vI i))],[(900,some (.arr true 2 48 (spl l).length (lf Fd.c (gu (spl l) i))))]⟩) ((spl l).length) kk ?_;rintro i hi;have htl:=j6 (l:=spl l) (i:=i);refine w_8 ?_;refine hcd (fun h1=>?_) (fun h1=>?_)
 ·
  refine w_8 ?_;refine b7 (ka 0 (ka 7 (ka 8 kn))) km (fun k=>⟨[(9,some (vI k))],[(900,some (.arr true 2 48 (spl l).length (lf Fd.c (a0p (gu (spl l) i) i k))))]⟩) n.toNat ⟨tt,⟨⟨_,rfl,(dg (azy _ _) rfl)⟩,trivial⟩⟩ ?_;rintro k hk;refine w_7 ?_;refine hcd (fun h2=>?_) (fun h2=>?_)
  ·
   have hkl:(a0p (gu (spl l) i) i k).length = (spl l).length:=by rw [b3n,j6]
   refine w_8 ?_;refine rc rfl rfl rfl rfl rfl rfl (wgx Tryz.func194) (bbp (a0p (gu (spl l) i) i k) i k bqx) (⟨CoC.one (a8r hkl.symm),CoC.refl _,CoC.refl _,trivial⟩) rfl rfl ?_;refine c6 ?_;refine aj _ rfl (fun r3=>?_) (fun r3=>?_)
   ·
    have h3:=r3;have hx:=r3;refine a82 ?_
    first | (refine ⟨k + 1, ?_, ?_, ?_⟩
             · show k + 1 <= _;omega
             · first | omega | (dsimp only;omega)
             exact ⟨tt,⟨⟨_,rfl,(a99 (i:=i) (a:=k) (l:=(a0p (gu (spl l) i) i k)) (by rw [a18,ar0 hx]) (w3 _ _) bqx bqx hkl.symm)⟩,trivial⟩⟩)
          | (refine ⟨k + 1, ?_, ?_, ?_⟩
             · show k + 1 <= _;omega
             · first | omega | (dsimp only;omega)
             exact ⟨tt,⟨⟨_,rfl,(dg (by rw [a18,aqf hx]) rfl)⟩,trivial⟩⟩)
   have h3:=r3;have hx:=r3;refine w_6 ?_
   first | (refine ⟨k + 1, ?_, ?_, ?_⟩
            · show k + 1 <= _;omega
            · first | omega | (dsimp only;omega)
            exact ⟨tt,⟨⟨_,rfl,(a99 (i:=i) (a:=k) (l:=(a0p (gu (spl l) i) i k)) (by rw [a18,ar0 hx]) (w3 _ _) bqx bqx hkl.symm)⟩,trivial⟩⟩)
         | (refine ⟨k + 1, ?_, ?_, ?_⟩
            · show k + 1 <= _;omega
            · first | omega | (dsimp only;omega)
            exact ⟨tt,⟨⟨_,rfl,(dg (by rw [a18,aqf hx]) rfl)⟩,trivial⟩⟩)
  obtain rfl:k = n.toNat:=by omega
  refine w_6 ?_;exact lpx (i + 1) ⟨tt,⟨⟨_,rfl,(dg (b1t hv bqx rfl).symm rfl)⟩,trivial⟩⟩
 obtain rfl:i = (spl l).length:=by omega
 refine w_2 ?_;refine al 7 rfl rfl rfl ?_;refine w_2 ?_;refine rc rfl rfl rfl rfl rfl rfl (wgx Tryz.func195) (bdt (gu (spl l) (spl l).length) (by rw [j6];omega)) (⟨CoC.one (a8r (by rw [j6])),trivial⟩) rfl rfl ?_;refine w_4 ?_;have hrl:=a5m l;refine w_4 ?_;refine ae (ι:=List Fd × Nat) kn km (fun x=>⟨[(7,some (bp (fdl x.1))),(10,some (vI x.2))],[]⟩) (fun x=>pj (x.1.length - x.2) x.1 x.2 = a74 l /\ x.2 <= x.1.length /\ x.1.length <= 131072) (fun x=>x.1.length - x.2) ((xz l,0)) (⟨rfl,bms _,by show (xz l).length <= _;omega⟩) ⟨⟨zy,⟨_,rfl,(coi rfl)⟩,trivial⟩,trivial⟩ ?_;rintro x ⟨hx,hx2,hx3⟩;refine w_8 ?_;refine hcd (fun h4=>?_) (fun h4=>?_)
 ·
  refine w_6 ?_;refine qcx (wgx Tryz.func196) (b93 x.1 x.2 bqx bqx) ?_;refine c6 ?_;refine aj _ rfl (fun r5=>?_) (fun r5=>?_)
  ·
   have h5:=r5;have hq:=r5;refine w_3 ?_;refine qcx (wgx Tryz.func197) (amj x.1 x.2 bqx bqx) ?_;refine w_2 ?_
   first | (refine ⟨(gc x.1 x.2, x.2), ?_, ?_, ?_⟩
            · have ho:=go (l:=x.1) (i:=x.2) bqx
              exact ⟨by rw [<- hx,a9n bqx hq],by dsimp only;omega,by dsimp only;omega⟩
            · have ho:=go (l:=x.1) (i:=x.2) bqx
              dsimp only;omega
            exact ⟨⟨zy,⟨_,rfl,(coi br0)⟩,trivial⟩,trivial⟩)
         | (refine ⟨(x.1,x.2 + 1), ?_, ?_, ?_⟩
            · exact ⟨by rw [<- hx,a8v bqx hq],by dsimp only;omega,by dsimp only;omega⟩
            · first | omega | (dsimp only;omega)
            exact ⟨⟨zy,⟨_,rfl,(coi br0)⟩,trivial⟩,trivial⟩)
  have h5:=r5;have hq:=r5;refine w_5 ?_
  first | (refine ⟨(gc x.1 x.2, x.2), ?_, ?_, ?_⟩
           · have ho:=go (l:=x.1) (i:=x.2) bqx
             exact ⟨by rw [<- hx,a9n bqx hq],by dsimp only;omega,by dsimp only;omega⟩
           · have ho:=go (l:=x.1) (i:=x.2) bqx
             dsimp only;omega
           exact ⟨⟨zy,⟨_,rfl,(coi br0)⟩,trivial⟩,trivial⟩)
        | (refine ⟨(x.1,x.2 + 1), ?_, ?_, ?_⟩
           · exact ⟨by rw [<- hx,a8v bqx hq],by dsimp only;omega,by dsimp only;omega⟩
           · first | omega | (dsimp only;omega)
           exact ⟨⟨zy,⟨_,rfl,(coi br0)⟩,trivial⟩,trivial⟩)
 have hq:=h4;refine v_7 ?_;exact ⟨CoC.one (CoP.of_eq (by rw [amk hv,<- hx,ai4 bqx])),cci bqx,trivial⟩
end
section
def a5b (a b:Nat):a &&& b = 2 * (a / 2 &&& b / 2) + (a % 2 &&& b % 2):=by
 have h1:=Nat.div_add_mod (a &&& b) 2
 have h2:(a &&& b) % 2 = a % 2 &&& b % 2:=by
  have:=Nat.and_mod_two_pow (a:=a) (b:=b) (n:=1);simpa using this
 rw [Nat.and_div_two,h2] at h1;exact h1.symm
def afw (a b:Nat):(a % 2 &&& b % 2) = if a % 2 = 1 /\ b % 2 = 1 then 1 else 0:=by
 rcases Nat.mod_two_eq_zero_or_one a with h | h <;> rcases Nat.mod_two_eq_zero_or_one b with k | k <;> rw [h,k] <;> rfl
section
variable {x:Nat}
def a6r {s:Nat} (h:x &&& s = x):(x / 2 &&& s / 2 = x / 2) /\ (x % 2 = 1 -> s % 2 = 1):=by
 have h1:=a5b x s;rw [h,afw] at h1;split at h1 <;> rename_i hc
 · exact ⟨by omega,fun _=>hc.2⟩
 exact ⟨by omega,fun hx=>by omega⟩
def alr:∀ (x s z:Nat),x &&& s = x -> z &&& s = z -> z < x -> z <= ((x - 1) &&& s):=by
 intro x
 induction x using Nat.strongRecOn with
 | _ x ih =>
  intro s z hx hz hlt;obtain ⟨x1,x2⟩:=a6r hx;obtain ⟨z1,z2⟩:=a6r hz;rw [a5b (x - 1) s,afw]
  rcases Nat.mod_two_eq_zero_or_one x with hb | hb
  · have e1:(x - 1) / 2 = x / 2 - 1:=by omega
    have e2:(x - 1) % 2 = 1:=by omega
    have:=ih (x / 2) bqx (s / 2) (z / 2) x1 z1 bqx;rw [e1,e2];by_cases hs:s % 2 = 1
    · rw [if_pos ⟨rfl,hs⟩];omega
    rw [if_neg (fun h=>hs h.2)];have:z % 2 = 0:=by omega
    omega
  have e1:(x - 1) / 2 = x / 2:=by omega
  have e2:(x - 1) % 2 = 0:=by omega
  rw [e1,e2,x1,if_neg bqx];omega
def aqi:∀ (w y s:Nat),y &&& s = y -> s < 2 ^ w -> ((2 ^ w - 1 - y) &&& s) = s - y:=by
 intro w
 induction w with
 | zero=>intro y s h hs;obtain rfl:s = 0:=(by simpa using hs);simp
 | succ w ih =>
  intro y s h hs;obtain ⟨y1,y2⟩:=a6r h;have hle:y <= s:=by rw [<- h];exact bpl
  rw [bqe] at hs ⊢;have hp:=bql w;have:=ih (y / 2) (s / 2) y1 bqx;have hle2:y / 2 <= s / 2:=by omega
  rw [a5b,afw,show (2 ^ w * 2 - 1 - y) / 2 = 2 ^ w - 1 - y / 2 by omega,this];split <;> omega
def avs {y s:Nat} (h:y &&& s = y):(s - y) &&& s = s - y:=by
 rw [<- aqi s y s h Nat.lt_two_pow_self,Nat.and_assoc,Nat.and_self]
def b9w {w s:Nat} (hx:x &&& s = x) (hs:s < 2 ^ w) (hne:x < s):((2 ^ w + x - s) &&& s) = s - ((s - x - 1) &&& s):=by
 have h1:((s - x - 1) &&& s) &&& s = (s - x - 1) &&& s:=by rw [Nat.and_assoc,Nat.and_self]
 rw [<- aqi w _ s h1 hs];have hp:=bql w;apply Nat.eq_of_testBit_eq;intro i;have hlt:s - x - 1 < 2 ^ w:=by omega
 have hlt2:((s - x - 1) &&& s) < 2 ^ w:=bq1 Nat.and_le_left hlt;rw [Nat.testBit_and,Nat.testBit_and,show 2 ^ w + x - s = 2 ^ w - (s - x - 1 + 1) by omega,Nat.testBit_two_pow_sub_succ hlt,show 2 ^ w - 1 - ((s - x - 1) &&& s) = 2 ^ w - (((s - x - 1) &&& s) + 1) by omega,Nat.testBit_two_pow_sub_succ hlt2,Nat.testBit_and];cases s.testBit i <;> simp
def amb {w s z:Nat} (hx:x &&& s = x) (hs:s < 2 ^ w) (hz:z &&& s = z) (hlt:x < z):((2 ^ w + x - s) &&& s) <= z /\ x < ((2 ^ w + x - s) &&& s):=by
 have hzs:z <= s:=by rw [<- hz];exact bpl
 rw [b9w hx hs bqx];have h1:=alr (s - x) s (s - z) (avs hx) (avs hz) bqx;have h2:((s - x - 1) &&& s) <= s - x - 1:=Nat.and_le_left;omega
variable {s z:AS}
def a7v:sub z s <-> z.toNat &&& s.toNat = z.toNat:=by
 rw [<- bpk,BitVec.toNat_inj,ap];constructor
 · intro h
   apply bo5;intro k hk;rw [bn4]
   cases hz:z.getLsbD k with
   | false=>rfl
   | true=>rw [h k hk hz];rfl
 intro h i _ hi;rw [<- h,bn4] at hi;simp at hi;exact hi.2
def ah2 (h:sub z s):bsz z <= bsz s:=by
 unfold bsz;apply List.countP_mono_left;intro i hi hb;exact ap.1 h i (bn3.1 hi) hb
def a1n (s:AS):Nat -> AS -> List AS
 | 0,_=>[]
 | n + 1,x=>x :: if x = 0 then [] else a1n s n ((x - 1) &&& s)
def a49 {x:AS} (h:x ≠ 0):(x - 1).toNat = x.toNat - 1:=by
 have h0:x.toNat ≠ 0:=fun e=>h (bnp e);have:=x.isLt;rw [BitVec.toNat_sub];show (2 ^ 32 - 1 + x.toNat) % 2 ^ 32 = _;omega
def a4p {x:AS}:sub ((x - 1) &&& s) s:=by
 rw [a7v,bpk,Nat.and_assoc,Nat.and_self]
def qw {x:AS} (h:x ≠ 0):((x - 1) &&& s).toNat < x.toNat:=by
 have h0:x.toNat ≠ 0:=fun e=>h (bnp e);rw [bpk,a49 h];have:((x.toNat - 1) &&& s.toNat) <= x.toNat - 1:=Nat.and_le_left;omega
def ac2 {x:AS} (hx:sub x s) (hz:sub z s) (h:z.toNat < x.toNat):z.toNat <= ((x - 1) &&& s).toNat:=by
 have h0:x ≠ 0:=fun e=>by subst e;exact absurd h (bmq _)
 rw [bpk,a49 h0];exact alr _ _ _ (a7v.1 hx) (a7v.1 hz) h
def akx:∀ (n:Nat) (x:AS),sub x s -> x.toNat < n -> ∀ z,z ∈ a1n s n x <-> sub z s /\ z.toNat <= x.toNat
 | 0,x,_,h,z=>absurd h (bmq _)
 | n + 1,x,hx,h,z=>by
  unfold a1n;by_cases h0:x = 0
  · rw [if_pos h0,bn2]
    subst h0;constructor
    · rintro rfl;exact ⟨hx,bmp _⟩
    rintro ⟨_,h⟩;exact bnp (Nat.le_antisymm h (bms _))
  rw [if_neg h0,bn0,akx n _ a4p (by have:=qw (s:=s) h0;omega)];constructor
  · rintro (rfl | ⟨h1,h2⟩)
    · exact ⟨hx,bmp _⟩
    have:=qw (s:=s) h0;exact ⟨h1,by omega⟩
  rintro ⟨h1,h2⟩;by_cases he:z = x
  · exact .inl he
  have hne:z.toNat ≠ x.toNat:=fun e=>he (bnp e);exact .inr ⟨h1,ac2 hx h1 bqx⟩
def yu (s:AS):List AS:=ord (a1n s (s.toNat + 1) s)
def sub_self (s:AS):sub s s:=by rw [a7v,Nat.and_self]
def a1x (h:sub z s):z.toNat <= s.toNat:=by rw [<- a7v.1 h];exact bpl
def a1e:z ∈ yu s <-> sub z s:=by
 unfold yu;rw [jb,akx _ _ (sub_self s) (Nat.lt_succ_self _)];exact ⟨fun h=>h.1,fun h=>⟨h,a1x h⟩⟩
def akp {l:List AS} (ho:qb l) (h:∀ z,z ∈ l <-> sub z s):l = yu s:=oo ho (ip _) fun z=>by rw [h z];exact a1e.symm
def ax (s:AS):List AS:=if 12 < bsz s then [] else yu s
def a3g (h:(12:Int) < bsz s):ax s = []:=if_pos bqx
def af6 (h:¬ (12:Int) < bsz s):ax s = yu s:=if_neg bqx
def a8j (s:AS) (y:List AS × AS):Prop:=sub y.2 s /\ y.1.length + y.2.toNat <= s.toNat + 1 /\ ∀ z,z ∈ y.1 <-> sub z s /\ y.2.toNat <= z.toNat
def ais (s:AS):a8j s ([s],s):=⟨sub_self s,by simp only [bo3];omega,fun z=>by
 rw [bn2];constructor
 · rintro rfl;exact ⟨sub_self _,bmp _⟩
 rintro ⟨h1,h2⟩;exact bnp (Nat.le_antisymm (a1x h1) h2)⟩
def ai7 {y:List AS × AS} (h:a8j s y) (h0:y.2 ≠ 0):a8j s (y.1 ++ [(y.2 - 1) &&& s],(y.2 - 1) &&& s):=by
 obtain ⟨h1,h2,h3⟩:=h;have hl:=qw (s:=s) h0;refine ⟨a4p,by simp only [bmo,bo3];omega,fun z=>?_⟩;rw [bn1,bn2,h3];constructor
 · rintro (⟨k1,k2⟩ | rfl)
   · exact ⟨k1,by dsimp only;omega⟩
   exact ⟨a4p,bmp _⟩
 rintro ⟨k1,k2⟩;dsimp only at k2;by_cases hz:y.2.toNat <= z.toNat
 · exact .inl ⟨k1,hz⟩
 have:=ac2 h1 k1 bqx;exact .inr (bnp bqx)
def ap4 {y:List AS × AS} (h:a8j s y) (h0:y.2 = 0):ord y.1 = yu s:=akp (ip _) fun z=>by
 rw [jb,h.2.2,h0];exact ⟨fun h=>h.1,fun h=>⟨h,bms _⟩⟩
def nxt (x s:Nat):Nat:=if x = s then s + 1 else ((2 ^ 64 + x - s) &&& s)
def UpI (s:AS) (k:Nat) (y:List AS × Nat):Prop :=
 (y.2 = s.toNat + 1 \/ y.2 &&& s.toNat = y.2) /\ y.1.length <= k * 4294967296 + y.2 /\ qb y.1 /\ ∀ z,z ∈ y.1 <-> sub z s /\ (bsz z < k \/ bsz z = k /\ z.toNat < y.2)
def wk {s:Nat} (hs:s < 2 ^ 32) (hx:x &&& s = x):x < nxt x s /\ (nxt x s = s + 1 \/ nxt x s &&& s = nxt x s) /\ ∀ z,z &&& s = z -> x < z -> nxt x s <= z:=by
 have hle:x <= s:=by rw [<- hx];exact bpl
 have hs':s < 2 ^ 64:=Nat.lt_trans hs br2;unfold nxt;by_cases he:x = s
 · rw [if_pos he]
   refine ⟨by omega, .inl rfl,fun z hz hlt=>?_⟩;have:z <= s:=by rw [<- hz];exact bpl
   omega
 rw [if_neg he];refine ⟨(amb hx hs' (Nat.and_self s) bqx).2, .inr (by rw [Nat.and_assoc,Nat.and_self]),fun z hz hlt=>(amb hx hs' hz hlt).1⟩
variable {k:Nat} {y:List AS × Nat}
def a5s (h:UpI s k y) (hy:y.2 <= s.toNat):y.2 &&& s.toNat = y.2:=by
 rcases h.1 with h | h
 · omega
 exact h
def b4l (h:UpI s k y):y.2 <= s.toNat + 1:=by
 rcases h.1 with h | h
 · omega
 have:y.2 <= s.toNat:=by rw [<- h];exact bpl
 omega
def avq (h:UpI s k y) (hy:y.2 <= s.toNat):(BitVec.ofNat 32 y.2).toNat = y.2:=by
 have:=s.isLt;rw [bqm,bpi bqx]
def be2 (h:UpI s k y) (hy:y.2 <= s.toNat) (hk:bsz (BitVec.ofNat 32 y.2) = k):UpI s k (y.1 ++ [BitVec.ofNat 32 y.2],nxt y.2 s.toNat):=by
 have hn:=avq h hy;obtain ⟨s1,s2,s3⟩:=wk s.isLt (a5s h hy);have hsub:sub (BitVec.ofNat 32 y.2) s:=a7v.2 (by rw [hn];exact a5s h hy);obtain ⟨h1,h2,h3,h4⟩:=h;refine ⟨s2,by simp only [bmo,bo3];omega, ?_,fun z=>?_⟩
 · refine bpr.2 ⟨h3,List.pairwise_singleton _ _,fun a ha b hb=>?_⟩
   rw [bn2] at hb;subst hb;rw [nn];have:=((h4 a).1 ha).2;omega
 rw [bn1,bn2,h4];dsimp only;constructor
 · rintro (⟨k1,k2⟩ | rfl)
   · exact ⟨k1,by omega⟩
   exact ⟨hsub, .inr ⟨hk,by omega⟩⟩
 rintro ⟨k1,k2 | ⟨k2,k3⟩⟩
 · exact .inl ⟨k1, .inl k2⟩
 by_cases hz:z.toNat < y.2
 · exact .inl ⟨k1, .inr ⟨k2,hz⟩⟩
 by_cases hz2:y.2 < z.toNat
 · have:=s3 z.toNat (a7v.1 k1) hz2
   omega
 exact .inr (bnp bqx)
def bgi (h:UpI s k y) (hy:y.2 <= s.toNat) (hk:bsz (BitVec.ofNat 32 y.2) ≠ k):UpI s k (y.1,nxt y.2 s.toNat):=by
 have hn:=avq h hy;obtain ⟨s1,s2,s3⟩:=wk s.isLt (a5s h hy);obtain ⟨h1,h2,h3,h4⟩:=h;refine ⟨s2,by dsimp only;omega,h3,fun z=>?_⟩;rw [h4];dsimp only;constructor
 · rintro ⟨k1,k2⟩
   exact ⟨k1,by omega⟩
 rintro ⟨k1,k2 | ⟨k2,k3⟩⟩
 · exact ⟨k1, .inl k2⟩
 by_cases hz:z.toNat < y.2
 · exact ⟨k1, .inr ⟨k2,hz⟩⟩
 by_cases hz2:y.2 < z.toNat
 · have:=s3 z.toNat (a7v.1 k1) hz2
   omega
 have e:z = BitVec.ofNat 32 y.2:=bnp bqx;exact absurd (e ▸ k2) hk
def UpK (s:AS) (k:Nat) (l:List AS):Prop:=l.length <= k * 4294967296 /\ qb l /\ ∀ z,z ∈ l <-> sub z s /\ bsz z < k
def b45 (s:AS):UpK s 0 []:=by
 refine ⟨?_,List.Pairwise.nil,fun z=>?_⟩
 · show 0 <= _
   exact bms _
 constructor
 · intro h;cases h
 rintro ⟨_,h⟩;omega
def bfz {l:List AS} (h:UpK s k l):UpI s k (l,0):=by
 obtain ⟨h1,h2,h3⟩:=h;unfold UpI;dsimp only;refine ⟨.inr (Nat.zero_and _),bmy h1 (Nat.le_add_right _ _),h2,fun z=>?_⟩;rw [h3];constructor
 · rintro ⟨a,b⟩
   exact ⟨a, .inl b⟩
 rintro ⟨a,b | ⟨_,b⟩⟩
 · exact ⟨a,b⟩
 exact absurd b (bmq _)
def ba2 (h:UpI s k y) (hy:¬ y.2 <= s.toNat):UpK s (k + 1) y.1:=by
 have h0:=b4l h;have:=s.isLt;obtain ⟨h1,h2,h3,h4⟩:=h;refine ⟨by rw [bny];omega,h3,fun z=>?_⟩;rw [h4];constructor
 · rintro ⟨k1,k2⟩
   exact ⟨k1,by omega⟩
 rintro ⟨k1,k2⟩;have:=a1x k1;exact ⟨k1,by omega⟩
def bbv {l:List AS} (h:UpK s k l) (hk:bsz s < k):l = yu s:=akp h.2.1 fun z=>by
 rw [h.2.2];exact ⟨fun h=>h.1,fun h=>⟨h,by have:=ah2 h;omega⟩⟩
abbrev pU (n:Nat):PC:=.one (.raw (.int .u64 (n:Int)))
abbrev vU (n:Nat):HR:=bp (.raw (.int .u64 (n:Int)))
def alb (n:Int):IntKind.wrap .u64 n = n % 18446744073709551616:=by
 simp [IntKind.wrap,IntKind.signed,IntKind.bits]
def bd9 {s:Nat} (hs:s < 4294967296) (hx:x <= s) (h:¬ (x:Int) = s) {a:Int} (ha:a = IntKind.wrap .u64 ((x:Int) - s) \/ a = (x:Int) - s):az .and .u64 a s = (nxt x s:Nat):=by
 unfold nxt;rw [if_neg bqx];show IntKind.wrap .u64 ((BitVec.ofInt 64 a &&& BitVec.ofInt 64 s).toNat:Int) = _
 have e1:(BitVec.ofInt 64 a).toNat = 2 ^ 64 + x - s:=by
  rw [BitVec.toNat_ofInt]
  rcases ha with rfl | rfl
  · rw [alb]
    omega
  omega
 have e2:(BitVec.ofInt 64 (s:Int)).toNat = s:=by
  rw [BitVec.toNat_ofInt];omega
 have h2:((2 ^ 64 + x - s) &&& s) <= s:=bpl;rw [bpk,e1,e2,alb];omega
def bfp {s:Nat} (hs:s < 4294967296) (h:(x:Int) = s):(s:Int) + 1 = (nxt x s:Nat):=by
 unfold nxt;rw [if_pos bqx];omega
def a0q {x:AS} (h:x ≠ 0):az .and .u32 (asI x - 1) (asI s) = asI ((x - 1) &&& s):=by rw [ak4 h,fv]
def qi {α:Type} [Inhabited α] {wr wr':Bool} {e:TypeId} {c:α -> Nat -> PV} {x:α} {f:Nat -> Nat -> PV} (h:CoP (f 0 0) (c x 0)) (hw:wr' = true -> wr = true:=by exact fun h=>h):CoO (.arr wr 1 e 1 f) (.arr wr' 1 e [x].length (lf c [x])) :=
 ⟨hw,rfl,rfl,rfl,fun i j hi hj=>by
  have hi:i < 1:=hi;have hj:j < 1:=hj;obtain rfl:j = 0:=by omega
  obtain rfl:i = 0:=by omega
  exact h⟩
def ja {n:Nat} (h:n < 4294967296):(n:Int) = asI (BitVec.ofNat 32 n):=by
 unfold asI;rw [bqm];omega
end
end
section
open Go.Proofs
def b4b (x s:Nat) (hs:s < 4294967296) (hx:x <= s):a6 brj 173 [pU x,pU s] (a8 [pU (nxt x s)]):=by
 refine hpx (nt:=15) Tryz.func173 ?_;refine cq ?_;refine hcd (fun h0=>?_) (fun h0=>?_)
 · refine v_6 ?_;exact ⟨cci (bfp hs h0),trivial⟩
 refine w_5 ?_;refine rqw rfl rfl rfl rfl rfl ?_;refine v_4 ?_;exact ⟨cci (bd9 hs hx h0 (by first | exact .inl rfl | exact .inr rfl)),trivial⟩
def a9d:goodFn brj 118:=wgx Tryz.func118
def b54 (s:AS):a6 brj 118 [pA s] (a8 [pP (asl (ax s))]):=by
 refine hpx (nt:=23) Tryz.func118 ?_;refine w_8 ?_;refine qcx zo (a9w s) ?_;refine w_2 ?_;refine hcd (fun h0=>?_) (fun h0=>?_)
 · refine v_4 ?_;exact ⟨CoC.one (zr (a3g h0)),trivial⟩
 refine w_4 ?_;refine m9 0 ?_;refine w_9 ?_;refine ae (ι:=List AS × AS) (ka 0 kn) km (fun y=>⟨[(3,some (.v (.one (.ref 0 y.1.length)))),(4,some (vA y.2))],[(0,some (.arr true 1 46 y.1.length (lf sC y.1)))]⟩) (fun y=>a8j s y) (fun y=>y.2.toNat) (([s],s)) (ais s) ⟨tt,⟨⟨_,rfl,(qi (CoP.refl _))⟩,trivial⟩⟩ ?_;rintro y hy;have hlen:=hy.2.1;have hsl:=s.isLt;refine w_6 ?_;refine hcn (fun h1=>?_) (fun h1=>?_)
 ·
  have hne:y.2 ≠ 0:=fun e=>h1 (by rw [e];rfl);refine w_5 ?_;refine rq rfl rfl rfl rfl rfl ?_ (hp:=(a0f hne));refine w_7 ?_;refine m9 1 ?_;refine r9 2 true ?_;refine w_2 ?_;refine ⟨(y.1 ++ [(y.2 - 1) &&& s],(y.2 - 1) &&& s), ?_, ?_, ?_⟩
  · exact ai7 hy hne
  · exact qw hne
  exact ⟨⟨⟨_,rfl,(bf rfl)⟩,⟨_,rfl,(bn (a0q hne))⟩,tt⟩,⟨⟨_,rfl,(bg rfl (CoP.of_eq (by rw [a0q hne];rfl)))⟩,trivial⟩⟩
 have hz:y.2 = 0:=c7.1 h1;refine w_2 ?_;refine al 3 rfl rfl rfl ?_;refine w_2 ?_;refine qcx zk (a7k y.1 bqx) ?_;refine v_2 ?_;exact ⟨CoC.one (CoP.of_eq (by rw [af6 h0,ap4 hy hz])),trivial⟩
def avi (s:AS):a6 brj 124 [pA s] (a8 [pP (asl (ax s))]):=by
 refine hpx (nt:=34) Tryz.func124 ?_;refine w_8 ?_;refine rc rfl rfl rfl rfl rfl rfl ws (zu _) (⟨cci (by first | rfl | exact ja bqx),trivial⟩) rfl rfl ?_;refine w_2 ?_;refine hcd (fun h0=>?_) (fun h0=>?_)
 · refine v_4 ?_;exact ⟨CoC.one (zr (a3g h0)),trivial⟩
 refine cq ?_;refine bw 3 900 true 1 46 (lf sC []) br2 rfl (CoP.sl rfl (.inr rfl) (fun h=>h) (fun i j hi _=>absurd hi (bmq i))) (.inr rfl) rfl ?_;refine ae (ι:=List AS × Nat) (ka 0 kn) km (fun x=>⟨[(3,some (.v (.one (.ref 900 x.1.length)))),(4,some (vI x.2))],[(900,some (.arr true 1 46 x.1.length (lf sC x.1)))]⟩) (fun x=>UpK s x.2 x.1 /\ x.2 <= bsz s + 1) (fun x=>bsz s + 1 - x.2) (([],0)) (⟨b45 s,bms _⟩) kk ?_;rintro x ⟨hx,hxb⟩;have hlen:=hx.1;have hsl:=s.isLt;have hbz:=aec s;refine w_5 ?_;refine rc rfl rfl rfl rfl rfl rfl ws (zu _) (⟨cci (by first | rfl | exact ja bqx),trivial⟩) rfl rfl ?_;refine w_2 ?_;refine hcd (fun h1=>?_) (fun h1=>?_)
 ·
  refine w_8 ?_;refine ae (ι:=List AS × Nat) (ka 0 (ka 4 kn)) km (fun y=>⟨[(3,some (.v (.one (.ref 900 y.1.length)))),(5,some (vU y.2))],[(900,some (.arr true 1 46 y.1.length (lf sC y.1)))]⟩) (fun y=>UpI s x.2 y) (fun y=>s.toNat + 1 - y.2) ((x.1,0)) (bfz hx) kk ?_;rintro y hy;have hlen2:=hy.2.1;have hyl:=b4l hy;have hsa:asI s = (s.toNat:Int):=rfl;refine w_5 ?_;refine qy ?_ (hp:=(by simp only [ik,inR,n3,oc];omega));refine w_2 ?_;refine hcd (fun h2=>?_) (fun h2=>?_)
  ·
   refine w_6 ?_;refine qy ?_ (hp:=(by simp only [ik,inR,n3,oc];omega));refine rc rfl rfl rfl rfl rfl rfl ws (zu _) (⟨cci (by first | rfl | exact ja bqx),trivial⟩) rfl rfl ?_;refine w_3 ?_;refine hcd (fun h3=>?_) (fun h3=>?_)
   ·
    refine w_3 ?_;refine qy ?_ (hp:=(by simp only [ik,inR,n3,oc];omega));refine m9 0 ?_;refine r9 1 true ?_;refine w_5 ?_;refine qy ?_ (hp:=(by simp only [ik,inR,n3,oc];omega));refine rc rfl rfl rfl rfl rfl rfl (wgx Tryz.func173) (b4b y.2 s.toNat s.isLt bqx) (⟨CoC.refl _,cci rfl,trivial⟩) rfl rfl ?_;refine w_2 ?_
    first | (refine ⟨(y.1 ++ [BitVec.ofNat 32 y.2], nxt y.2 s.toNat), ?_, ?_, ?_⟩
             · exact be2 hy bqx bqx
             · have:=(wk s.isLt (a5s hy bqx)).1
               dsimp only;omega
             exact ⟨⟨⟨_,rfl,(bf rfl)⟩,tt⟩,⟨⟨_,rfl,(bg rfl (CoP.of_eq (congrArg (fun z=>PV.raw (.int .u32 z)) (ja bqx))))⟩,trivial⟩⟩)
          | (refine ⟨(y.1,nxt y.2 s.toNat), ?_, ?_, ?_⟩
             · exact bgi hy bqx bqx
             · have:=(wk s.isLt (a5s hy bqx)).1
               dsimp only;omega
             exact kk)
   refine w_4 ?_;refine qy ?_ (hp:=(by simp only [ik,inR,n3,oc];omega));refine rc rfl rfl rfl rfl rfl rfl (wgx Tryz.func173) (b4b y.2 s.toNat s.isLt bqx) (⟨CoC.refl _,cci rfl,trivial⟩) rfl rfl ?_;refine w_2 ?_
   first | (refine ⟨(y.1 ++ [BitVec.ofNat 32 y.2], nxt y.2 s.toNat), ?_, ?_, ?_⟩
            · exact be2 hy bqx bqx
            · have:=(wk s.isLt (a5s hy bqx)).1
              dsimp only;omega
            exact ⟨⟨⟨_,rfl,(bf rfl)⟩,tt⟩,⟨⟨_,rfl,(bg rfl (CoP.of_eq (congrArg (fun z=>PV.raw (.int .u32 z)) (ja bqx))))⟩,trivial⟩⟩)
         | (refine ⟨(y.1,nxt y.2 s.toNat), ?_, ?_, ?_⟩
            · exact bgi hy bqx bqx
            · have:=(wk s.isLt (a5s hy bqx)).1
              dsimp only;omega
            exact kk)
  refine w_6 ?_;refine ⟨(y.1,x.2 + 1), ?_, ?_, ?_⟩
  · show UpK s (x.2 + 1) y.1 /\ x.2 + 1 <= _
    exact ⟨ba2 (y:=y) hy bqx,by omega⟩
  · dsimp only
    omega
  exact kk
 refine w_6 ?_;refine al 2 rfl rfl rfl ?_;exact hx8 rfl rfl rfl (⟨CoC.one (CoP.of_eq (by rw [af6 h0,bbv hx bqx];rfl)),trivial⟩)
end
section
def qq (l:List Fd) (p x:AS):Bool:=decide (clo l x &&& p ≠ x) && decide (clo l x &&& p ≠ p)
def aco (l:List Fd) (p:AS):Option AS:=(ax p).find? (qq l p)
def av3 (l:List Fd) (p x:AS):Fd:=⟨x,(clo l x &&& p) &&& ~~~x⟩
def lx (l:List Fd) (p:AS):Fd:=match aco l p with
 | some x=>av3 l p x
 | none=>⟨0,0⟩
def cz (l:List Fd) (p:AS):Bool:=(aco l p).isSome
def aee {α:Type} [Inhabited α] {q:α -> Bool} {l:List α} {i:Nat} (hi:i < l.length) (hI:∀ j,j < i -> q (l.getD j default) = false) (h:q (l.getD i default) = true):l.find? q = some (l.getD i default):=by
 rw [List.find?_eq_some_iff_getElem];refine ⟨h,i,hi,by simp [List.getD,hi],fun j hj=>?_⟩;have:=hI j hj;rw [bmm,bml bqx,bnf] at this;simp [this]
def ak2 {α:Type} [Inhabited α] {q:α -> Bool} {l:List α} (hI:∀ j,j < l.length -> q (l.getD j default) = false):l.find? q = none:=by
 rw [bq0];intro x hx;obtain ⟨j,hj,rfl⟩:=bng hx;have:=hI j hj;rw [bmm,bml hj,bnf] at this;simp [this]
section
variable {l:List Fd} {p:AS}
def ao4 {i:Nat} (hi:i < (ax p).length) (hI:∀ j,j < i -> qq l p ((ax p).getD j default) = false) (h:qq l p ((ax p).getD i default) = true):lx l p = av3 l p ((ax p).getD i default) /\ cz l p = true:=by
 have e:aco l p = some ((ax p).getD i default):=aee hi hI h;unfold lx cz;rw [e];exact ⟨rfl,rfl⟩
def anr (hI:∀ j,j < (ax p).length -> qq l p ((ax p).getD j default) = false):lx l p = ⟨0,0⟩ /\ cz l p = false:=by
 have e:aco l p = none:=ak2 hI;unfold lx cz;rw [e];exact ⟨rfl,rfl⟩
def adt {x:AS} (h:az .and .u32 (asI (clo l x)) (asI p) = asI x):qq l p x = false:=by
 rw [fv,c7] at h;unfold qq;simp [h]
def ad6 {x:AS} (h:az .and .u32 (asI (clo l x)) (asI p) = asI p):qq l p x = false:=by
 rw [fv,c7] at h;unfold qq;simp [h]
def ad5 {x:AS} (h:¬ az .and .u32 (asI (clo l x)) (asI p) = asI x) (k:¬ az .and .u32 (asI (clo l x)) (asI p) = asI p):qq l p x = true:=by
 rw [fv,c7] at h k;unfold qq;simp [h,k]
def asr {i:Nat} {a b:PV} (hi:i < (ax p).length) (hI:∀ j,j < i -> qq l p ((ax p).getD j default) = false) (h:qq l p ((ax p).getD i default) = true) (ha:a = asC ((ax p).getD i default)) (hb:b = .raw (.int .u32 (az .andNot .u32 (az .and .u32 (asI (clo l ((ax p).getD i default))) (asI p)) (asI ((ax p).getD i default))))):CoC (.agg [a,b]) (lx l p).pc :=
 CoC.of_eq (by rw [(ao4 hi hI h).1,ha,hb,fv,gl];rfl)
def anw (hI:∀ j,j < (ax p).length -> qq l p ((ax p).getD j default) = false):CoC (.agg [li (.int .u32 0),li (.int .u32 0)]) (lx l p).pc:=CoC.of_eq (by rw [(anr hI).1];rfl)
def a6d {s:AS}:∀ (n:Nat) (x:AS),(a1n s n x).length <= x.toNat + 1
 | 0,x=>bms _
 | n + 1,x=>by
  unfold a1n;by_cases h0:x = 0
  · rw [if_pos h0];simp
  rw [if_neg h0,bn9];have h1:=a6d (s:=s) n ((x - 1) &&& s);have h2:=qw (s:=s) h0;omega
def uc (s:AS):(ax s).length <= 4294967296:=by
 unfold ax yu;have h1:=a6d (s:=s) (s.toNat + 1) s;have h2:=ke (a1n s (s.toNat + 1) s);have h3:=s.isLt;split
 · simp
 omega
end
end
section
open Go.Proofs
def amd:goodFn brj 78:=wgx Tryz.func78
def ats (l:List Fd) (p:AS):a6 brj 78 [pP (fdl l),pA p] (a8 [(lx l p).pc,pB (cz l p)]):=by
 refine hpx (nt:=36) Tryz.func78 ?_;refine sx7 ?_;refine m9 0 ?_;refine w_6 ?_;refine qcx a9d (b54 p) ?_;refine w_4 ?_;refine ae (ι:=Nat) (ka 0 (ka 1 (ka 4 (ka 10 (ka 11 kn))))) (kb 0 km) (fun i=>⟨[(12,some (vI i))],[]⟩) (fun i=>i <= (ax p).length /\ (∀ j,j < i -> qq l p ((ax p).getD j default) = false)) (fun i=>(ax p).length - i) (0) (⟨bms _,bq⟩) kk ?_;rintro i ⟨hi,hI⟩;have hlen:=uc p;refine w_5 ?_;refine hcd (fun h0=>?_) (fun h0=>?_)
 ·
  refine jd ?_;refine qcx ur (xj l ((ax p).getD i default)) ?_;refine bz ?_;refine ai rfl rfl (fun r1=>?_) (fun r1=>?_)
  ·
   have h1:=tz2 (cu r1);(iterate 3 refine qy ?_ (hg:=(gtt r1)));refine w_2 ?_;refine aj _ rfl (fun r2=>?_) (fun r2=>?_)
   · have h2:=tz2 (cu (bt r1 r2));refine bz ?_;exact hx8 rfl rfl rfl (⟨asr (i:=i) bqx hI (ad5 h1 h2) rfl rfl,ccb (ao4 (i:=i) bqx hI (ad5 h1 h2)).2.symm,trivial⟩)
   have h2:=tz1 (ct (bt r1 r2));refine w_5 ?_;refine lpz (i + 1) kk ?_;exact ⟨by show i + 1 <= _;omega,aw hI (by first | exact adt h1 | exact ad6 h2)⟩
  have h1:=tz1 (ct r1);(iterate 3 refine k9 (gft r1) ?_);refine rq rfl rfl rfl rfl rfl ?_ (hp:=r1);refine w_7 ?_;refine lpz (i + 1) kk ?_
  exact ⟨by show i + 1 <= _;omega,aw hI (by first | exact adt h1 | exact ad6 h2)⟩
 refine v_7 ?_;exact ⟨anw (fun j hj=>hI j bqx),ccb (anr (fun j hj=>hI j bqx)).2.symm,trivial⟩
def afm:goodFn brj 145:=wgx Tryz.func145
def ap0 (l:List Fd) (p:AS):a6 brj 145 [pP (fdl l),pA p] (a8 [(lx l p).pc,pB (cz l p)]):=by
 refine hpx (nt:=48) Tryz.func145 ?_;refine sx7 ?_;refine m9 0 ?_;refine w_5 ?_;refine qcx (wgx Tryz.func124) (avi p) ?_;refine w_8 ?_;refine ae (ι:=Nat) (ka 0 (ka 1 (ka 4 (ka 6 kn)))) (kb 0 km) (fun i=>⟨[(7,some (vI i))],[]⟩) (fun i=>i <= (ax p).length /\ (∀ j,j < i -> qq l p ((ax p).getD j default) = false)) (fun i=>(ax p).length - i) (0) (⟨bms _,bq⟩) kk ?_;rintro i ⟨hi,hI⟩;have hlen:=uc p;refine w_8 ?_;refine hcd (fun h0=>?_) (fun h0=>?_)
 ·
  refine bz ?_;refine qcx zm (zb l ((ax p).getD i default)) ?_;refine jd ?_;refine ai rfl rfl (fun r1=>?_) (fun r1=>?_)
  ·
   have h1:=tz2 (cu r1);(iterate 3 refine qy ?_ (hg:=(gtt r1)));refine w_2 ?_;refine aj _ rfl (fun r2=>?_) (fun r2=>?_)
   · have h2:=tz2 (cu (bt r1 r2));refine yf ?_;exact hx8 rfl rfl rfl (⟨asr (i:=i) bqx hI (ad5 h1 h2) rfl rfl,ccb (ao4 (i:=i) bqx hI (ad5 h1 h2)).2.symm,trivial⟩)
   have h2:=tz1 (ct (bt r1 r2));refine w_6 ?_;refine lpz (i + 1) kk ?_;exact ⟨by show i + 1 <= _;omega,aw hI (by first | exact adt h1 | exact ad6 h2)⟩
  have h1:=tz1 (ct r1);(iterate 3 refine k9 (gft r1) ?_);refine rq rfl rfl rfl rfl rfl ?_ (hp:=r1);refine w_8 ?_;refine lpz (i + 1) kk ?_
  exact ⟨by show i + 1 <= _;omega,aw hI (by first | exact adt h1 | exact ad6 h2)⟩
 refine v_7 ?_;exact ⟨anw (fun j hj=>hI j bqx),ccb (anr (fun j hj=>hI j bqx)).2.symm,trivial⟩
def bfe (l:List Fd) (p:AS):a6 brj 108 [pP (fdl l),pA p] (a8 [pB (!cz l p)]):=by
 refine hpx (nt:=15) Tryz.func108 ?_;refine w_8 ?_;refine qcx afm (ap0 l p) ?_;refine w_3 ?_;refine m9 0 ?_;refine v_9 ?_;exact CoL.refl _
end
section
open Go.RowKit
section
variable {w0:World} {nt:Nat} {c:Ctx} {s:S} {a:Act} {w:World}
def ah.short (h:ah w0 nt c s a w) {id id' sz n m:Nat} {el:TypeId} {f:Nat -> Nat -> PV} (ho:s.o id = some (.arr true sz el n f)) (hm:m <= n) (hnm:NM s id') (hno:s.o id' = none) {u:Value} (hu:bm c s.o (.win id n 0 m) u) :
 ∃ c',c'.old = c.old /\ ah w0 nt c' ((s.setO id none).setO id' (some (.arr true sz el m f))) a w /\ am c' ((s.setO id none).setO id' (some (.arr true sz el m f))).o (.v (.one (.ref id' m))) u:=by
 have hne:id ≠ id':=fun e=>by rw [<- e,ho] at hno;cases hno
 obtain ⟨ad,ad',cap,q1,q2,q3,q4,q5,q6⟩:=zi hu ho rfl;obtain ⟨h0,h1,h5⟩:=h.objs id _ ho
 have hold:∀ k ob,((s.setO id none).setO id' (some (.arr true sz el m f))).o k = some ob -> k ≠ id' -> s.o k = some ob /\ k ≠ id:=fun k ob hk hk'=>by
  simp only [S.setO,if_neg hk'] at hk;by_cases hki:k = id
  · subst hki;simp at hk
  rw [if_neg hki] at hk;exact ⟨hk,hki⟩
 obtain ⟨bk,hbk,hok⟩:∃ bk:Nat -> Prop,(∀ b,bk b -> c.blk id b) /\ ∀ c':Ctx,c'.imm = c.imm -> c'.own id' = u -> c'.blk id' = bk -> ∀ o':b6,ey 0 c' o' w id' (.arr true sz el m f):=by
  rcases h5 with ⟨h6,xs,h2,h4⟩ | ⟨h6 | h6,h7,h8⟩
  · obtain ⟨hxl,hrow⟩:=h2
    rcases hrow with ⟨hv0,hz⟩ | ⟨g,cap',cur,hown,hbase,hheap,hnc,hcm,hcs,htake⟩
    · rw [hv0] at q1
      simp only [Value.slice.injEq] at q1;obtain ⟨rfl,_,rfl⟩:=q1;obtain rfl:n = 0:=by omega
      obtain rfl:m = 0:=by omega
      refine ⟨noB,fun b hb=>hb.elim,fun c' e1 e2 e3 o'=>⟨h0,bms _, .inr ⟨.inr rfl,e3, ?_⟩⟩⟩;rw [e2,q2];exact ⟨ad',0,rfl,bmp _,bms _,fun _=>rfl,fun h=>absurd h (bq4 0)⟩
    rw [hown] at q1;simp only [Value.slice.injEq,true_and] at q1;obtain ⟨rfl,rfl⟩:=q1;by_cases hcap:cap' = 0
    · subst hcap
      obtain rfl:m = 0:=by omega
      refine ⟨noB,fun b hb=>hb.elim,fun c' e1 e2 e3 o'=>⟨h0,bms _, .inr ⟨.inr rfl,e3, ?_⟩⟩⟩;rw [e2,q2];exact ⟨ad',0,rfl,bmp _,bms _,fun _=>rfl,fun h=>absurd h (bq4 0)⟩
    obtain rfl:=q6 bqx;simp only [bnh,dm,Nat.zero_mul,bp5,bpz] at q2;have hmul:m * sz <= n * sz:=bn7 _ hm;refine ⟨je u,fun b hb=>by rw [h6,hown];rw [q2] at hb;exact hb,fun c' e1 e2 e3 o'=>⟨h0,bmy hm h1, .inl ⟨by rw [e2,e3],xs.take (m * sz),⟨by rw [bmv,hxl,bok hmul], .inr ⟨g,cap',cur,by rw [e2,q2],hbase,hheap,by omega,hcm,hcs, ?_⟩⟩,fun i j hi hj=>?_⟩⟩⟩
    · rw [<- htake,List.take_take,bok hmul]
    obtain ⟨x,hx,hr⟩:=h4 i j bqx hj;refine ⟨x, ?_,by rw [e1];exact hr⟩;rw [bnl,if_pos (a3i hi hj)];exact hx
  · cases h6
  subst h6;obtain rfl:m = 0:=by omega
  refine ⟨noB,fun b hb=>hb.elim,fun c' e1 e2 e3 o'=>⟨h0,bms _, .inr ⟨.inr rfl,e3, ?_⟩⟩⟩;obtain ⟨ad2,cap2,r1,r2,r3,r4,_⟩:=h8;rw [q1] at r1;simp only [Value.slice.injEq,true_and] at r1;obtain ⟨rfl,rfl⟩:=r1;obtain rfl:cap = 0:=r4 rfl;rw [e2,q2];exact ⟨ad',0,rfl,bmp _,bms _,fun _=>rfl,fun h=>absurd h (bq4 0)⟩
 have hevo:∀ k,k ≠ id' -> Evo c s.o { c with own:=fun k=>if k = id' then u else c.own k,blk:=fun k=>if k = id' then bk else c.blk k } ((s.setO id none).setO id' (some (.arr true sz el m f))).o k:=fun k hk=>by
  by_cases hki:k = id
  · subst hki
    exact .inl (by simp [S.setO,hk])
  exact Evo.of_same (by simp [S.setO,hk,hki]) (by simp [hk])
 refine ⟨{ c with own:=fun k=>if k = id' then u else c.own k,blk:=fun k=>if k = id' then bk else c.blk k },rfl,⟨h.defers,h.size,h.below,fun d x hx=>?_,fun k ob hk=>?_,fun i i' obi obi' b hi hi' hb hb'=>?_,h.imm,fun k ob b hk hb=>?_,h.was,h.frm,fun k ob b hk hb=>?_,fun k hk=>?_⟩, ?_⟩
 · exact (h.tmps d x hx).evo (Imm.le.refl c.imm) fun k hkm=>hevo k (by rintro rfl;exact hnm.1 d x hx hkm)
 · by_cases hk':k = id'
   · subst hk'
     obtain rfl:ob = .arr true sz el m f:=by simpa [S.setO] using hk.symm
     refine hok _ ?_ ?_ ?_ _ <;> first | rfl | exact if_pos rfl
   obtain ⟨hk1,hk2⟩:=hold k ob hk hk';exact (h.objs k ob hk1).keep (Imm.le.refl c.imm) (by simp [hk']) (by simp [hk']) (fun j hj=>hevo j (by rintro rfl;exact hnm.2.1 k ob hk1 hj)) fun b _=>rfl
 · have hone:∀ k ob b,k ≠ id' -> ((s.setO id none).setO id' (some (.arr true sz el m f))).o k = some ob -> c.blk k b -> bk b -> False:=fun k ob b hk' hk hb hbb=>by
    obtain ⟨hk1,hk2⟩:=hold k ob hk hk';exact hk2 (h.inj k id ob _ b hk1 ho hb (hbk b hbb))
   by_cases e1:i = id'
   · by_cases e2:i' = id'
     · rw [e1,e2]
     exact (hone i' obi' b e2 hi' (by simpa [e2] using hb') (by simpa [e1] using hb)).elim
   by_cases e2:i' = id'
   · exact (hone i obi b e1 hi (by simpa [e1] using hb) (by simpa [e2] using hb')).elim
   exact h.inj i i' obi obi' b (hold i obi hi e1).1 (hold i' obi' hi' e2).1 (by simpa [e1] using hb) (by simpa [e2] using hb')
 · by_cases hk':k = id'
   · exact h.sep id _ b ho (hbk b (by simpa [hk'] using hb))
   exact h.sep k ob b (hold k ob hk hk').1 (by simpa [hk'] using hb)
 · by_cases hk':k = id'
   · exact h.fsep id _ b ho (hbk b (by simpa [hk'] using hb))
   exact h.fsep k ob b (hold k ob hk hk').1 (by simpa [hk'] using hb)
 · exact (h.fixed k hk).trans (hevo k (by have:=hnm.2.2;omega))
 refine ⟨hu.1,fun l=>by simp [S.setO],fun ob2 s2 e2 n2 ho2 hd2=>?_⟩;simp only [S.setO,if_true,bmk] at ho2;subst ho2;simp only [aa.dim,bmk,bmu] at hd2;obtain ⟨rfl,rfl,rfl⟩:=hd2;exact ⟨bmp _,fun _=>by simp⟩
end
section
variable {ro:Option Nat} {P:Program} {nt:Nat} {st:HSt} {Q:Exit -> HSt -> Prop}
def ab5 {c:Code} (d id2:Nat) {id n n' i m s:Nat} {e:TypeId} {f:Nat -> Nat -> PV} (hd:bi st.t d = some (.v (.one (.win id n i m)))) (ho:bi st.o id = some (.arr true s e n' f)) (hn:n' = n) (hi:i = 0) (hm:m <= n) (hnew:tl id2 st = true)
 (h:HW (ro:=ro) P nt c ⟨(d,some (.v (.one (.ref id2 m)))) :: st.t,(id2,some (.arr true s e m f)) :: (id,none) :: st.o⟩ Q):HW (ro:=ro) P nt c st Q:=by
 subst hn hi;obtain ⟨hnm,hno⟩:=mr hnew;refine xp ⟨st.t,(id2,some (.arr true s e m f)) :: (id,none) :: st.o⟩ d (.v (.one (.ref id2 m))) (fun w0 m0 a w hr=>?_) h;obtain ⟨cc,hold,hrr⟩:=hr;obtain ⟨c',e1,e2,e3⟩:=hrr.short ho hm hnm hno (hrr.tmps d _ hd)
 have e4:(HSt.den ⟨st.t,(id2,some (.arr true s e m f)) :: (id,none) :: st.o⟩) = (st.den.setO id none).setO id2 (some (.arr true s e m f)):=by
  unfold HSt.den S.setO;simp [bu]
 exact ⟨c',e1.trans hold,by rw [e4];exact e2,by rw [e4];exact e3⟩
def jz {c:Code} (d id2:Nat) {id n n' s:Nat} {e:TypeId} {f:Nat -> Nat -> PV} (hd:bi st.t d = some (.v (.one (.ref id n)))) (ho:bi st.o id = some (.arr true s e n' f)) (hn:n' = n) (hnew:tl id2 st = true)
 (h:HW (ro:=ro) P nt c ⟨(d,some (.v (.one (.ref id2 n)))) :: st.t,(id2,some (.arr true s e n f)) :: (id,none) :: st.o⟩ Q):HW (ro:=ro) P nt c st Q:=by
 subst hn;obtain ⟨hnm,hno⟩:=mr hnew;refine xp ⟨st.t,(id2,some (.arr true s e n' f)) :: (id,none) :: st.o⟩ d (.v (.one (.ref id2 n'))) (fun w0 m0 a w hr=>?_) h;obtain ⟨cc,hold,hrr⟩:=hr;have hu:bm cc st.den.o (.ref id n') (a.tmps.getD d undef):=hrr.tmps d _ hd
 have hw:bm cc st.den.o (.win id n' 0 n') (a.tmps.getD d undef):=by
  refine ⟨hu.1,hu.2.1,fun ob s2 e2 n2 ho2 hd2=>⟨(hu.2.2 _ _ _ _ ho2 hd2).1,fun hk=>?_⟩⟩;have he:=(hu.2.2 _ _ _ _ ho2 hd2).2 hk;obtain rfl:ob = .arr true s e n' f:=Option.some.inj (ho2.symm.trans ho);simp only [aa.dim,bmk,bmu] at hd2;obtain ⟨rfl,rfl,rfl⟩:=hd2;obtain ⟨ad,cap,hv,hc1,hc2⟩:=yz (hrr.objs _ _ ho2);exact ⟨ad,ad,cap,hv,by rw [he,hv];rfl,by omega,hc1,hc2,fun _=>by cases ad <;> simp [oj]⟩
 obtain ⟨c',e1,e2,e3⟩:=hrr.short ho (bmp _) hnm hno hw
 have e4:(HSt.den ⟨st.t,(id2,some (.arr true s e n' f)) :: (id,none) :: st.o⟩) = (st.den.setO id none).setO id2 (some (.arr true s e n' f)):=by
  unfold HSt.den S.setO;simp [bu]
 exact ⟨c',e1.trans hold,by rw [e4];exact e2,by rw [e4];exact e3⟩
end
end
section
def aoj {l:List AS} {k:Nat} (hk:l.length <= k) (h:∀ j,0 < j -> j < k -> ¬ l.getD j default = l.getD (j - 1) default):jg l = l:=by
 have:=vz (bmp l.length) fun j h1 h2=>h j h1 bqx;rw [bmt] at this;exact this
def aj0 {l m:List AS} {k p q:Nat} (hC:CpI l k p q m) (hq:¬ q < l.length):(jg l).length = p /\ m.take p = jg l:=by
 have e:=hC.pre;have h1:=hC.ql;have h2:=hC.len;have h3:=hC.pq;rw [show q = l.length by omega,bmt] at e;exact ⟨by rw [<- e];simp;omega,e⟩
def b62 {l m:List AS} {k p q n a d:Nat} {z:List Value} {e:TypeId} (hC:CpI l k p q m) (hq:¬ q < l.length) (ha:p <= a) (hn:n = p):CoO (.arr true 1 e n (pf (lf sC m) a d z)) (.arr true 1 e (jg l).length (lf sC (jg l))):=by
 obtain ⟨h1,h2⟩:=aj0 hC hq;subst hn;refine ⟨fun h=>h,rfl,rfl,h1,fun i j hi hj=>CoP.of_eq ?_⟩;show pf (lf sC m) a d z i j = lf sC (jg l) i j;unfold pf;rw [if_neg bqx];simp only [lf,List.getD];have e:(jg l)[i]? = m[i]?:=by rw [<- h2,bnl,if_pos hi]
 rw [e]
def gj {id n m:Nat} (h:n = m):CoR (.v (.one (.ref id n))) (.v (.one (.ref id m))):=by rw [h];exact CoR.refl _
end
end Go.Hx
