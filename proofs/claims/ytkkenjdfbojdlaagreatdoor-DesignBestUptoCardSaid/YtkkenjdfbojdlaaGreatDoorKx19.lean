/- A part of the proof: V11 Cs14 V12 Cs15 V13 Cs16 V14 Hx24 Cs17. -/
import Derived.Test.YtkkenjdfbojdlaaGreatDoorKx18
set_option linter.all false
set_option maxRecDepth 100000
set_option maxHeartbeats 1000000
namespace Go.Hx
section
open Go.Proofs
def b5r (l:List Fd) (hl:l.length <= 4096):d4 br6 229 [.one (.p (fdl l))] [] (.v (.one (.ref 900 (spl l).length))) [(900, .arr true 2 48 (spl l).length (lf Fd.c (spl l)))] []:=by
 refine hfx (nt:=37) Tryz.func229 ?_;refine c5 ?_;refine c8 0 rfl fun hn=>?_;refine w_6 ?_;refine bw 3 901 true 2 48 (lf Fd.c []) bqo rfl (CoP.sl rfl (.inr rfl) (fun h=>h) (fun i j hi _=>absurd hi (bmf i))) (.inr rfl) rfl ?_;refine b5 (ka 8 (ka 9 kn)) km (fun i=>⟨[(3,some (.v (.one (.ref 901 (fw (l.take i)).length)))),(10,some (vI i))],[(901,some (.arr true 2 48 (fw (l.take i)).length (lf Fd.c (fw (l.take i)))))]⟩) l.length kk ?_;rintro i hi;refine w_5 ?_;refine hcd (fun h0=>?_) (fun h0=>?_)
 ·
  refine w_7 ?_;refine m9 0 ?_;refine w_9 ?_;refine rc rfl rfl rfl rfl rfl rfl a35 (afx ((l.getD i default).rhs &&& ~~~(l.getD i default).lhs)) (⟨cci (i7 _ _),trivial⟩) rfl rfl ?_;refine w_4 ?_;refine b5 (ka 5 (ka 8 (ka 9 (ka 10 (ka 19 (ka 20 kn)))))) (kb 0 km) (fun k=>⟨[(3,some (.v (.one (.ref 901 (oi l i k).length)))),(21,some (vI k))],[(901,some (.arr true 2 48 (oi l i k).length (lf Fd.c (oi l i k))))]⟩) ((aj ((l.getD i default).rhs &&& ~~~(l.getD i default).lhs)).length) ⟨⟨⟨_,rfl,(bi (aa5 l i))⟩,tt⟩,⟨⟨_,rfl,(b8 (aa5 l i))⟩,trivial⟩⟩ ?_;rintro k hk;have hml:=o0 ((l.getD i default).rhs &&& ~~~(l.getD i default).lhs);have hsl:=at7 (l:=l) (i:=i) (k:=k) bqi;refine w_5 ?_;refine hcd (fun h1=>?_) (fun h1=>?_)
  · refine p9 ?_;refine rq rfl rfl rfl rfl rfl ?_ (hp:=(bom _));refine qy ?_;refine m9 1 ?_;refine r9 2 true ?_;refine w_7 ?_;exact lpx (k + 1) ⟨⟨⟨_,rfl,(bg (aa4 rfl bqi))⟩,tt⟩,⟨⟨_,rfl,(jh (aa4 rfl bqi) (CoP.refl _) (CoP.of_eq (by exact congrArg (fun z=>PV.raw (.int .u32 z)) (aes _))))⟩,uu⟩⟩
  obtain rfl:k = (aj ((l.getD i default).rhs &&& ~~~(l.getD i default).lhs)).length:=by omega
  refine w_5 ?_;exact lpx (i + 1) ⟨⟨⟨_,rfl,(bi (ae4 bqi rfl).symm)⟩,tt⟩,⟨⟨_,rfl,(b8 (ae4 bqi rfl).symm)⟩,trivial⟩⟩
 obtain rfl:i = l.length:=by omega
 refine w_2 ?_;refine al 3 rfl rfl rfl ?_;refine w_2 ?_;refine gj rfl rfl rfl rfl rfl rfl (wgx Tryz.func231) (aza (fw l) (bmo (vh l) bqi)) (⟨CoP.of_eq bqy,trivial⟩) trivial rfl rfl ?_;refine w_2 ?_;refine hrr ?_;exact ⟨_,_,rfl,bqk,CoR.refl _,uu⟩
def bkr (l:List Fd) (hl:l.length <= 4096):a6 br6 184 [pP (fdl l)] (a8 [pP (fdl (a7r l))]):=by
 refine hpx (nt:=60) Tryz.func184 ?_;refine w_7 ?_;refine fc9 (wgx Tryz.func229) (b5r l hl) trivial ?_;refine w_4 ?_;have hsl:=af8 l;refine w_6 ?_;refine b5 (ka 3 (ka 11 kn)) km (fun i=>⟨[(12,some (vI i))],[(900,some (.arr true 2 48 (spl l).length (lf Fd.c (gp (spl l) i))))]⟩) ((spl l).length) kk ?_;rintro i hi;have htl:=j1 (l:=spl l) (i:=i);refine w_5 ?_;refine hcd (fun h0=>?_) (fun h0=>?_)
 ·
  refine ml ?_;refine qcx a35 (afx ((gp (spl l) i).getD i default).lhs) ?_;refine w_4 ?_;refine b5 (ka 3 (ka 4 (ka 11 (ka 12 (ka 20 (ka 21 kn)))))) km (fun k=>⟨[(22,some (vI k))],[(900,some (.arr true 2 48 (spl l).length (lf Fd.c (s7 (gp (spl l) i) i k))))]⟩) ((aj ((gp (spl l) i).getD i default).lhs).length) ⟨tt,⟨⟨_,rfl,(dg (ayg _ _) rfl)⟩,trivial⟩⟩ ?_;rintro k hk;have hml:=o0 ((gp (spl l) i).getD i default).lhs;refine w_5 ?_;refine hcd (fun h1=>?_) (fun h1=>?_)
  ·
   have hkl:(s7 (gp (spl l) i) i k).length = (spl l).length:=by rw [aok,j1]
   have hhas:=azl (l:=(gp (spl l) i)) (i:=i) (k:=k) (by rw [j1];omega) bqi;refine y5 ?_;refine rc rfl rfl rfl rfl rfl rfl (wgx Tryz.func230) (bdf (s7 (gp (spl l) i) i k) ((s7 (gp (spl l) i) i k).getD i default) ((aj ((gp (spl l) i).getD i default).lhs).getD k default)) (⟨CoC.one (a80 (by rw [aok,j1])),CoC.refl _,CoC.refl _,trivial⟩) rfl rfl ?_;refine bz ?_;refine hcb (fun h2=>?_) (fun h2=>?_)
   ·
    refine w_7 ?_;refine rq rfl rfl rfl rfl rfl ?_ (hp:=(bom _));refine c5 ?_
    first | (refine ⟨k + 1, ?_, ?_, ?_⟩
             · show k + 1 <= _;omega
             · first | omega | (dsimp only;omega)
             exact ⟨tt,⟨⟨_,rfl,(a85 (i:=i) (a:=(aj ((gp (spl l) i).getD i default).lhs).getD k default) (l:=(s7 (gp (spl l) i) i k)) (by rw [a1d bqi,axj hhas bqj]) (w3 _ _) bqi bqi hkl.symm)⟩,trivial⟩⟩)
          | (refine ⟨k + 1, ?_, ?_, ?_⟩
             · show k + 1 <= _;omega
             · first | omega | (dsimp only;omega)
             exact ⟨tt,⟨⟨_,rfl,(dg (by rw [a1d bqi,awx bqj]) rfl)⟩,trivial⟩⟩)
   refine w_5 ?_
   first | (refine ⟨k + 1, ?_, ?_, ?_⟩
            · show k + 1 <= _;omega
            · first | omega | (dsimp only;omega)
            exact ⟨tt,⟨⟨_,rfl,(a85 (i:=i) (a:=(aj ((gp (spl l) i).getD i default).lhs).getD k default) (l:=(s7 (gp (spl l) i) i k)) (by rw [a1d bqi,axj hhas bqj]) (w3 _ _) bqi bqi hkl.symm)⟩,trivial⟩⟩)
         | (refine ⟨k + 1, ?_, ?_, ?_⟩
            · show k + 1 <= _;omega
            · first | omega | (dsimp only;omega)
            exact ⟨tt,⟨⟨_,rfl,(dg (by rw [a1d bqi,awx bqj]) rfl)⟩,trivial⟩⟩)
  obtain rfl:k = (aj ((gp (spl l) i).getD i default).lhs).length:=by omega
  refine w_5 ?_;exact lpx (i + 1) ⟨tt,⟨⟨_,rfl,(dg (by rw [a0v,b03 rfl]) rfl)⟩,trivial⟩⟩
 obtain rfl:i = (spl l).length:=by omega
 refine w_2 ?_;refine al 3 rfl rfl rfl ?_;refine w_2 ?_;refine rc rfl rfl rfl rfl rfl rfl (wgx Tryz.func231) (bhk (gp (spl l) (spl l).length) (by rw [j1];omega)) (⟨CoC.one (a80 (by rw [j1])),trivial⟩) rfl rfl ?_;refine w_4 ?_;have hrl:=a44 l;refine w_4 ?_;refine ae (ι:=List Fd × Nat) kn km (fun x=>⟨[(3,some (bp (fdl x.1))),(7,some (vI x.2))],[]⟩) (fun x=>pi (x.1.length - x.2) x.1 x.2 = a7r l /\ x.2 <= x.1.length /\ x.1.length <= 131072) (fun x=>x.1.length - x.2) ((xo l,0)) (⟨rfl,bmh _,by show (xo l).length <= _;omega⟩) ⟨⟨zy,⟨_,rfl,(coi rfl)⟩,trivial⟩,trivial⟩ ?_;rintro x ⟨hx,hx2,hx3⟩;refine w_8 ?_;refine hcd (fun h3=>?_) (fun h3=>?_)
 ·
  refine w_6 ?_;refine qcx (wgx Tryz.func232) (bg4 x.1 x.2 bqi bqi) ?_;refine bz ?_;refine ak _ rfl (fun r4=>?_) (fun r4=>?_)
  ·
   have h4:=r4;have hq:=r4;refine w_3 ?_;refine qcx (wgx Tryz.func233) (asn x.1 x.2 bqi bqi) ?_;refine w_2 ?_
   first | (refine ⟨(gh x.1 x.2, x.2), ?_, ?_, ?_⟩
            · have ho:=gn (l:=x.1) (i:=x.2) bqi
              exact ⟨by rw [<- hx,a97 bqi hq],by dsimp only;omega,by dsimp only;omega⟩
            · have ho:=gn (l:=x.1) (i:=x.2) bqi
              dsimp only;omega
            exact ⟨⟨zy,⟨_,rfl,(coi bql)⟩,trivial⟩,trivial⟩)
         | (refine ⟨(x.1,x.2 + 1), ?_, ?_, ?_⟩
            · exact ⟨by rw [<- hx,a8f bqi hq],by dsimp only;omega,by dsimp only;omega⟩
            · first | omega | (dsimp only;omega)
            exact ⟨⟨zy,⟨_,rfl,(coi bql)⟩,trivial⟩,trivial⟩)
  have h4:=r4;have hq:=r4;refine w_5 ?_
  first | (refine ⟨(gh x.1 x.2, x.2), ?_, ?_, ?_⟩
           · have ho:=gn (l:=x.1) (i:=x.2) bqi
             exact ⟨by rw [<- hx,a97 bqi hq],by dsimp only;omega,by dsimp only;omega⟩
           · have ho:=gn (l:=x.1) (i:=x.2) bqi
             dsimp only;omega
           exact ⟨⟨zy,⟨_,rfl,(coi bql)⟩,trivial⟩,trivial⟩)
        | (refine ⟨(x.1,x.2 + 1), ?_, ?_, ?_⟩
           · exact ⟨by rw [<- hx,a8f bqi hq],by dsimp only;omega,by dsimp only;omega⟩
           · first | omega | (dsimp only;omega)
           exact ⟨⟨zy,⟨_,rfl,(coi bql)⟩,trivial⟩,trivial⟩)
 have hq:=h3;refine v_6 ?_;exact ⟨CoC.one (CoP.of_eq (by rw [<- hx,ahe bqi])),trivial⟩
def b2q (l:List Fd) (hl:l.length <= 4096):d4 br6 193 [.one (.p (fdl l))] [] (.v (.one (.ref 900 (spl l).length))) [(900, .arr true 2 48 (spl l).length (lf Fd.c (spl l)))] []:=by
 refine hfx (nt:=42) Tryz.func193 ?_;refine c5 ?_;refine c8 0 rfl fun hn=>?_;refine w_4 ?_;refine bw 3 901 true 2 48 (lf Fd.c []) bqo rfl (CoP.sl rfl (.inr rfl) (fun h=>h) (fun i j hi _=>absurd hi (bmf i))) (.inr rfl) rfl ?_;refine b5 (ka 0 kn) km (fun i=>⟨[(3,some (.v (.one (.ref 901 (fw (l.take i)).length)))),(4,some (vI i))],[(901,some (.arr true 2 48 (fw (l.take i)).length (lf Fd.c (fw (l.take i)))))]⟩) l.length kk ?_;rintro i hi;refine w_8 ?_;refine hcd (fun h0=>?_) (fun h0=>?_)
 ·
  refine w_8 ?_;refine b5 (ka 0 (ka 4 kn)) km (fun k=>⟨[(3,some (.v (.one (.ref 901 (lb l i k).length)))),(5,some (vI k))],[(901,some (.arr true 2 48 (lb l i k).length (lf Fd.c (lb l i k))))]⟩) 32 ⟨⟨⟨_,rfl,(bi (a9s l i))⟩,tt⟩,⟨⟨_,rfl,(b8 (a9s l i))⟩,trivial⟩⟩ ?_;rintro k hk;have hsl:=asz (l:=l) (i:=i) (k:=k) bqi;refine w_6 ?_;refine hcd (fun h1=>?_) (fun h1=>?_)
  ·
   refine y5 ?_;refine rc rfl rfl rfl rfl rfl rfl ov (a1z ((l.getD i default).rhs &&& ~~~(l.getD i default).lhs) k) (⟨cci (i7 _ _),CoC.refl _,trivial⟩) rfl rfl ?_;refine w_2 ?_;refine hcb (fun h2=>?_) (fun h2=>?_)
   ·
    refine c5 ?_;refine m9 0 ?_;refine r9 1 true ?_;refine w_8 ?_
    first | (refine ⟨k + 1, ?_, ?_, ?_⟩
             · show k + 1 <= _;omega
             · first | omega | (dsimp only;omega)
             exact ⟨⟨⟨_,rfl,(bg (a4y bqi bqj))⟩,tt⟩,⟨⟨_,rfl,(jh (a4y bqi bqj) (CoP.refl _) (CoP.of_eq (by exact congrArg (fun z=>PV.raw (.int .u32 z)) (aes _))))⟩,trivial⟩⟩)
          | (refine ⟨k + 1, ?_, ?_, ?_⟩
             · show k + 1 <= _;omega
             · first | omega | (dsimp only;omega)
             exact ⟨⟨⟨_,rfl,(bi (a4x bqi bqj))⟩,tt⟩,⟨⟨_,rfl,(b8 (a4x bqi bqj))⟩,trivial⟩⟩)
   refine w_6 ?_
   first | (refine ⟨k + 1, ?_, ?_, ?_⟩
            · show k + 1 <= _;omega
            · first | omega | (dsimp only;omega)
            exact ⟨⟨⟨_,rfl,(bg (a4y bqi bqj))⟩,tt⟩,⟨⟨_,rfl,(jh (a4y bqi bqj) (CoP.refl _) (CoP.of_eq (by exact congrArg (fun z=>PV.raw (.int .u32 z)) (aes _))))⟩,trivial⟩⟩)
         | (refine ⟨k + 1, ?_, ?_, ?_⟩
            · show k + 1 <= _;omega
            · first | omega | (dsimp only;omega)
            exact ⟨⟨⟨_,rfl,(bi (a4x bqi bqj))⟩,tt⟩,⟨⟨_,rfl,(b8 (a4x bqi bqj))⟩,trivial⟩⟩)
  obtain rfl:k = 32:=by omega
  refine w_6 ?_;exact lpx (i + 1) ⟨⟨⟨_,rfl,(bi (adv bqi).symm)⟩,tt⟩,⟨⟨_,rfl,(b8 (adv bqi).symm)⟩,trivial⟩⟩
 obtain rfl:i = l.length:=by omega
 refine w_2 ?_;refine al 3 rfl rfl rfl ?_;refine w_2 ?_;refine gj rfl rfl rfl rfl rfl rfl (wgx Tryz.func195) (aq6 (fw l) (bmo (vh l) bqi)) (⟨CoP.of_eq bqy,trivial⟩) trivial rfl rfl ?_;refine w_2 ?_;refine hrr ?_;exact ⟨_,_,rfl,bqk,CoR.refl _,uu⟩
end
section
def yd (n:Int) (l:List Fd):List Fd:=if b6 n l = 0 then a7r l else []
section
variable {l:List Fd}
def anf {n:Int} (h:b6 n l = 0):yd n l = a7r l:=if_pos h
def az3 {n:Int} (h:¬ b6 n l = 0):yd n l = []:=if_neg h
def bfn {s:Nat} {cl:Bool} {f:Nat -> Nat -> PV} {L:List Fd} (h:L = []):CoP (.sl 0 s cl f) (fdl L):=by subst h;exact avc
def wu {s:Nat} {cl:Bool} {f:Nat -> Nat -> PV} {L:List AS} (h:L = []):CoP (.sl 0 s cl f) (asl L):=by subst h;exact avc
def a03 (l:List Fd) (i k:Nat):List Fd:=(List.range k).foldl (im i) l
def b1o {i k:Nat}:(a03 l i k).length = l.length:=a1s _ _
def aw3 (l:List Fd) (i:Nat):a03 l i 0 = l:=rfl
def a19 (l:List Fd) (i k:Nat):a03 l i (k + 1) = im i (a03 l i k) k:=by
 unfold a03;rw [bo0,bnn];rfl
def azr {n:Int} (hv:b6 n l = 0) {i k:Nat} (hi:i < (spl l).length) (hk:k = n.toNat):a03 (gp (spl l) i) i k = gp (spl l) (i + 1):=by
 obtain ⟨h0,h1,_,_⟩:=ew hv;rw [a0v];refine asv (by rw [j1];exact hi) bqi ?_;have:=age (aw1 (akq hv)) i
 have h2:=this ((gp (spl l) i).getD i default) (by
  rw [bmb,bma (by rw [j1];exact hi)]
  exact bmz _)
 unfold a7 at h2;rw [bo5 bqi] at h2;rw [hk];exact h2
end
end
section
open Go.Proofs
def bip (n:Int) (l:List Fd):a6 br6 134 [pI n,pP (fdl l)] (a8 [pP (fdl (yd n l)),pI (b6 n l)]):=by
 refine hpx (nt:=15) Tryz.func134 ?_;refine c5 ?_;refine qcx vk (zz n l) ?_;refine w_7 ?_;refine hcn (fun h0=>?_) (fun h0=>?_)
 · refine v_6 ?_;exact ⟨CoC.one (bfn (az3 bqj)),CoC.refl _,trivial⟩
 refine w_4 ?_;refine qcx (wgx Tryz.func184) (bkr l (by have:=(ew bqj).2.2.1;omega)) ?_;refine v_3 ?_;exact ⟨CoC.one (CoP.of_eq (by rw [anf bqj])),cci bqi,trivial⟩
def bds (n:Int) (l:List Fd):a6 br6 141 [pI n,pP (fdl l)] (a8 [pP (fdl (yd n l)),pI (b6 n l)]):=by
 refine hpx (nt:=61) Tryz.func141 ?_;refine c5 ?_;refine qcx a3g (yz n l) ?_;refine w_7 ?_;refine hcn (fun h0=>?_) (fun h0=>?_)
 · have hv:=h0;refine v_6 ?_;exact ⟨CoC.one (bfn (az3 hv)),CoC.refl _,trivial⟩
 have hv:=h0;refine w_2 ?_;obtain ⟨hv0,hv1,hv2,_⟩:=ew hv;refine w_2 ?_;refine fc9 (wgx Tryz.func193) (b2q l bqi) trivial ?_;refine w_4 ?_;have hsl:=af8 l;refine w_4 ?_;refine b5 (ka 0 (ka 7 kn)) km (fun i=>⟨[(8,some (vI i))],[(900,some (.arr true 2 48 (spl l).length (lf Fd.c (gp (spl l) i))))]⟩) ((spl l).length) kk ?_;rintro i hi;have htl:=j1 (l:=spl l) (i:=i);refine w_8 ?_;refine hcd (fun h1=>?_) (fun h1=>?_)
 ·
  refine w_8 ?_;refine b5 (ka 0 (ka 7 (ka 8 kn))) km (fun k=>⟨[(9,some (vI k))],[(900,some (.arr true 2 48 (spl l).length (lf Fd.c (a03 (gp (spl l) i) i k))))]⟩) n.toNat ⟨tt,⟨⟨_,rfl,(dg (aw3 _ _) rfl)⟩,trivial⟩⟩ ?_;rintro k hk;refine w_7 ?_;refine hcd (fun h2=>?_) (fun h2=>?_)
  ·
   have hkl:(a03 (gp (spl l) i) i k).length = (spl l).length:=by rw [b1o,j1]
   refine w_8 ?_;refine rc rfl rfl rfl rfl rfl rfl (wgx Tryz.func194) (b6q (a03 (gp (spl l) i) i k) i k bqi) (⟨CoC.one (a80 hkl.symm),CoC.refl _,CoC.refl _,trivial⟩) rfl rfl ?_;refine bz ?_;refine ak _ rfl (fun r3=>?_) (fun r3=>?_)
   ·
    have h3:=r3;have hx:=r3;refine abs ?_
    first | (refine ⟨k + 1, ?_, ?_, ?_⟩
             · show k + 1 <= _;omega
             · first | omega | (dsimp only;omega)
             exact ⟨tt,⟨⟨_,rfl,(a85 (i:=i) (a:=k) (l:=(a03 (gp (spl l) i) i k)) (by rw [a19,arm hx]) (w3 _ _) bqi bqi hkl.symm)⟩,trivial⟩⟩)
          | (refine ⟨k + 1, ?_, ?_, ?_⟩
             · show k + 1 <= _;omega
             · first | omega | (dsimp only;omega)
             exact ⟨tt,⟨⟨_,rfl,(dg (by rw [a19,aqy hx]) rfl)⟩,trivial⟩⟩)
   have h3:=r3;have hx:=r3;refine w_6 ?_
   first | (refine ⟨k + 1, ?_, ?_, ?_⟩
            · show k + 1 <= _;omega
            · first | omega | (dsimp only;omega)
            exact ⟨tt,⟨⟨_,rfl,(a85 (i:=i) (a:=k) (l:=(a03 (gp (spl l) i) i k)) (by rw [a19,arm hx]) (w3 _ _) bqi bqi hkl.symm)⟩,trivial⟩⟩)
         | (refine ⟨k + 1, ?_, ?_, ?_⟩
            · show k + 1 <= _;omega
            · first | omega | (dsimp only;omega)
            exact ⟨tt,⟨⟨_,rfl,(dg (by rw [a19,aqy hx]) rfl)⟩,trivial⟩⟩)
  obtain rfl:k = n.toNat:=by omega
  refine w_6 ?_;exact lpx (i + 1) ⟨tt,⟨⟨_,rfl,(dg (azr hv bqi rfl).symm rfl)⟩,trivial⟩⟩
 obtain rfl:i = (spl l).length:=by omega
 refine w_2 ?_;refine al 7 rfl rfl rfl ?_;refine w_2 ?_;refine rc rfl rfl rfl rfl rfl rfl (wgx Tryz.func195) (bgq (gp (spl l) (spl l).length) (by rw [j1];omega)) (⟨CoC.one (a80 (by rw [j1])),trivial⟩) rfl rfl ?_;refine w_4 ?_;have hrl:=a44 l;refine w_4 ?_;refine ae (ι:=List Fd × Nat) kn km (fun x=>⟨[(7,some (bp (fdl x.1))),(10,some (vI x.2))],[]⟩) (fun x=>pi (x.1.length - x.2) x.1 x.2 = a7r l /\ x.2 <= x.1.length /\ x.1.length <= 131072) (fun x=>x.1.length - x.2) ((xo l,0)) (⟨rfl,bmh _,by show (xo l).length <= _;omega⟩) ⟨⟨zy,⟨_,rfl,(coi rfl)⟩,trivial⟩,trivial⟩ ?_;rintro x ⟨hx,hx2,hx3⟩;refine w_8 ?_;refine hcd (fun h4=>?_) (fun h4=>?_)
 ·
  refine w_6 ?_;refine qcx (wgx Tryz.func196) (bac x.1 x.2 bqi bqi) ?_;refine bz ?_;refine ak _ rfl (fun r5=>?_) (fun r5=>?_)
  ·
   have h5:=r5;have hq:=r5;refine w_3 ?_;refine qcx (wgx Tryz.func197) (aks x.1 x.2 bqi bqi) ?_;refine w_2 ?_
   first | (refine ⟨(gh x.1 x.2, x.2), ?_, ?_, ?_⟩
            · have ho:=gn (l:=x.1) (i:=x.2) bqi
              exact ⟨by rw [<- hx,a97 bqi hq],by dsimp only;omega,by dsimp only;omega⟩
            · have ho:=gn (l:=x.1) (i:=x.2) bqi
              dsimp only;omega
            exact ⟨⟨zy,⟨_,rfl,(coi bql)⟩,trivial⟩,trivial⟩)
         | (refine ⟨(x.1,x.2 + 1), ?_, ?_, ?_⟩
            · exact ⟨by rw [<- hx,a8f bqi hq],by dsimp only;omega,by dsimp only;omega⟩
            · first | omega | (dsimp only;omega)
            exact ⟨⟨zy,⟨_,rfl,(coi bql)⟩,trivial⟩,trivial⟩)
  have h5:=r5;have hq:=r5;refine w_5 ?_
  first | (refine ⟨(gh x.1 x.2, x.2), ?_, ?_, ?_⟩
           · have ho:=gn (l:=x.1) (i:=x.2) bqi
             exact ⟨by rw [<- hx,a97 bqi hq],by dsimp only;omega,by dsimp only;omega⟩
           · have ho:=gn (l:=x.1) (i:=x.2) bqi
             dsimp only;omega
           exact ⟨⟨zy,⟨_,rfl,(coi bql)⟩,trivial⟩,trivial⟩)
        | (refine ⟨(x.1,x.2 + 1), ?_, ?_, ?_⟩
           · exact ⟨by rw [<- hx,a8f bqi hq],by dsimp only;omega,by dsimp only;omega⟩
           · first | omega | (dsimp only;omega)
           exact ⟨⟨zy,⟨_,rfl,(coi bql)⟩,trivial⟩,trivial⟩)
 have hq:=h4;refine v_7 ?_;exact ⟨CoC.one (CoP.of_eq (by rw [anf hv,<- hx,ahe bqi])),cci bqi,trivial⟩
end
section
def a5h (a b:Nat):a &&& b = 2 * (a / 2 &&& b / 2) + (a % 2 &&& b % 2):=by
 have h1:=Nat.div_add_mod (a &&& b) 2
 have h2:(a &&& b) % 2 = a % 2 &&& b % 2:=by
  have:=Nat.and_mod_two_pow (a:=a) (b:=b) (n:=1);simpa using this
 rw [Nat.and_div_two,h2] at h1;exact h1.symm
def af0 (a b:Nat):(a % 2 &&& b % 2) = if a % 2 = 1 /\ b % 2 = 1 then 1 else 0:=by
 rcases Nat.mod_two_eq_zero_or_one a with h | h <;> rcases Nat.mod_two_eq_zero_or_one b with k | k <;> rw [h,k] <;> rfl
section
variable {x:Nat}
def a7i {s:Nat} (h:x &&& s = x):(x / 2 &&& s / 2 = x / 2) /\ (x % 2 = 1 -> s % 2 = 1):=by
 have h1:=a5h x s;rw [h,af0] at h1;split at h1 <;> rename_i hc
 · exact ⟨by omega,fun _=>hc.2⟩
 exact ⟨by omega,fun hx=>by omega⟩
def ali:∀ (x s z:Nat),x &&& s = x -> z &&& s = z -> z < x -> z <= ((x - 1) &&& s):=by
 intro x
 induction x using Nat.strongRecOn with
 | _ x ih =>
  intro s z hx hz hlt;obtain ⟨x1,x2⟩:=a7i hx;obtain ⟨z1,z2⟩:=a7i hz;rw [a5h (x - 1) s,af0]
  rcases Nat.mod_two_eq_zero_or_one x with hb | hb
  · have e1:(x - 1) / 2 = x / 2 - 1:=by omega
    have e2:(x - 1) % 2 = 1:=by omega
    have:=ih (x / 2) bqi (s / 2) (z / 2) x1 z1 bqi;rw [e1,e2];by_cases hs:s % 2 = 1
    · rw [if_pos ⟨rfl,hs⟩];omega
    rw [if_neg (fun h=>hs h.2)];have:z % 2 = 0:=by omega
    omega
  have e1:(x - 1) / 2 = x / 2:=by omega
  have e2:(x - 1) % 2 = 0:=by omega
  rw [e1,e2,x1,if_neg bqi];omega
def aqh:∀ (w y s:Nat),y &&& s = y -> s < 2 ^ w -> ((2 ^ w - 1 - y) &&& s) = s - y:=by
 intro w
 induction w with
 | zero=>intro y s h hs;obtain rfl:s = 0:=(by simpa using hs);simp
 | succ w ih =>
  intro y s h hs;obtain ⟨y1,y2⟩:=a7i h;have hle:y <= s:=by rw [<- h];exact bp9
  rw [Nat.pow_succ] at hs ⊢;have hp:=bq6 w;have:=ih (y / 2) (s / 2) y1 bqi;have hle2:y / 2 <= s / 2:=by omega
  rw [a5h,af0,show (2 ^ w * 2 - 1 - y) / 2 = 2 ^ w - 1 - y / 2 by omega,this];split <;> omega
def ay8 {y s:Nat} (h:y &&& s = y):(s - y) &&& s = s - y:=by
 rw [<- aqh s y s h Nat.lt_two_pow_self,Nat.and_assoc,Nat.and_self]
def ba5 {w s:Nat} (hx:x &&& s = x) (hs:s < 2 ^ w) (hne:x < s):((2 ^ w + x - s) &&& s) = s - ((s - x - 1) &&& s):=by
 have h1:((s - x - 1) &&& s) &&& s = (s - x - 1) &&& s:=by rw [Nat.and_assoc,Nat.and_self]
 rw [<- aqh w _ s h1 hs];have hp:=bq6 w;apply Nat.eq_of_testBit_eq;intro i;have hlt:s - x - 1 < 2 ^ w:=by omega
 have hlt2:((s - x - 1) &&& s) < 2 ^ w:=bpp Nat.and_le_left hlt;rw [Nat.testBit_and,Nat.testBit_and,show 2 ^ w + x - s = 2 ^ w - (s - x - 1 + 1) by omega,Nat.testBit_two_pow_sub_succ hlt,show 2 ^ w - 1 - ((s - x - 1) &&& s) = 2 ^ w - (((s - x - 1) &&& s) + 1) by omega,Nat.testBit_two_pow_sub_succ hlt2,Nat.testBit_and];cases s.testBit i <;> simp
def anj {w s z:Nat} (hx:x &&& s = x) (hs:s < 2 ^ w) (hz:z &&& s = z) (hlt:x < z):((2 ^ w + x - s) &&& s) <= z /\ x < ((2 ^ w + x - s) &&& s):=by
 have hzs:z <= s:=by rw [<- hz];exact bp9
 rw [ba5 hx hs bqi];have h1:=ali (s - x) s (s - z) (ay8 hx) (ay8 hz) bqi;have h2:((s - x - 1) &&& s) <= s - x - 1:=Nat.and_le_left;omega
variable {s z:AS}
def a5w:sub z s <-> z.toNat &&& s.toNat = z.toNat:=by
 rw [<- bp8,BitVec.toNat_inj,ar];constructor
 · intro h
   apply bnu;intro k hk;rw [bmr]
   cases hz:z.getLsbD k with
   | false=>rfl
   | true=>rw [h k hk hz];rfl
 intro h i _ hi;rw [<- h,bmr] at hi;simp at hi;exact hi.2
def afq (h:sub z s):bsz z <= bsz s:=by
 unfold bsz;apply List.countP_mono_left;intro i hi hb;exact ar.1 h i (bmq.1 hi) hb
def a1p (s:AS):Nat -> AS -> List AS
 | 0,_=>[]
 | n + 1,x=>x :: if x = 0 then [] else a1p s n ((x - 1) &&& s)
def a4j {x:AS} (h:x ≠ 0):(x - 1).toNat = x.toNat - 1:=by
 have h0:x.toNat ≠ 0:=fun e=>h (bng e);have:=x.isLt;rw [BitVec.toNat_sub];show (2 ^ 32 - 1 + x.toNat) % 2 ^ 32 = _;omega
def a5a {x:AS}:sub ((x - 1) &&& s) s:=by
 rw [a5w,bp8,Nat.and_assoc,Nat.and_self]
def qv {x:AS} (h:x ≠ 0):((x - 1) &&& s).toNat < x.toNat:=by
 have h0:x.toNat ≠ 0:=fun e=>h (bng e);rw [bp8,a4j h];have:((x.toNat - 1) &&& s.toNat) <= x.toNat - 1:=Nat.and_le_left;omega
def abj {x:AS} (hx:sub x s) (hz:sub z s) (h:z.toNat < x.toNat):z.toNat <= ((x - 1) &&& s).toNat:=by
 have h0:x ≠ 0:=fun e=>by subst e;exact absurd h (bmf _)
 rw [bp8,a4j h0];exact ali _ _ _ (a5w.1 hx) (a5w.1 hz) h
def akm:∀ (n:Nat) (x:AS),sub x s -> x.toNat < n -> ∀ z,z ∈ a1p s n x <-> sub z s /\ z.toNat <= x.toNat
 | 0,x,_,h,z=>absurd h (bmf _)
 | n + 1,x,hx,h,z=>by
  unfold a1p;by_cases h0:x = 0
  · rw [if_pos h0,bmx]
    subst h0;constructor
    · rintro rfl;exact ⟨hx,bmd _⟩
    rintro ⟨_,h⟩;exact bng (Nat.le_antisymm h (bmh _))
  rw [if_neg h0,bmp,akm n _ a5a (by have:=qv (s:=s) h0;omega)];constructor
  · rintro (rfl | ⟨h1,h2⟩)
    · exact ⟨hx,bmd _⟩
    have:=qv (s:=s) h0;exact ⟨h1,by omega⟩
  rintro ⟨h1,h2⟩;by_cases he:z = x
  · exact .inl he
  have hne:z.toNat ≠ x.toNat:=fun e=>he (bng e);exact .inr ⟨h1,abj hx h1 bqi⟩
def yp (s:AS):List AS:=ord (a1p s (s.toNat + 1) s)
def sub_self (s:AS):sub s s:=by rw [a5w,Nat.and_self]
def a0s (h:sub z s):z.toNat <= s.toNat:=by rw [<- a5w.1 h];exact bp9
def a15:z ∈ yp s <-> sub z s:=by
 unfold yp;rw [qn,akm _ _ (sub_self s) (Nat.lt_succ_self _)];exact ⟨fun h=>h.1,fun h=>⟨h,a0s h⟩⟩
def alu {l:List AS} (ho:ru l) (h:∀ z,z ∈ l <-> sub z s):l = yp s:=s8 ho (jj _) fun z=>by rw [h z];exact a15.symm
def aq (s:AS):List AS:=if 12 < bsz s then [] else yp s
def a2z (h:(12:Int) < bsz s):aq s = []:=if_pos bqi
def aem (h:¬ (12:Int) < bsz s):aq s = yp s:=if_neg bqi
def a92 (s:AS) (y:List AS × AS):Prop:=sub y.2 s /\ y.1.length + y.2.toNat <= s.toNat + 1 /\ ∀ z,z ∈ y.1 <-> sub z s /\ y.2.toNat <= z.toNat
def agw (s:AS):a92 s ([s],s):=⟨sub_self s,by simp only [bo1];omega,fun z=>by
 rw [bmx];constructor
 · rintro rfl;exact ⟨sub_self _,bmd _⟩
 rintro ⟨h1,h2⟩;exact bng (Nat.le_antisymm (a0s h1) h2)⟩
def ahf {y:List AS × AS} (h:a92 s y) (h0:y.2 ≠ 0):a92 s (y.1 ++ [(y.2 - 1) &&& s],(y.2 - 1) &&& s):=by
 obtain ⟨h1,h2,h3⟩:=h;have hl:=qv (s:=s) h0;refine ⟨a5a,by simp only [bmg,bo1];omega,fun z=>?_⟩;rw [bmu,bmx,h3];constructor
 · rintro (⟨k1,k2⟩ | rfl)
   · exact ⟨k1,by dsimp only;omega⟩
   exact ⟨a5a,bmd _⟩
 rintro ⟨k1,k2⟩;dsimp only at k2;by_cases hz:y.2.toNat <= z.toNat
 · exact .inl ⟨k1,hz⟩
 have:=abj h1 k1 bqi;exact .inr (bng bqi)
def al9 {y:List AS × AS} (h:a92 s y) (h0:y.2 = 0):ord y.1 = yp s:=alu (jj _) fun z=>by
 rw [qn,h.2.2,h0];exact ⟨fun h=>h.1,fun h=>⟨h,bmh _⟩⟩
def nxt (x s:Nat):Nat:=if x = s then s + 1 else ((2 ^ 64 + x - s) &&& s)
def UpI (s:AS) (k:Nat) (y:List AS × Nat):Prop :=
 (y.2 = s.toNat + 1 \/ y.2 &&& s.toNat = y.2) /\ y.1.length <= k * 4294967296 + y.2 /\ ru y.1 /\ ∀ z,z ∈ y.1 <-> sub z s /\ (bsz z < k \/ bsz z = k /\ z.toNat < y.2)
def vq {s:Nat} (hs:s < 2 ^ 32) (hx:x &&& s = x):x < nxt x s /\ (nxt x s = s + 1 \/ nxt x s &&& s = nxt x s) /\ ∀ z,z &&& s = z -> x < z -> nxt x s <= z:=by
 have hle:x <= s:=by rw [<- hx];exact bp9
 have hs':s < 2 ^ 64:=Nat.lt_trans hs bqo;unfold nxt;by_cases he:x = s
 · rw [if_pos he]
   refine ⟨by omega, .inl rfl,fun z hz hlt=>?_⟩;have:z <= s:=by rw [<- hz];exact bp9
   omega
 rw [if_neg he];refine ⟨(anj hx hs' (Nat.and_self s) bqi).2, .inr (by rw [Nat.and_assoc,Nat.and_self]),fun z hz hlt=>(anj hx hs' hz hlt).1⟩
variable {k:Nat} {y:List AS × Nat}
def a4q (h:UpI s k y) (hy:y.2 <= s.toNat):y.2 &&& s.toNat = y.2:=by
 rcases h.1 with h | h
 · omega
 exact h
def b45 (h:UpI s k y):y.2 <= s.toNat + 1:=by
 rcases h.1 with h | h
 · omega
 have:y.2 <= s.toNat:=by rw [<- h];exact bp9
 omega
def axo (h:UpI s k y) (hy:y.2 <= s.toNat):(BitVec.ofNat 32 y.2).toNat = y.2:=by
 have:=s.isLt;rw [bq7,bp6 bqi]
def beg (h:UpI s k y) (hy:y.2 <= s.toNat) (hk:bsz (BitVec.ofNat 32 y.2) = k):UpI s k (y.1 ++ [BitVec.ofNat 32 y.2],nxt y.2 s.toNat):=by
 have hn:=axo h hy;obtain ⟨s1,s2,s3⟩:=vq s.isLt (a4q h hy);have hsub:sub (BitVec.ofNat 32 y.2) s:=a5w.2 (by rw [hn];exact a4q h hy);obtain ⟨h1,h2,h3,h4⟩:=h;refine ⟨s2,by simp only [bmg,bo1];omega, ?_,fun z=>?_⟩
 · refine bpf.2 ⟨h3,List.pairwise_singleton _ _,fun a ha b hb=>?_⟩
   rw [bmx] at hb;subst hb;rw [nn];have:=((h4 a).1 ha).2;omega
 rw [bmu,bmx,h4];dsimp only;constructor
 · rintro (⟨k1,k2⟩ | rfl)
   · exact ⟨k1,by omega⟩
   exact ⟨hsub, .inr ⟨hk,by omega⟩⟩
 rintro ⟨k1,k2 | ⟨k2,k3⟩⟩
 · exact .inl ⟨k1, .inl k2⟩
 by_cases hz:z.toNat < y.2
 · exact .inl ⟨k1, .inr ⟨k2,hz⟩⟩
 by_cases hz2:y.2 < z.toNat
 · have:=s3 z.toNat (a5w.1 k1) hz2
   omega
 exact .inr (bng bqi)
def bfq (h:UpI s k y) (hy:y.2 <= s.toNat) (hk:bsz (BitVec.ofNat 32 y.2) ≠ k):UpI s k (y.1,nxt y.2 s.toNat):=by
 have hn:=axo h hy;obtain ⟨s1,s2,s3⟩:=vq s.isLt (a4q h hy);obtain ⟨h1,h2,h3,h4⟩:=h;refine ⟨s2,by dsimp only;omega,h3,fun z=>?_⟩;rw [h4];dsimp only;constructor
 · rintro ⟨k1,k2⟩
   exact ⟨k1,by omega⟩
 rintro ⟨k1,k2 | ⟨k2,k3⟩⟩
 · exact ⟨k1, .inl k2⟩
 by_cases hz:z.toNat < y.2
 · exact ⟨k1, .inr ⟨k2,hz⟩⟩
 by_cases hz2:y.2 < z.toNat
 · have:=s3 z.toNat (a5w.1 k1) hz2
   omega
 have e:z = BitVec.ofNat 32 y.2:=bng bqi;exact absurd (e ▸ k2) hk
def UpK (s:AS) (k:Nat) (l:List AS):Prop:=l.length <= k * 4294967296 /\ ru l /\ ∀ z,z ∈ l <-> sub z s /\ bsz z < k
def b2w (s:AS):UpK s 0 []:=by
 refine ⟨?_,List.Pairwise.nil,fun z=>?_⟩
 · show 0 <= _
   exact bmh _
 constructor
 · intro h;cases h
 rintro ⟨_,h⟩;omega
def bfl {l:List AS} (h:UpK s k l):UpI s k (l,0):=by
 obtain ⟨h1,h2,h3⟩:=h;unfold UpI;dsimp only;refine ⟨.inr (Nat.zero_and _),bmo h1 (Nat.le_add_right _ _),h2,fun z=>?_⟩;rw [h3];constructor
 · rintro ⟨a,b⟩
   exact ⟨a, .inl b⟩
 rintro ⟨a,b | ⟨_,b⟩⟩
 · exact ⟨a,b⟩
 exact absurd b (bmf _)
def b9f (h:UpI s k y) (hy:¬ y.2 <= s.toNat):UpK s (k + 1) y.1:=by
 have h0:=b45 h;have:=s.isLt;obtain ⟨h1,h2,h3,h4⟩:=h;refine ⟨by rw [bno];omega,h3,fun z=>?_⟩;rw [h4];constructor
 · rintro ⟨k1,k2⟩
   exact ⟨k1,by omega⟩
 rintro ⟨k1,k2⟩;have:=a0s k1;exact ⟨k1,by omega⟩
def bbp {l:List AS} (h:UpK s k l) (hk:bsz s < k):l = yp s:=alu h.2.1 fun z=>by
 rw [h.2.2];exact ⟨fun h=>h.1,fun h=>⟨h,by have:=afq h;omega⟩⟩
abbrev pU (n:Nat):PC:=.one (.raw (.int .u64 (n:Int)))
abbrev vU (n:Nat):HR:=bp (.raw (.int .u64 (n:Int)))
def anv (n:Int):IntKind.wrap .u64 n = n % 18446744073709551616:=by
 simp [IntKind.wrap,IntKind.signed,IntKind.bits]
def bdl {s:Nat} (hs:s < 4294967296) (hx:x <= s) (h:¬ (x:Int) = s) {a:Int} (ha:a = IntKind.wrap .u64 ((x:Int) - s) \/ a = (x:Int) - s):ay .and .u64 a s = (nxt x s:Nat):=by
 unfold nxt;rw [if_neg bqi];show IntKind.wrap .u64 ((BitVec.ofInt 64 a &&& BitVec.ofInt 64 s).toNat:Int) = _
 have e1:(BitVec.ofInt 64 a).toNat = 2 ^ 64 + x - s:=by
  rw [BitVec.toNat_ofInt]
  rcases ha with rfl | rfl
  · rw [anv]
    omega
  omega
 have e2:(BitVec.ofInt 64 (s:Int)).toNat = s:=by
  rw [BitVec.toNat_ofInt];omega
 have h2:((2 ^ 64 + x - s) &&& s) <= s:=bp9;rw [bp8,e1,e2,anv];omega
def be5 {s:Nat} (hs:s < 4294967296) (h:(x:Int) = s):(s:Int) + 1 = (nxt x s:Nat):=by
 unfold nxt;rw [if_pos bqi];omega
def zm {x:AS} (h:x ≠ 0):ay .and .u32 (asI x - 1) (asI s) = asI ((x - 1) &&& s):=by rw [anc h,fj]
def a0c {α:Type} [Inhabited α] {wr wr':Bool} {e:TypeId} {c:α -> Nat -> PV} {x:α} {f:Nat -> Nat -> PV} (h:CoP (f 0 0) (c x 0)) (hw:wr' = true -> wr = true:=by exact fun h=>h):CoO (.arr wr 1 e 1 f) (.arr wr' 1 e [x].length (lf c [x])) :=
 ⟨hw,rfl,rfl,rfl,fun i j hi hj=>by
  have hi:i < 1:=hi;have hj:j < 1:=hj;obtain rfl:j = 0:=by omega
  obtain rfl:i = 0:=by omega
  exact h⟩
def j7 {n:Nat} (h:n < 4294967296):(n:Int) = asI (BitVec.ofNat 32 n):=by
 unfold asI;rw [bq7];omega
end
end
section
open Go.Proofs
def b4m (x s:Nat) (hs:s < 4294967296) (hx:x <= s):a6 br6 173 [pU x,pU s] (a8 [pU (nxt x s)]):=by
 refine hpx (nt:=15) Tryz.func173 ?_;refine cq ?_;refine hcd (fun h0=>?_) (fun h0=>?_)
 · refine v_6 ?_;exact ⟨cci (be5 hs h0),trivial⟩
 refine w_5 ?_;refine rqw rfl rfl rfl rfl rfl ?_;refine v_4 ?_;exact ⟨cci (bdl hs hx h0 (by first | exact .inl rfl | exact .inr rfl)),trivial⟩
def a9e:goodFn br6 118:=wgx Tryz.func118
def b3u (s:AS):a6 br6 118 [pA s] (a8 [pP (asl (aq s))]):=by
 refine hpx (nt:=23) Tryz.func118 ?_;refine w_8 ?_;refine qcx za (a9b s) ?_;refine w_2 ?_;refine hcd (fun h0=>?_) (fun h0=>?_)
 · refine v_4 ?_;exact ⟨CoC.one (wu (a2z h0)),trivial⟩
 refine w_4 ?_;refine m9 0 ?_;refine w_9 ?_;refine ae (ι:=List AS × AS) (ka 0 kn) km (fun y=>⟨[(3,some (.v (.one (.ref 0 y.1.length)))),(4,some (vA y.2))],[(0,some (.arr true 1 46 y.1.length (lf sC y.1)))]⟩) (fun y=>a92 s y) (fun y=>y.2.toNat) (([s],s)) (agw s) ⟨tt,⟨⟨_,rfl,(a0c (CoP.refl _))⟩,trivial⟩⟩ ?_;rintro y hy;have hlen:=hy.2.1;have hsl:=s.isLt;refine w_6 ?_;refine hcn (fun h1=>?_) (fun h1=>?_)
 ·
  have hne:y.2 ≠ 0:=fun e=>h1 (by rw [e];rfl);refine w_5 ?_;refine rq rfl rfl rfl rfl rfl ?_ (hp:=(a0p hne));refine w_7 ?_;refine m9 1 ?_;refine r9 2 true ?_;refine w_2 ?_;refine ⟨(y.1 ++ [(y.2 - 1) &&& s],(y.2 - 1) &&& s), ?_, ?_, ?_⟩
  · exact ahf hy hne
  · exact qv hne
  exact ⟨⟨⟨_,rfl,(bg rfl)⟩,⟨_,rfl,(bj (zm hne))⟩,tt⟩,⟨⟨_,rfl,(bh rfl (CoP.of_eq (by rw [zm hne];rfl)))⟩,trivial⟩⟩
 have hz:y.2 = 0:=c6.1 h1;refine w_2 ?_;refine al 3 rfl rfl rfl ?_;refine w_2 ?_;refine qcx zi (a5s y.1 bqi) ?_;refine v_2 ?_;exact ⟨CoC.one (CoP.of_eq (by rw [aem h0,al9 hy hz])),trivial⟩
def afc:goodFn br6 124:=wgx Tryz.func124
def als (s:AS):a6 br6 124 [pA s] (a8 [pP (asl (aq s))]):=by
 refine hpx (nt:=34) Tryz.func124 ?_;refine w_8 ?_;refine rc rfl rfl rfl rfl rfl rfl vz (a0l _) (⟨cci (by first | rfl | exact j7 bqi),trivial⟩) rfl rfl ?_;refine w_2 ?_;refine hcd (fun h0=>?_) (fun h0=>?_)
 · refine v_4 ?_;exact ⟨CoC.one (wu (a2z h0)),trivial⟩
 refine cq ?_;refine bw 3 900 true 1 46 (lf sC []) bqo rfl (CoP.sl rfl (.inr rfl) (fun h=>h) (fun i j hi _=>absurd hi (bmf i))) (.inr rfl) rfl ?_;refine ae (ι:=List AS × Nat) (ka 0 kn) km (fun x=>⟨[(3,some (.v (.one (.ref 900 x.1.length)))),(4,some (vI x.2))],[(900,some (.arr true 1 46 x.1.length (lf sC x.1)))]⟩) (fun x=>UpK s x.2 x.1 /\ x.2 <= bsz s + 1) (fun x=>bsz s + 1 - x.2) (([],0)) (⟨b2w s,bmh _⟩) kk ?_;rintro x ⟨hx,hxb⟩;have hlen:=hx.1;have hsl:=s.isLt;have hbz:=anw s;refine w_5 ?_;refine rc rfl rfl rfl rfl rfl rfl vz (a0l _) (⟨cci (by first | rfl | exact j7 bqi),trivial⟩) rfl rfl ?_;refine w_2 ?_;refine hcd (fun h1=>?_) (fun h1=>?_)
 ·
  refine w_8 ?_;refine ae (ι:=List AS × Nat) (ka 0 (ka 4 kn)) km (fun y=>⟨[(3,some (.v (.one (.ref 900 y.1.length)))),(5,some (vU y.2))],[(900,some (.arr true 1 46 y.1.length (lf sC y.1)))]⟩) (fun y=>UpI s x.2 y) (fun y=>s.toNat + 1 - y.2) ((x.1,0)) (bfl hx) kk ?_;rintro y hy;have hlen2:=hy.2.1;have hyl:=b45 hy;have hsa:asI s = (s.toNat:Int):=rfl;refine w_5 ?_;refine qy ?_ (hp:=(by simp only [ij,inR,mo,o7];omega));refine w_2 ?_;refine hcd (fun h2=>?_) (fun h2=>?_)
  ·
   refine w_6 ?_;refine qy ?_ (hp:=(by simp only [ij,inR,mo,o7];omega));refine rc rfl rfl rfl rfl rfl rfl vz (a0l _) (⟨cci (by first | rfl | exact j7 bqi),trivial⟩) rfl rfl ?_;refine w_3 ?_;refine hcd (fun h3=>?_) (fun h3=>?_)
   ·
    refine w_3 ?_;refine qy ?_ (hp:=(by simp only [ij,inR,mo,o7];omega));refine m9 0 ?_;refine r9 1 true ?_;refine w_5 ?_;refine qy ?_ (hp:=(by simp only [ij,inR,mo,o7];omega));refine rc rfl rfl rfl rfl rfl rfl (wgx Tryz.func173) (b4m y.2 s.toNat s.isLt bqi) (⟨CoC.refl _,cci rfl,trivial⟩) rfl rfl ?_;refine w_2 ?_
    first | (refine ⟨(y.1 ++ [BitVec.ofNat 32 y.2], nxt y.2 s.toNat), ?_, ?_, ?_⟩
             · exact beg hy bqi bqi
             · have:=(vq s.isLt (a4q hy bqi)).1
               dsimp only;omega
             exact ⟨⟨⟨_,rfl,(bg rfl)⟩,tt⟩,⟨⟨_,rfl,(bh rfl (CoP.of_eq (congrArg (fun z=>PV.raw (.int .u32 z)) (j7 bqi))))⟩,trivial⟩⟩)
          | (refine ⟨(y.1,nxt y.2 s.toNat), ?_, ?_, ?_⟩
             · exact bfq hy bqi bqi
             · have:=(vq s.isLt (a4q hy bqi)).1
               dsimp only;omega
             exact kk)
   refine w_4 ?_;refine qy ?_ (hp:=(by simp only [ij,inR,mo,o7];omega));refine rc rfl rfl rfl rfl rfl rfl (wgx Tryz.func173) (b4m y.2 s.toNat s.isLt bqi) (⟨CoC.refl _,cci rfl,trivial⟩) rfl rfl ?_;refine w_2 ?_
   first | (refine ⟨(y.1 ++ [BitVec.ofNat 32 y.2], nxt y.2 s.toNat), ?_, ?_, ?_⟩
            · exact beg hy bqi bqi
            · have:=(vq s.isLt (a4q hy bqi)).1
              dsimp only;omega
            exact ⟨⟨⟨_,rfl,(bg rfl)⟩,tt⟩,⟨⟨_,rfl,(bh rfl (CoP.of_eq (congrArg (fun z=>PV.raw (.int .u32 z)) (j7 bqi))))⟩,trivial⟩⟩)
         | (refine ⟨(y.1,nxt y.2 s.toNat), ?_, ?_, ?_⟩
            · exact bfq hy bqi bqi
            · have:=(vq s.isLt (a4q hy bqi)).1
              dsimp only;omega
            exact kk)
  refine w_6 ?_;refine ⟨(y.1,x.2 + 1), ?_, ?_, ?_⟩
  · show UpK s (x.2 + 1) y.1 /\ x.2 + 1 <= _
    exact ⟨b9f (y:=y) hy bqi,by omega⟩
  · dsimp only
    omega
  exact kk
 refine w_6 ?_;refine al 2 rfl rfl rfl ?_;exact hx8 rfl rfl rfl (⟨CoC.one (CoP.of_eq (by rw [aem h0,bbp hx bqi];rfl)),trivial⟩)
end
section
def pw (l:List Fd) (p x:AS):Bool:=decide (clo l x &&& p ≠ x) && decide (clo l x &&& p ≠ p)
def adz (l:List Fd) (p:AS):Option AS:=(aq p).find? (pw l p)
def aus (l:List Fd) (p x:AS):Fd:=⟨x,(clo l x &&& p) &&& ~~~x⟩
def lr (l:List Fd) (p:AS):Fd:=match adz l p with
 | some x=>aus l p x
 | none=>⟨0,0⟩
def ec (l:List Fd) (p:AS):Bool:=(adz l p).isSome
def adm {α:Type} [Inhabited α] {q:α -> Bool} {l:List α} {i:Nat} (hi:i < l.length) (hI:∀ j,j < i -> q (l.getD j default) = false) (h:q (l.getD i default) = true):l.find? q = some (l.getD i default):=by
 rw [List.find?_eq_some_iff_getElem];refine ⟨h,i,hi,by simp [List.getD,hi],fun j hj=>?_⟩;have:=hI j hj;rw [bmb,bma bqi,bn6] at this;simp [this]
def ak7 {α:Type} [Inhabited α] {q:α -> Bool} {l:List α} (hI:∀ j,j < l.length -> q (l.getD j default) = false):l.find? q = none:=by
 rw [bpb];intro x hx;obtain ⟨j,hj,rfl⟩:=bn1 hx;have:=hI j hj;rw [bmb,bma hj,bn6] at this;simp [this]
section
variable {l:List Fd} {p:AS}
def aky {i:Nat} (hi:i < (aq p).length) (hI:∀ j,j < i -> pw l p ((aq p).getD j default) = false) (h:pw l p ((aq p).getD i default) = true):lr l p = aus l p ((aq p).getD i default) /\ ec l p = true:=by
 have e:adz l p = some ((aq p).getD i default):=adm hi hI h;unfold lr ec;rw [e];exact ⟨rfl,rfl⟩
def akx (hI:∀ j,j < (aq p).length -> pw l p ((aq p).getD j default) = false):lr l p = ⟨0,0⟩ /\ ec l p = false:=by
 have e:adz l p = none:=ak7 hI;unfold lr ec;rw [e];exact ⟨rfl,rfl⟩
def acn {x:AS} (h:ay .and .u32 (asI (clo l x)) (asI p) = asI x):pw l p x = false:=by
 rw [fj,c6] at h;unfold pw;simp [h]
def aci {x:AS} (h:ay .and .u32 (asI (clo l x)) (asI p) = asI p):pw l p x = false:=by
 rw [fj,c6] at h;unfold pw;simp [h]
def ac2 {x:AS} (h:¬ ay .and .u32 (asI (clo l x)) (asI p) = asI x) (k:¬ ay .and .u32 (asI (clo l x)) (asI p) = asI p):pw l p x = true:=by
 rw [fj,c6] at h k;unfold pw;simp [h,k]
def arz {i:Nat} {a b:PV} (hi:i < (aq p).length) (hI:∀ j,j < i -> pw l p ((aq p).getD j default) = false) (h:pw l p ((aq p).getD i default) = true) (ha:a = asC ((aq p).getD i default)) (hb:b = .raw (.int .u32 (ay .andNot .u32 (ay .and .u32 (asI (clo l ((aq p).getD i default))) (asI p)) (asI ((aq p).getD i default))))):CoC (.agg [a,b]) (lr l p).pc :=
 CoC.of_eq (by rw [(aky hi hI h).1,ha,hb,fj,i7];rfl)
def akt (hI:∀ j,j < (aq p).length -> pw l p ((aq p).getD j default) = false):CoC (.agg [ll (.int .u32 0),ll (.int .u32 0)]) (lr l p).pc:=CoC.of_eq (by rw [(akx hI).1];rfl)
def a7c {s:AS}:∀ (n:Nat) (x:AS),(a1p s n x).length <= x.toNat + 1
 | 0,x=>bmh _
 | n + 1,x=>by
  unfold a1p;by_cases h0:x = 0
  · rw [if_pos h0];simp
  rw [if_neg h0,bn7];have h1:=a7c (s:=s) n ((x - 1) &&& s);have h2:=qv (s:=s) h0;omega
def nu (s:AS):(aq s).length <= 4294967296:=by
 unfold aq yp;have h1:=a7c (s:=s) (s.toNat + 1) s;have h2:=jw (a1p s (s.toNat + 1) s);have h3:=s.isLt;split
 · simp
 omega
end
end
section
open Go.Proofs
def an0:goodFn br6 78:=wgx Tryz.func78
def aui (l:List Fd) (p:AS):a6 br6 78 [pP (fdl l),pA p] (a8 [(lr l p).pc,pB (ec l p)]):=by
 refine hpx (nt:=36) Tryz.func78 ?_;refine sx7 ?_;refine m9 0 ?_;refine w_6 ?_;refine qcx a9e (b3u p) ?_;refine w_4 ?_;refine ae (ι:=Nat) (ka 0 (ka 1 (ka 4 (ka 10 (ka 11 kn))))) (kb 0 km) (fun i=>⟨[(12,some (vI i))],[]⟩) (fun i=>i <= (aq p).length /\ (∀ j,j < i -> pw l p ((aq p).getD j default) = false)) (fun i=>(aq p).length - i) (0) (⟨bmh _,bq⟩) kk ?_;rintro i ⟨hi,hI⟩;have hlen:=nu p;refine w_5 ?_;refine hcd (fun h0=>?_) (fun h0=>?_)
 ·
  refine ja ?_;refine qcx uh (xl l ((aq p).getD i default)) ?_;refine c5 ?_;refine ah rfl rfl (fun r1=>?_) (fun r1=>?_)
  ·
   have h1:=tz2 (cu r1);(iterate 3 refine qy ?_ (hg:=(gtt r1)));refine w_2 ?_;refine ak _ rfl (fun r2=>?_) (fun r2=>?_)
   · have h2:=tz2 (cu (br r1 r2));refine c5 ?_;exact hx8 rfl rfl rfl (⟨arz (i:=i) bqi hI (ac2 h1 h2) rfl rfl,ccb (aky (i:=i) bqi hI (ac2 h1 h2)).2.symm,trivial⟩)
   have h2:=tz1 (ct (br r1 r2));refine w_5 ?_;refine lpz (i + 1) kk ?_;exact ⟨by show i + 1 <= _;omega,aw hI (by first | exact acn h1 | exact aci h2)⟩
  have h1:=tz1 (ct r1);(iterate 3 refine k9 (gft r1) ?_);refine rq rfl rfl rfl rfl rfl ?_ (hp:=r1);refine w_7 ?_;refine lpz (i + 1) kk ?_
  exact ⟨by show i + 1 <= _;omega,aw hI (by first | exact acn h1 | exact aci h2)⟩
 refine v_7 ?_;exact ⟨akt (fun j hj=>hI j bqi),ccb (akx (fun j hj=>hI j bqi)).2.symm,trivial⟩
def bd3 (l:List Fd) (p:AS):a6 br6 145 [pP (fdl l),pA p] (a8 [(lr l p).pc,pB (ec l p)]):=by
 refine hpx (nt:=48) Tryz.func145 ?_;refine sx7 ?_;refine m9 0 ?_;refine w_5 ?_;refine qcx afc (als p) ?_;refine w_8 ?_;refine ae (ι:=Nat) (ka 0 (ka 1 (ka 4 (ka 6 kn)))) (kb 0 km) (fun i=>⟨[(7,some (vI i))],[]⟩) (fun i=>i <= (aq p).length /\ (∀ j,j < i -> pw l p ((aq p).getD j default) = false)) (fun i=>(aq p).length - i) (0) (⟨bmh _,bq⟩) kk ?_;rintro i ⟨hi,hI⟩;have hlen:=nu p;refine w_8 ?_;refine hcd (fun h0=>?_) (fun h0=>?_)
 ·
  refine c5 ?_;refine qcx wc (wl l ((aq p).getD i default)) ?_;refine ja ?_;refine ah rfl rfl (fun r1=>?_) (fun r1=>?_)
  ·
   have h1:=tz2 (cu r1);(iterate 3 refine qy ?_ (hg:=(gtt r1)));refine w_2 ?_;refine ak _ rfl (fun r2=>?_) (fun r2=>?_)
   · have h2:=tz2 (cu (br r1 r2));refine y5 ?_;exact hx8 rfl rfl rfl (⟨arz (i:=i) bqi hI (ac2 h1 h2) rfl rfl,ccb (aky (i:=i) bqi hI (ac2 h1 h2)).2.symm,trivial⟩)
   have h2:=tz1 (ct (br r1 r2));refine w_6 ?_;refine lpz (i + 1) kk ?_;exact ⟨by show i + 1 <= _;omega,aw hI (by first | exact acn h1 | exact aci h2)⟩
  have h1:=tz1 (ct r1);(iterate 3 refine k9 (gft r1) ?_);refine rq rfl rfl rfl rfl rfl ?_ (hp:=r1);refine w_8 ?_;refine lpz (i + 1) kk ?_
  exact ⟨by show i + 1 <= _;omega,aw hI (by first | exact acn h1 | exact aci h2)⟩
 refine v_7 ?_;exact ⟨akt (fun j hj=>hI j bqi),ccb (akx (fun j hj=>hI j bqi)).2.symm,trivial⟩
def avn (l:List Fd) (p:AS):a6 br6 108 [pP (fdl l),pA p] (a8 [pB (!ec l p)]):=by
 refine hpx (nt:=15) Tryz.func108 ?_;refine w_8 ?_;refine qcx (wgx Tryz.func145) (bd3 l p) ?_;refine w_3 ?_;refine m9 0 ?_;refine v_9 ?_;exact CoL.refl _
end
section
open Go.RowKit
section
variable {w0:World} {nt:Nat} {c:Ctx} {s:S} {a:Act} {w:World}
def ai.short (h:ai w0 nt c s a w) {id id' sz n m:Nat} {el:TypeId} {f:Nat -> Nat -> PV} (ho:s.o id = some (.arr true sz el n f)) (hm:m <= n) (hnm:NM s id') (hno:s.o id' = none) {u:Value} (hu:bn c s.o (.win id n 0 m) u) :
 ∃ c',c'.old = c.old /\ ai w0 nt c' ((s.setO id none).setO id' (some (.arr true sz el m f))) a w /\ ap c' ((s.setO id none).setO id' (some (.arr true sz el m f))).o (.v (.one (.ref id' m))) u:=by
 have hne:id ≠ id':=fun e=>by rw [<- e,ho] at hno;cases hno
 obtain ⟨ad,ad',cap,q1,q2,q3,q4,q5,q6⟩:=z7 hu ho rfl;obtain ⟨h0,h1,h5⟩:=h.objs id _ ho
 have hold:∀ k ob,((s.setO id none).setO id' (some (.arr true sz el m f))).o k = some ob -> k ≠ id' -> s.o k = some ob /\ k ≠ id:=fun k ob hk hk'=>by
  simp only [S.setO,if_neg hk'] at hk;by_cases hki:k = id
  · subst hki;simp at hk
  rw [if_neg hki] at hk;exact ⟨hk,hki⟩
 obtain ⟨bk,hbk,hok⟩:∃ bk:Nat -> Prop,(∀ b,bk b -> c.blk id b) /\ ∀ c':Ctx,c'.imm = c.imm -> c'.own id' = u -> c'.blk id' = bk -> ∀ o':b7,f8 0 c' o' w id' (.arr true sz el m f):=by
  rcases h5 with ⟨h6,xs,h2,h4⟩ | ⟨h6 | h6,h7,h8⟩
  · obtain ⟨hxl,hrow⟩:=h2
    rcases hrow with ⟨hv0,hz⟩ | ⟨g,cap',cur,hown,hbase,hheap,hnc,hcm,hcs,htake⟩
    · rw [hv0] at q1
      simp only [Value.slice.injEq] at q1;obtain ⟨rfl,_,rfl⟩:=q1;obtain rfl:n = 0:=by omega
      obtain rfl:m = 0:=by omega
      refine ⟨noB,fun b hb=>hb.elim,fun c' e1 e2 e3 o'=>⟨h0,bmh _, .inr ⟨.inr rfl,e3, ?_⟩⟩⟩;rw [e2,q2];exact ⟨ad',0,rfl,bmd _,bmh _,fun _=>rfl,fun h=>absurd h (bps 0)⟩
    rw [hown] at q1;simp only [Value.slice.injEq,true_and] at q1;obtain ⟨rfl,rfl⟩:=q1;by_cases hcap:cap' = 0
    · subst hcap
      obtain rfl:m = 0:=by omega
      refine ⟨noB,fun b hb=>hb.elim,fun c' e1 e2 e3 o'=>⟨h0,bmh _, .inr ⟨.inr rfl,e3, ?_⟩⟩⟩;rw [e2,q2];exact ⟨ad',0,rfl,bmd _,bmh _,fun _=>rfl,fun h=>absurd h (bps 0)⟩
    obtain rfl:=q6 bqi;simp only [bn3,dc,Nat.zero_mul,bos,bpg] at q2;have hmul:m * sz <= n * sz:=bmt _ hm;refine ⟨j9 u,fun b hb=>by rw [h6,hown];rw [q2] at hb;exact hb,fun c' e1 e2 e3 o'=>⟨h0,bmo hm h1, .inl ⟨by rw [e2,e3],xs.take (m * sz),⟨by rw [bmk,hxl,bo5 hmul], .inr ⟨g,cap',cur,by rw [e2,q2],hbase,hheap,by omega,hcm,hcs, ?_⟩⟩,fun i j hi hj=>?_⟩⟩⟩
    · rw [<- htake,List.take_take,bo5 hmul]
    obtain ⟨x,hx,hr⟩:=h4 i j bqi hj;refine ⟨x, ?_,by rw [e1];exact hr⟩;rw [bmy,if_pos (a3e hi hj)];exact hx
  · cases h6
  subst h6;obtain rfl:m = 0:=by omega
  refine ⟨noB,fun b hb=>hb.elim,fun c' e1 e2 e3 o'=>⟨h0,bmh _, .inr ⟨.inr rfl,e3, ?_⟩⟩⟩;obtain ⟨ad2,cap2,r1,r2,r3,r4,_⟩:=h8;rw [q1] at r1;simp only [Value.slice.injEq,true_and] at r1;obtain ⟨rfl,rfl⟩:=r1;obtain rfl:cap = 0:=r4 rfl;rw [e2,q2];exact ⟨ad',0,rfl,bmd _,bmh _,fun _=>rfl,fun h=>absurd h (bps 0)⟩
 have hevo:∀ k,k ≠ id' -> Evo c s.o { c with own:=fun k=>if k = id' then u else c.own k,blk:=fun k=>if k = id' then bk else c.blk k } ((s.setO id none).setO id' (some (.arr true sz el m f))).o k:=fun k hk=>by
  by_cases hki:k = id
  · subst hki
    exact .inl (by simp [S.setO,hk])
  exact Evo.of_same (by simp [S.setO,hk,hki]) (by simp [hk])
 refine ⟨{ c with own:=fun k=>if k = id' then u else c.own k,blk:=fun k=>if k = id' then bk else c.blk k },rfl,⟨h.defers,h.size,h.below,fun d x hx=>?_,fun k ob hk=>?_,fun i i' obi obi' b hi hi' hb hb'=>?_,h.imm,fun k ob b hk hb=>?_,h.was,h.frm,fun k ob b hk hb=>?_,fun k hk=>?_⟩, ?_⟩
 · exact (h.tmps d x hx).evo (Imm.le.refl c.imm) fun k hkm=>hevo k (by rintro rfl;exact hnm.1 d x hx hkm)
 · by_cases hk':k = id'
   · subst hk'
     obtain rfl:ob = .arr true sz el m f:=by simpa [S.setO] using hk.symm
     refine hok _ ?_ ?_ ?_ _ <;> first | rfl | exact if_pos rfl
   obtain ⟨hk1,hk2⟩:=hold k ob hk hk';exact (h.objs k ob hk1).keep (Imm.le.refl c.imm) (by simp [hk']) (by simp [hk']) (fun j hj=>hevo j (by rintro rfl;exact hnm.2.1 k ob hk1 hj)) fun b _=>rfl
 · have hone:∀ k ob b,k ≠ id' -> ((s.setO id none).setO id' (some (.arr true sz el m f))).o k = some ob -> c.blk k b -> bk b -> False:=fun k ob b hk' hk hb hbb=>by
    obtain ⟨hk1,hk2⟩:=hold k ob hk hk';exact hk2 (h.inj k id ob _ b hk1 ho hb (hbk b hbb))
   by_cases e1:i = id'
   · by_cases e2:i' = id'
     · rw [e1,e2]
     exact (hone i' obi' b e2 hi' (by simpa [e2] using hb') (by simpa [e1] using hb)).elim
   by_cases e2:i' = id'
   · exact (hone i obi b e1 hi (by simpa [e1] using hb) (by simpa [e2] using hb')).elim
   exact h.inj i i' obi obi' b (hold i obi hi e1).1 (hold i' obi' hi' e2).1 (by simpa [e1] using hb) (by simpa [e2] using hb')
 · by_cases hk':k = id'
   · exact h.sep id _ b ho (hbk b (by simpa [hk'] using hb))
   exact h.sep k ob b (hold k ob hk hk').1 (by simpa [hk'] using hb)
 · by_cases hk':k = id'
   · exact h.fsep id _ b ho (hbk b (by simpa [hk'] using hb))
   exact h.fsep k ob b (hold k ob hk hk').1 (by simpa [hk'] using hb)
 · exact (h.fixed k hk).trans (hevo k (by have:=hnm.2.2;omega))
 refine ⟨hu.1,fun l=>by simp [S.setO],fun ob2 s2 e2 n2 ho2 hd2=>?_⟩;simp only [S.setO,if_true,bm9] at ho2;subst ho2;simp only [aa.dim,bm9,bmj] at hd2;obtain ⟨rfl,rfl,rfl⟩:=hd2;exact ⟨bmd _,fun _=>by simp⟩
end
section
variable {ro:Option Nat} {P:Program} {nt:Nat} {st:HSt} {Q:Exit -> HSt -> Prop}
def akf {c:Code} (d id2:Nat) {id n n' i m s:Nat} {e:TypeId} {f:Nat -> Nat -> PV} (hd:bm st.t d = some (.v (.one (.win id n i m)))) (ho:bm st.o id = some (.arr true s e n' f)) (hn:n' = n) (hi:i = 0) (hm:m <= n) (hnew:tj id2 st = true)
 (h:HW (ro:=ro) P nt c ⟨(d,some (.v (.one (.ref id2 m)))) :: st.t,(id2,some (.arr true s e m f)) :: (id,none) :: st.o⟩ Q):HW (ro:=ro) P nt c st Q:=by
 subst hn hi;obtain ⟨hnm,hno⟩:=mh hnew;refine xk ⟨st.t,(id2,some (.arr true s e m f)) :: (id,none) :: st.o⟩ d (.v (.one (.ref id2 m))) (fun w0 m0 a w hr=>?_) h;obtain ⟨cc,hold,hrr⟩:=hr;obtain ⟨c',e1,e2,e3⟩:=hrr.short ho hm hnm hno (hrr.tmps d _ hd)
 have e4:(HSt.den ⟨st.t,(id2,some (.arr true s e m f)) :: (id,none) :: st.o⟩) = (st.den.setO id none).setO id2 (some (.arr true s e m f)):=by
  unfold HSt.den S.setO;simp [bu]
 exact ⟨c',e1.trans hold,by rw [e4];exact e2,by rw [e4];exact e3⟩
def xf {c:Code} (d id2:Nat) {id n n' s:Nat} {e:TypeId} {f:Nat -> Nat -> PV} (hd:bm st.t d = some (.v (.one (.ref id n)))) (ho:bm st.o id = some (.arr true s e n' f)) (hn:n' = n) (hnew:tj id2 st = true)
 (h:HW (ro:=ro) P nt c ⟨(d,some (.v (.one (.ref id2 n)))) :: st.t,(id2,some (.arr true s e n f)) :: (id,none) :: st.o⟩ Q):HW (ro:=ro) P nt c st Q:=by
 subst hn;obtain ⟨hnm,hno⟩:=mh hnew;refine xk ⟨st.t,(id2,some (.arr true s e n' f)) :: (id,none) :: st.o⟩ d (.v (.one (.ref id2 n'))) (fun w0 m0 a w hr=>?_) h;obtain ⟨cc,hold,hrr⟩:=hr;have hu:bn cc st.den.o (.ref id n') (a.tmps.getD d undef):=hrr.tmps d _ hd
 have hw:bn cc st.den.o (.win id n' 0 n') (a.tmps.getD d undef):=by
  refine ⟨hu.1,hu.2.1,fun ob s2 e2 n2 ho2 hd2=>⟨(hu.2.2 _ _ _ _ ho2 hd2).1,fun hk=>?_⟩⟩;have he:=(hu.2.2 _ _ _ _ ho2 hd2).2 hk;obtain rfl:ob = .arr true s e n' f:=Option.some.inj (ho2.symm.trans ho);simp only [aa.dim,bm9,bmj] at hd2;obtain ⟨rfl,rfl,rfl⟩:=hd2;obtain ⟨ad,cap,hv,hc1,hc2⟩:=zf (hrr.objs _ _ ho2);exact ⟨ad,ad,cap,hv,by rw [he,hv];rfl,by omega,hc1,hc2,fun _=>by cases ad <;> simp [oc]⟩
 obtain ⟨c',e1,e2,e3⟩:=hrr.short ho (bmd _) hnm hno hw
 have e4:(HSt.den ⟨st.t,(id2,some (.arr true s e n' f)) :: (id,none) :: st.o⟩) = (st.den.setO id none).setO id2 (some (.arr true s e n' f)):=by
  unfold HSt.den S.setO;simp [bu]
 exact ⟨c',e1.trans hold,by rw [e4];exact e2,by rw [e4];exact e3⟩
end
end
section
def ako {l:List AS} {k:Nat} (hk:l.length <= k) (h:∀ j,0 < j -> j < k -> ¬ l.getD j default = l.getD (j - 1) default):jb l = l:=by
 have:=wj (bmd l.length) fun j h1 h2=>h j h1 bqi;rw [bmi] at this;exact this
def ah3 {l m:List AS} {k p q:Nat} (hC:CpI l k p q m) (hq:¬ q < l.length):(jb l).length = p /\ m.take p = jb l:=by
 have e:=hC.pre;have h1:=hC.ql;have h2:=hC.len;have h3:=hC.pq;rw [show q = l.length by omega,bmi] at e;exact ⟨by rw [<- e];simp;omega,e⟩
def b83 {l m:List AS} {k p q n a d:Nat} {z:List Value} {e:TypeId} (hC:CpI l k p q m) (hq:¬ q < l.length) (ha:p <= a) (hn:n = p):CoO (.arr true 1 e n (oz (lf sC m) a d z)) (.arr true 1 e (jb l).length (lf sC (jb l))):=by
 obtain ⟨h1,h2⟩:=ah3 hC hq;subst hn;refine ⟨fun h=>h,rfl,rfl,h1,fun i j hi hj=>CoP.of_eq ?_⟩;show oz (lf sC m) a d z i j = lf sC (jb l) i j;unfold oz;rw [if_neg bqi];simp only [lf,List.getD];have e:(jb l)[i]? = m[i]?:=by rw [<- h2,bmy,if_pos hi]
 rw [e]
def j5 {id n m:Nat} (h:n = m):CoR (.v (.one (.ref id n))) (.v (.one (.ref id m))):=by rw [h];exact CoR.refl _
end
end Go.Hx
