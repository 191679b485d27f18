/- A part of the proof: Hx19 Hx23 Cs1 Cs3 Ty1 V1 Cs4 V2 Cl1 Cl2 Cs5 V5 Cs2. -/
import Derived.Deep.AppendLies
import Derived.Laws.CopyRow
import Derived.Shelf.Spec.SlicesInsertGrow
import Derived.Test.YteklilhbjjofbaaGreatDoorLb14
set_option linter.all false
set_option maxRecDepth 100000
set_option maxHeartbeats 1000000
namespace Go.Hx
section
open Go.Proofs Go.Lib Go.RowKit
section
variable {r:Nat}
def abg (w:World) (o:Obj) (h:r < w.heap.size):(w.alloc o).heap[r]? = w.heap[r]?:=by
 show (w.heap.push o)[r]? = _;rw [Array.getElem?_push_lt h,b30 h]
variable {P:Program}
def lx (w:World) (dT sT ty elem:TypeId) (g o dLen dCap:Nat) (a:Addr) (sLen sCap size:Nat) (cur:Array Value) (t:TypeId) (cs:List Value) (hu:P.underlying dT = some (.slice elem)) (hs:(P.info? elem).map (·.size) = some size) (hg:w.heap[g]? = some (.cells cur t (0,0))) (hn:cs.length = Nat.min sLen dLen * size) (hsrc:∀ j v,cs[j]? = some v -> w.cell? (a.add j) = some v) (hfit:o + cs.length <= cur.size) (h1:∀ v ∈ cs,v.oneCell' = true):
 (Builtin.copy_ #[dT,sT] ty #[.slice (some ⟨g,o,none⟩) dLen dCap, .slice (some a) sLen sCap]).run P w =
  .ok (goInt (Nat.min sLen dLen)) (w.setRow g (cur.toList.take o ++ cs ++ cur.toList.drop (o + cs.length)).toArray):=by
 have hl:=run_loadCells_list (P:=P) w a cs hsrc;have hst:=run_storeCells_at P g o t cs 0 cur w hg (by simpa using hfit) h1
 cases hq:P.info? elem with
 | none=>simp [hq] at hs
 | some i =>
  have hi:i.size = size:=by simpa [hq] using hs
  simp [Builtin.copy_,run_underlying hu,Builtin.lenOf,Builtin.firstCells,sizeOf,typeInfo,hq,hi,<- hn,hl,hst]
def gj (k:Nat) (xs vs:List Value):List Value:=xs.take k ++ vs ++ xs.drop k
variable {vs xs:List Value}
def am6 {k:Nat} (h:k <= xs.length):(gj k xs vs).length = xs.length + vs.length:=by
 simp [gj];omega
structure aii (w w':World) (T s:Nat) (own v:Value) (n:Nat) (xs:List Value):Prop where
 row:w'.ownsRow 0 T s v (n + 1) xs
 bl:Below 0 w w'
 out:∀ g,g < w.heap.size -> b9 own ≠ some g -> w'.heap[g]? = w.heap[g]?
 at_:∀ g,b9 v = some g -> w.heap.size <= g \/ b9 own = some g
def ant {l:List Value} {p q:Nat} (h:p <= q) (hl:q + vs.length <= l.length) (hr:r = p + vs.length) {A:List Value} (hA:A = l.take r ++ (l.take q).drop p ++ l.drop (r + ((l.take q).drop p).length)):
 (A.take p ++ vs ++ A.drop (p + vs.length)).take (q + vs.length) = gj p (l.take q) vs:=by
 subst hr
 have e1:A.take p = l.take p:=by
  rw [hA,b3g,b47 (by rw [b2g];omega),List.take_take];congr 1;omega
 have e2:A.drop (p + vs.length) = (l.take q).drop p ++ l.drop (p + vs.length + ((l.take q).drop p).length):=by
  rw [hA,b3g,List.drop_append_of_le_length (by rw [b2g];omega),b4n (by rw [b2g];omega),b4r]
 rw [e1,e2,<- b3g,b47 b5l,b4o b5l,gj,List.take_take];congr 3;omega
def ani {l R:List Value} {p q:Nat} (h:p <= q) (hl:q <= l.length) (hr:r = p + vs.length) (hR:q + vs.length <= R.length) (hRl:R.take p = l.take p) {A:List Value} (hA:A = R.take p ++ vs ++ R.drop (p + vs.length)):
 (A.take r ++ (l.take q).drop p ++ A.drop (r + ((l.take q).drop p).length)).take (q + vs.length) = gj p (l.take q) vs:=by
 subst hr
 have e1:A.take (p + vs.length) = R.take p ++ vs:=by
  rw [hA,b47 b5l,b4o b5l]
 rw [e1,b47 b5l,b4o b5l,gj,hRl,List.take_take];congr 3;omega
def tj (i:Nat) (F G:Nat -> Nat -> PV):Nat -> Nat -> PV:=fun k j=>if k < i then F k j else if k = i then G 0 j else F (k - 1) j
def apu {k m:Nat} (h:k <= xs.length) (hm:m < k):(gj k xs vs)[m]? = xs[m]?:=by
 unfold gj;rw [b3g,b3l (by rw [b2g];omega),b2o,if_pos hm]
def aly {k m:Nat} (h:k <= xs.length) (hm:m < vs.length):(gj k xs vs)[k + m]? = vs[m]?:=by
 unfold gj;rw [b3l b5l,b3e b5l];congr 1;simp;omega
def aqn {k m:Nat} (h:k <= xs.length) (hm:k <= m):(gj k xs vs)[vs.length + m]? = xs[m]?:=by
 unfold gj;rw [b3e b5l,b42];congr 1;simp;omega
variable {F G:Nat -> Nat -> PV} {s:Nat}
def a2s {imm:Imm} {n i:Nat} (hx:xs.length = n * s) (hv:vs.length = 1 * s) (hi:i <= n) (h1:∀ k j,k < n -> j < s -> ∃ x,xs[k * s + j]? = some x /\ aj imm (F k j) x) (h2:∀ k j,k < 1 -> j < s -> ∃ x,vs[k * s + j]? = some x /\ aj imm (G k j) x):
 ∀ k j,k < n + 1 -> j < s -> ∃ x,(gj (i * s) xs vs)[k * s + j]? = some x /\ aj imm (tj i F G k j) x:=by
 intro k j hk hj;have hle:i * s <= xs.length:=by rw [hx];exact b2d _ hi
 rcases Nat.lt_trichotomy k i with h | h | h
 · have hm:k * s + j < i * s:=by
    have:(k + 1) * s <= i * s:=b2d _ h;rw [b2y,Nat.one_mul] at this;omega
   rw [apu hle hm,tj,if_pos h];exact h1 k j b5c hj
 · subst h
   rw [aly hle b5c,tj,if_neg b5c,if_pos rfl];simpa using h2 0 j b5c hj
 obtain ⟨q,rfl⟩:∃ q,k = q + 1:=⟨k - 1,by omega⟩;have hm:i * s <= q * s:=b2d _ b5c;rw [show (q + 1) * s + j = vs.length + (q * s + j) by rw [hv,b2y];omega,aqn hle b5c,tj,if_neg b5c,if_neg b5c,Nat.add_sub_cancel];exact h1 q j b5c hj
def ll {id q:Nat} {x ob:a6} (h:lk [(q,x)] id = some ob):id = q /\ ob = x:=by
 simp only [lk] at h;by_cases hk:q = id
 · subst hk
   simp at h;exact ⟨rfl,h.symm⟩
 have:Nat.beq q id = false:=by
  rw [b2e];exact fun hb=>hk (b2n hb)
 rw [this] at h;cases h
structure ayx (c:Ctx) (w w':World) (T s a:Nat) (v:Value) (n:Nat) (ys:List Value):Prop where
 row:w'.ownsRow 0 T s v (n + 1) ys
 bl:Below 0 w w'
 out:∀ g,g < w.heap.size -> ¬ c.blk a g -> w'.heap[g]? = w.heap[g]?
 at_:∀ g,b9 v = some g -> w.heap.size <= g \/ c.blk a g
def a7s {f:FuncId} {T n i a b:Nat} {H:Nat -> Nat -> PV} (hab:Nat.beq a b = false) (hn:n + 1 <= maxLen) (h:∀ (w:World) (c:Ctx),Mem c (lk [(a, .arr true s T n F),(b, .arr true s T 1 G)]) w ->
  Calls P f #[c.own a, .int .i64 i,c.own b] w fun e w'=>∃ v ys,e = .returned v /\ ayx c w w' T s a v n ys /\ ∀ k j,k < n + 1 -> j < s -> ∃ x,ys[k * s + j]? = some x /\ aj c.imm (H k j) x):
 c4 P f [.one (.ref a n), .one (.p (.raw (.int .i64 i))), .one (.ref b 1)] [(a, .arr true s T n F),(b, .arr true s T 1 G)] (.v (.one (.ref r (n + 1)))) [(r, .arr true s T (n + 1) H)] []:=by
 have hne:a ≠ b:=fun h=>by subst h;simp at hab
 intro w c us hM hrep
 obtain ⟨u0,u1,u2,rfl,r0,r1,r2⟩:∃ u0 u1 u2,us = [u0,u1,u2] /\ ay c (lk [(a, .arr true s T n F),(b, .arr true s T 1 G)]) (.ref a n) u0 /\ aj c.imm (.raw (.int .i64 i)) u1 /\ ay c (lk [(a, .arr true s T n F),(b, .arr true s T 1 G)]) (.ref b 1) u2:=by
  match us,hrep with
  | [u0,u1,u2],⟨h0,h1,h2,_⟩=>exact ⟨u0,u1,u2,rfl,h0,h1,h2⟩
 have la:lk [(a,a6.arr true s T n F),(b, .arr true s T 1 G)] a = some (.arr true s T n F):=by simp [lk]
 have lb:lk [(a,a6.arr true s T n F),(b, .arr true s T 1 G)] b = some (.arr true s T 1 G):=by simp [lk,hab]
 obtain rfl:u0 = c.own a:=(r0.2.2 _ _ _ _ la rfl).2 rfl;obtain rfl:u2 = c.own b:=(r2.2.2 _ _ _ _ lb rfl).2 rfl;obtain ⟨rfl,_⟩:=r1;obtain ⟨hs,_,oa⟩:=hM.objs a _ la;refine (h w c hM).mono ?_;rintro e w' ⟨v,ys,rfl,hE,hrep⟩;have hold:=hE.out;have hat:=hE.at_
 have lr:∀ id ob,lk [(r,a6.arr true s T (n + 1) H)] id = some ob -> id = r /\ ob = .arr true s T (n + 1) H:=by
  intro id ob hl;simp only [lk] at hl;by_cases hk:r = id
  · subst hk
    simp at hl;exact ⟨rfl,hl.symm⟩
  have:Nat.beq r id = false:=by
   rw [b2e];exact fun hb=>hk (b2n hb)
  rw [this] at hl;cases hl
 have lrr:lk [(r,a6.arr true s T (n + 1) H)] r = some (.arr true s T (n + 1) H):=by simp [lk]
 have him:∀ q ob,c.imm q = some ob -> q < w.heap.size:=fun q ob hq=>(b28.1 (hM.imm q ob hq)).1
 have hform:v.oneCell' = true:=by
  rcases hE.row.2 with ⟨hv,_⟩ | ⟨g,cap,cur,hv,_⟩ <;> (subst hv;rfl)
 refine ⟨v,{ c with own:=fun k=>if k = r then v else c.own k,blk:=fun k=>if k = r then eu v else c.blk k },rfl,⟨hform,fun l hl=>?_,fun ob s1 e1 n1 ho hd=>?_⟩,⟨fun id ob hl=>?_,fun id id' ob ob' q hl hl' _ _=>?_,fun q ob hq=>?_,fun id ob q hl hq=>?_⟩,hE.bl,fun q hq hno=>⟨hold q hq (hno a _ la),rfl⟩,fun id ob q hl hq=>?_,fun id hid=>absurd hid b5f⟩
 · cases (lr _ _ hl).2
 · obtain ⟨_,rfl⟩:=lr _ _ ho
   simp only [a6.dim,b24,b2a] at hd;obtain ⟨rfl,rfl,rfl⟩:=hd;exact ⟨b29 _,fun _=>by simp⟩
 · obtain ⟨rfl,rfl⟩:=lr _ _ hl
   exact ⟨hs,hn, .inl ⟨by simp,_,by simpa using hE.row,hrep⟩⟩
 · rw [(lr _ _ hl).1,(lr _ _ hl').1]
 · have hq':c.imm q = some ob:=hq
   refine (hold q (him q ob hq') fun hb=>?_).trans (hM.imm q ob hq');rw [hM.sep a _ q la hb] at hq';cases hq'
 · obtain ⟨rfl,_⟩:=lr _ _ hl
   have hq':b9 v = some q:=by simpa [eu] using hq
   show c.imm q = none
   rcases hat q hq' with h1 | h1
   · cases hc:c.imm q with
     | none=>rfl
     | some ob=>have:=him q ob hc;omega
   exact hM.sep a _ q la h1
 obtain ⟨rfl,_⟩:=lr _ _ hl;have hq':b9 v = some q:=by simpa [eu] using hq
 rcases hat q hq' with h1 | h1
 · exact .inl h1
 exact .inr ⟨a,_,la,h1⟩
def a65 {imm:Imm} {m:Nat} {ys:List Value} {H:Nat -> Nat -> PV} (hs:0 < s) (hl:ys.length = m * s) (hr:∀ k j,k < m -> j < s -> ∃ x,ys[k * s + j]? = some x /\ aj imm (H k j) x):∀ x ∈ ys,x.oneCell' = true:=by
 intro x hx;obtain ⟨q,hq,rfl⟩:=b34 hx;have hd:q / s < m:=by rw [b57 hs];omega
 obtain ⟨x,hx,hr⟩:=hr (q / s) (q % s) hd (b4u _ hs);rw [show q / s * s + q % s = q by rw [Nat.mul_comm];exact Nat.div_add_mod q s,b25 hq] at hx;cases hx;exact hr.oneCell
def ai9 {a b:Nat} {x y:a6} (hab:Nat.beq a b = false):lk [(a,x),(b,y)] a = some x /\ lk [(a,x),(b,y)] b = some y:=by simp [lk,hab]
def amc {f:FuncId} {T n i a b:Nat} (hab:Nat.beq a b = false) (hi:i < n) (hn:n + 1 <= maxLen) (h:∀ (w:World) (own vb:Value) (xs vs:List Value),w.ownsRow 0 T s own n xs -> w.ownsRow 0 T s vb 1 vs -> b9 own ≠ b9 vb -> (∀ x ∈ xs,x.oneCell' = true) -> (∀ x ∈ vs,x.oneCell' = true) ->
  Calls P f #[own, .int .i64 i,vb] w fun e w'=>∃ v,e = .returned v /\ aii w w' T s own v n (gj (i * s) xs vs)):
 c4 P f [.one (.ref a n), .one (.p (.raw (.int .i64 i))), .one (.ref b 1)] [(a, .arr true s T n F),(b, .arr true s T 1 G)] (.v (.one (.ref r (n + 1)))) [(r, .arr true s T (n + 1) (tj i F G))] []:=by
 have hne:a ≠ b:=fun h=>by subst h;simp at hab
 refine a7s hab hn fun w c hM=>?_;obtain ⟨la,lb⟩:=ai9 (x:=a6.arr true s T n F) (y:=.arr true s T 1 G) hab;obtain ⟨hs,_,oa⟩:=hM.objs a _ la;obtain ⟨_,_,ob⟩:=hM.objs b _ lb
 rcases oa with ⟨ba,xs,oxs,rxs⟩ | ⟨h1,_⟩
 case inr=>rcases h1 with h1 | h1 <;> first | (exfalso;omega) | cases h1
 rcases ob with ⟨bb,vs,ovs,rvs⟩ | ⟨h1,_⟩
 case inr=>rcases h1 with h1 | h1 <;> first | (exfalso;omega) | cases h1
 have blka:∃ g,c.blk a g:=by
  rw [ba]
  rcases oxs.2 with ⟨_,h0⟩ | ⟨g,cap,cur,hv,_⟩
  · omega
  exact ⟨g,by rw [hv];rfl⟩
 obtain ⟨g,hg⟩:=blka
 have hnb:b9 (c.own a) ≠ b9 (c.own b):=by
  intro he;have h1:b9 (c.own a) = some g:=by have:=hg;rw [ba] at this;exact this
  have h2:c.blk b g:=by rw [bb];exact he.symm.trans h1
  exact hne (hM.inj a b _ _ g la lb hg h2)
 refine (h w (c.own a) (c.own b) xs vs oxs ovs hnb (a65 hs oxs.1 rxs) (a65 hs ovs.1 rvs)).mono ?_;rintro e w' ⟨v,rfl,hE⟩;exact ⟨v,_,rfl,⟨hE.row,hE.bl,fun q hq hb=>hE.out q hq (fun he=>hb (by rw [ba];exact he)),fun q hq=>by rw [ba];exact hE.at_ q hq⟩,a2s oxs.1 ovs.1 b5c rxs rvs⟩
def ajj {f:FuncId} {S T bytes n a b:Nat} {i0:TypeInfo} {z:Value} (ht:P.underlying S = some (.slice T)) (hi:P.info? T = some i0) (hz:i0.zero = some z) (hsz:i0.size = s) (hby:i0.bytes = bytes) (hzs:z.cells.size = s) (hab:Nat.beq a b = false) (hbig:(n + 1) * bytes <= 140737488355328) (hn:n + 1 <= maxLen) (h:∀ (w w1:World) (base:Option Addr) (c:Nat) (vb vc:Nat) (v':Value),n <= c -> c <= maxLen -> (base = none -> n = 0 /\ c = 0) -> ((Builtin.append_ #[S,S] S #[.slice base n c, .slice (some ⟨vb,0,none⟩) 1 vc]).run P w = .ok v' w1) ->
  Calls P f #[.slice base n c, .int .i64 n, .slice (some ⟨vb,0,none⟩) 1 vc] w fun e w'=>e = .returned v' /\ w' = w1):
 c4 P f [.one (.ref a n), .one (.p (.raw (.int .i64 n))), .one (.ref b 1)] [(a, .arr true s T n F),(b, .arr true s T 1 G)] (.v (.one (.ref r (n + 1)))) [(r, .arr true s T (n + 1) (tj n F G))] []:=by
 refine a7s hab hn fun w c hM=>?_;obtain ⟨la,lb⟩:=ai9 (x:=a6.arr true s T n F) (y:=.arr true s T 1 G) hab;obtain ⟨hs,_,oa⟩:=hM.objs a _ la;obtain ⟨_,_,ob⟩:=hM.objs b _ lb
 rcases ob with ⟨bb,vs,ovs,rvs⟩ | ⟨h1,_⟩
 case inr=>rcases h1 with h1 | h1 <;> first | (exfalso;omega) | cases h1
 have h1v:=a65 hs ovs.1 rvs;obtain ⟨hvl,⟨_,h0⟩ | ⟨g2,c2,cur2,e2,_,hg2,hnc2,hcm2,hcs2,hvs⟩⟩:=ovs
 · omega
 have hnews:∀ j u,vs[j]? = some u -> w.cell? ((⟨g2,0,none⟩:Addr).add j) = some u:=fun j u hj=>by
  rw [Addr.add_lit];rw [<- hvs,b2o] at hj;split at hj
  · rw [World.cell?,hg2]
    simpa using hj
  cases hj
 rcases oa with ⟨ba,xs,oxs,rxs⟩ | ⟨h1,bn,hsl⟩
 · obtain ⟨v',w1,hrun,hown',hgrow,_,hat⟩:=run_append_own_at (P:=P) w 0 S S T i0 z s bytes ht hi hz hsz hby hzs hs (c.own a) n xs oxs ⟨g2,0,none⟩ 1 c2 vs hvl hnews h1v hn hbig (b2b _)
   have hob:∀ v:Value,(∃ ad k cap,v = .slice ad k cap) -> v.ownBlock = b9 v:=by
    rintro v ⟨ad,k,cap,rfl⟩;cases ad <;> rfl
   have hform:∃ base cap,c.own a = .slice base n cap /\ n <= cap /\ cap <= maxLen /\ (base = none -> n = 0 /\ cap = 0):=by
    rcases oxs.2 with ⟨hv,h0⟩ | ⟨g,cap,cur,hv,_,_,h1,h2,_⟩
    · subst h0;exact ⟨none,0,hv,b29 _,b2b _,fun _=>⟨rfl,rfl⟩⟩
    exact ⟨_,cap,hv,h1,h2,fun h=>by cases h⟩
   obtain ⟨base,cap,hv,h1,h2,h3⟩:=hform;have e0:(c.own a).ownBlock = b9 (c.own a):=hob _ ⟨_,_,_,hv⟩
   have e1:v'.ownBlock = b9 v':=hob _ (by
    rcases hown'.2 with ⟨hv,_⟩ | ⟨g,cap,cur,hv,_⟩
    · exact ⟨_,_,_,hv⟩
    exact ⟨_,_,_,hv⟩)
   rw [e0] at hgrow;rw [e1,e0] at hat;have hins:gj (n * s) xs vs = xs ++ vs:=by simp [gj,<- oxs.1]
   have hrep:=a2s (imm:=c.imm) oxs.1 hvl (b29 n) rxs rvs;rw [hins] at hrep;rw [e2] at *;rw [hv] at hrun ⊢;refine (h w w1 base cap g2 c2 v' h1 h2 h3 hrun).mono ?_;rintro e w' ⟨rfl,rfl⟩;refine ⟨_,_,rfl,⟨hown',⟨hgrow.os,hgrow.tape,hgrow.output,hgrow.size,fun k hk=>absurd hk (b2c k),mq _ hrun⟩,fun q hq hb=>hgrow.block q hq (fun h=>hb (by rw [ba];exact h.symm)),fun q hq=>?_⟩,hrep⟩
   rcases hat with h4 | h4
   · exact .inr (by rw [ba];exact h4.symm.trans hq)
   rw [hq] at h4;simp only [b24] at h4;exact .inl b5c
 obtain rfl:n = 0:=by rcases h1 with h1 | h1 <;> first | exact h1 | cases h1
 obtain ⟨ad,cap,hv,_,_,hcl,_⟩:=hsl;obtain rfl:cap = 0:=hcl rfl;have hrep:=a2s (imm:=c.imm) (xs:=[]) (F:=F) (n:=0) (s:=s) b5f hvl (b29 0) (fun k j hk=>by omega) rvs;have hins:gj (0 * s) [] vs = vs:=by simp [gj]
 rw [hins] at hrep;rw [e2,hv]
 cases ad with
 | none =>
  obtain ⟨v',w1,hrun,hown',hgrow,_,hat⟩:=run_append_own_at (P:=P) w 0 S S T i0 z s bytes ht hi hz hsz hby hzs hs (.slice none 0 0) 0 [] (b55 w _ _ _) ⟨g2,0,none⟩ 1 c2 vs hvl hnews h1v hn hbig (b2b _)
  have e1:v'.ownBlock = b9 v':=by
   rcases hown'.2 with ⟨hv,_⟩ | ⟨g,cap,cur,hv,_⟩ <;> (subst hv;rfl)
  refine (h w w1 none 0 g2 c2 v' (b29 _) (b2b _) (fun _=>⟨rfl,rfl⟩) hrun).mono ?_;rintro e w' ⟨rfl,rfl⟩;refine ⟨_,_,rfl,⟨hown',⟨hgrow.os,hgrow.tape,hgrow.output,hgrow.size,fun k hk=>absurd hk (b2c k),mq _ hrun⟩,fun q hq hb=>hgrow.block q hq (fun h=>by cases h),fun q hq=>?_⟩,hrep⟩;rw [e1,hq] at hat
  rcases hat with h4 | h4
  · cases h4
  simp only [b24] at h4;exact .inl b5c
 | some ba =>
  have hr:=run_append_grow (P:=P) w S S T i0 z ht hi hz ba 0 0 [] b5f (fun k u hk=>by simp at hk) ⟨g2,0,none⟩ 1 c2 vs (by rw [hsz];exact hvl) hnews b5c (by unfold maxLen at hn;omega) (growslice_fits b5c (by rw [hby];exact hbig));have hge:=grownCap_ge w (0 + 1) 0 T;have hcm:grownCap w (0 + 1) 0 T <= maxLen:=grownCap_le_maxLen w (0 + 1) 0 T hn;refine (h w _ (some ba) 0 g2 c2 _ (b29 _) (b2b _) (fun h=>by cases h) hr).mono ?_;rintro e w' ⟨rfl,rfl⟩;refine ⟨_,vs,rfl,⟨⟨by rw [hvl,b2r], .inr ⟨w.heap.size,_,_,rfl,b2b _,heap_alloc_new w.drew _,hge,hcm, ?_, ?_⟩⟩,⟨rfl,rfl,rfl, ?_,fun k hk=>absurd hk (b2c k),b49 _⟩,fun q hq hb=>heap_alloc_old w.drew _ hq,fun q hq=>?_⟩,hrep⟩
  · simp only [b4j,b2z,size_zeroCells,hzs,hvl,List.length_nil]
    rw [b2r,<- b2y];congr 1;omega
  · simp only [b4z,b4r,b2r]
    rw [<- hvl];exact List.take_left
  · show _ <= (w.heap.push _).size
    rw [Array.size_push];omega
  have:w.heap.size = q:=by simpa [b9] using hq
  exact .inl b5c
def HE (nt:Nat) (st:HSt) (Q:HSt -> Prop):Prop:=∀ w0 m0 a w,Rel w0 m0 nt st.den a w -> ∃ st':HSt,Q st' /\ Rel w0 m0 nt st'.den a w
def n4 {nt:Nat} {st:HSt} {Q:HSt -> Prop} (h:Q st):HE nt st Q:=fun _ _ _ _ hr=>⟨st,h,hr⟩
def atu {ro:Option Nat} {nt:Nat} {c:Code} {st:HSt} {Q:Exit -> HSt -> Prop} (h:HW (ro:=ro) P nt c st fun e s1=>HE nt s1 (Q e)):HW (ro:=ro) P nt c st Q:=fun w0 m0 a w hr=>by
 refine wpIn_mono (h w0 m0 a w hr) ?_;rintro e a' w' ⟨s1,h1,h2⟩;exact h1 w0 m0 a' w' h2
end
end
section
open Go.RowKit
abbrev AS:=BitVec 32
abbrev asI (s:AS):Int:=(s.toNat:Int)
def asC (s:AS):PV:=.raw (.int .u32 (asI s))
def an1 {n:Int} (h0:0 <= n) (h1:n < 4294967296):IntKind.wrap .u32 n = n:=y6 (by simp only [inR,ss,xh];omega)
def abe (s:AS):asI s < 4294967296:=by
 have:=s.isLt;unfold asI;omega
def aci (s:AS):0 <= asI s:=Int.natCast_nonneg _
def mz (s:AS):BitVec.ofInt 32 (asI s) = s:=by
 unfold asI;rw [BitVec.ofInt_natCast,BitVec.ofNat_toNat,BitVec.setWidth_eq]
def oi {a b:AS}:asI a = asI b <-> a = b:=by
 unfold asI;rw [Int.ofNat_inj];exact BitVec.toNat_inj
def a2v (s:AS):IntKind.wrap .u32 (s.toNat:Int) = asI s:=an1 (aci s) (abe s)
def agc (a b:AS):j0 .and .u32 (asI a) (asI b) = asI (a &&& b):=by
 show IntKind.wrap .u32 ((BitVec.ofInt 32 (asI a) &&& BitVec.ofInt 32 (asI b)).toNat:Int) = _;rw [mz,mz,a2v]
def bOr (a b:AS):j0 .or .u32 (asI a) (asI b) = asI (a ||| b):=by
 show IntKind.wrap .u32 ((BitVec.ofInt 32 (asI a) ||| BitVec.ofInt 32 (asI b)).toNat:Int) = _;rw [mz,mz,a2v]
def ay3 (a b:AS):j0 .andNot .u32 (asI a) (asI b) = asI (a &&& ~~~b):=by
 show IntKind.wrap .u32 ((BitVec.ofInt 32 (asI a) &&& ~~~BitVec.ofInt 32 (asI b)).toNat:Int) = _;rw [mz,mz,a2v]
def amn (a:AS) (n:Nat):(asI a).fdiv (2 ^ (min n 32)) = asI (a >>> n):=by
 have e:(2:Int) ^ (min n 32) = ((2 ^ (min n 32):Nat):Int):=by rw [Int.natCast_pow];rfl
 rw [e];unfold asI;rw [Int.fdiv_eq_ediv_of_nonneg _ (Int.natCast_nonneg _),<- Int.natCast_ediv,BitVec.toNat_ushiftRight,Nat.shiftRight_eq_div_pow];by_cases h:n <= 32
 · rw [b3o h]
 rw [Nat.min_eq_right b5c];have h1:=a.isLt;have h2:2 ^ 32 <= 2 ^ n:=Nat.pow_le_pow_right b5c b5c;rw [Nat.div_eq_of_lt b5c,Nat.div_eq_of_lt (b41 b5c h2)]
def atd (a:AS) (n:Nat):IntKind.wrap .u32 (asI a * 2 ^ (min n 32)) = asI (a <<< n):=by
 have e:asI a * (2:Int) ^ (min n 32) = ((a.toNat * 2 ^ (min n 32):Nat):Int):=by rw [Int.natCast_mul,Int.natCast_pow];rfl
 rw [e]
 have hw:∀ m:Nat,IntKind.wrap .u32 (m:Int) = ((m % 4294967296:Nat):Int):=by
  intro m;simp [IntKind.wrap,IntKind.signed,IntKind.bits]
 rw [hw];unfold asI;rw [BitVec.toNat_shiftLeft,Nat.shiftLeft_eq];by_cases h:n <= 32
 · rw [b3o h]
 rw [Nat.min_eq_right b5c];have h1:a.toNat * 2 ^ 32 % 2 ^ 32 = 0:=Nat.mul_mod_left _ _
 have h2:a.toNat * 2 ^ n % 2 ^ 32 = 0:=by
  obtain ⟨k,rfl⟩:∃ k,n = k + 32:=⟨n - 32,by omega⟩;rw [Nat.pow_add,<- Nat.mul_assoc];exact Nat.mul_mod_left _ _
 have h1:a.toNat * 2 ^ 32 % 4294967296 = 0:=h1;rw [h1,h2]
end
section
structure Fd where
 lhs:AS
 rhs:AS
instance:Inhabited Fd:=⟨⟨0,0⟩⟩
theorem Fd.eq_iff {a b:Fd}:a = b <-> a.lhs = b.lhs /\ a.rhs = b.rhs:=by cases a;cases b;simp
instance:DecidableEq Fd:=fun a b=>decidable_of_iff _ (Fd.eq_iff (a:=a) (b:=b)).symm
def Fd.c (x:Fd):Nat -> PV
 | 0=>asC x.lhs
 | 1=>asC x.rhs
 | _=>.any
def sub (a b:AS):Prop:=a &&& ~~~b = 0
instance:DecidablePred fun p:AS × AS=>sub p.1 p.2:=fun p=>inferInstanceAs (Decidable (_ = _))
instance {a b:AS}:Decidable (sub a b):=inferInstanceAs (Decidable (_ = _))
section
variable {a b:AS}
def du:sub a b <-> ∀ i,i < 32 -> a.getLsbD i = true -> b.getLsbD i = true:=by
 unfold sub;constructor
 · intro h i hi ha
   have:=congrArg (fun x:AS=>x.getLsbD i) h;simp only [b3j,BitVec.getLsbD_not,hi,ha,decide_true,b4c] at this;simpa using this
 intro h;apply b3r;intro i hi;have:=h i hi;simp only [b3j,BitVec.getLsbD_not,hi,decide_true,b4c];cases ha:a.getLsbD i <;> cases hb:b.getLsbD i <;> simp_all
def ou (a:AS):sub a a:=du.2 fun _ _ h=>h
def qi {c:AS} (h:sub a b) (k:sub b c):sub a c:=du.2 fun i hi ha=>du.1 k i hi (du.1 h i hi ha)
def a3c:sub a (a ||| b):=du.2 fun i hi ha=>by simp [ha]
def a35:sub b (a ||| b):=du.2 fun i hi ha=>by simp [ha]
def a4r {c:AS} (h:sub a c) (k:sub b c):sub (a ||| b) c:=du.2 fun i hi ha=>by
 rw [b4k,b3p] at ha
 rcases ha with ha | ha
 · exact du.1 h i hi ha
 exact du.1 k i hi ha
def nx (h:sub a b) (k:sub b a):a = b:=by
 apply b3r;intro i hi;have h1:=du.1 h i hi;have h2:=du.1 k i hi;cases ha:a.getLsbD i <;> cases hb:b.getLsbD i <;> simp_all
def ave (h:sub a b):a.toNat <= b.toNat:=by
 have e:a ||| b = b:=nx (a4r h (ou b)) a35
 have:a.toNat <= (a ||| b).toNat:=by rw [BitVec.toNat_or];exact Nat.left_le_or
 rwa [e] at this
def ach (h:sub a b) (hne:a ≠ b):a.toNat < b.toNat:=by
 rcases b4h (ave h) with h | h
 · exact h
 exact absurd (b59 h) hne
def aqo:sub a b <-> a &&& b = a:=by
 rw [du];constructor
 · intro h
   apply b3r;intro i hi;have:=h i hi;rw [b3j];cases ha:a.getLsbD i <;> simp_all
 intro h i hi ha;have:=congrArg (fun x:AS=>x.getLsbD i) h;simp only [b3j,ha,b4c] at this;exact this
def go (s:AS) (f:Fd):AS:=if sub f.lhs s then s ||| f.rhs else s
def kj (l:List Fd) (s:AS):AS:=l.foldl go s
variable {s:AS}
def a5m {f:Fd}:sub s (go s f):=by
 unfold go;split
 · exact a3c
 exact ou s
def un:∀ {l:List Fd} {s:AS},sub s (kj l s)
 | [],s=>ou s
 | f :: l,s=>qi a5m (un (l:=l) (s:=go s f))
def clF (l:List Fd):Nat -> AS -> AS
 | 0,s=>s
 | n + 1,s=>if kj l s = s then s else clF l n (kj l s)
def clo (l:List Fd) (s:AS):AS:=clF l 4294967296 s
variable {l:List Fd}
def a4u:∀ {n:Nat} {s:AS},4294967296 - s.toNat <= n -> kj l (clF l n s) = clF l n s
 | 0,s,hn=>by have:=s.isLt;omega
 | n + 1,s,hn=>by
  unfold clF;split
  · assumption
  rename_i hne;have:=ach (un (l:=l) (s:=s)) (fun e=>hne e.symm);exact a4u b5c
def aht:kj l (clo l s) = clo l s:=a4u b5c
def akt:∀ {n:Nat} {s:AS},sub s (clF l n s)
 | 0,s=>ou s
 | n + 1,s=>by
  unfold clF;split
  · exact ou s
  exact qi un akt
def akj:sub s (clo l s):=akt
def ow (l:List Fd) (s:AS):Prop:=∀ f ∈ l,sub f.lhs s -> sub f.rhs s
def qp:∀ {l:List Fd} {s:AS},kj l s = s <-> ow l s
 | [],s=>⟨fun _ f hf=>(by cases hf),fun _=>rfl⟩
 | f :: l,s=>by
  constructor
  · intro h
    have h1:go s f = s:=nx (by have:=un (l:=l) (s:=go s f);rw [show kj l (go s f) = s from h] at this;exact this) a5m
    have h2:kj l s = s:=by
     have:kj l (go s f) = s:=h;rwa [h1] at this
    intro g hg
    rcases b2f.1 hg with rfl | hg
    · intro hl
      rw [go,if_pos hl] at h1;rw [<- h1];exact a35
    exact qp.1 h2 g hg
  intro h
  have h1:go s f = s:=by
   unfold go;split
   · rename_i hl
     exact nx (a4r (ou s) (h f (b3i ..) hl)) a3c
   rfl
  show kj l (go s f) = s;rw [h1];exact qp.2 fun g hg=>h g (b3f _ hg)
def a51:∀ {l:List Fd} {s t:AS},ow l t -> sub s t -> sub (kj l s) t
 | [],s,t,_,h=>h
 | f :: l,s,t,ht,h=>a51 (l:=l) (fun g hg=>ht g (b3f _ hg)) (by
  unfold go;split
  · rename_i hl
    exact a4r h (ht f (b3i ..) (qi hl h))
  exact h)
def aef {t:AS} (ht:ow l t):∀ {n:Nat} {s:AS},sub s t -> sub (clF l n s) t
 | 0,s,h=>h
 | n + 1,s,h=>by
  unfold clF;split
  · exact h
  exact aef ht (a51 ht h)
def a7o {t:AS} (ht:ow l t) (h:sub s t):sub (clo l s) t:=aef ht h
def zd:ow l (clo l s):=qp.1 aht
end
end
section
abbrev pI (a:Int):PC:=.one (.raw (.int .i64 a))
abbrev pB (b:Bool):PC:=.one (.raw (.bool b))
abbrev pP (x:PV):PC:=.one x
abbrev pA (s:AS):PC:=.one (.raw (.int .u32 (asI s)))
abbrev fdl (l:List Fd):PV:=psl 2 Fd.c l
abbrev asl (l:List AS):PV:=psl 1 (fun s _=>asC s) l
abbrev vI (a:Int):HR:=b5 (.raw (.int .i64 a))
abbrev vA (s:AS):HR:=b5 (.raw (.int .u32 (asI s)))
def inU (n:Int) (f:Fd):Bool:=decide ((f.lhs ||| f.rhs) >>> n.toNat = 0)
def ct (n:Int) (l:List Fd):Int:=if n < 0 \/ 16 < n then 7 else if 64 < l.length then 3 else if l.all (inU n) = true then 0 else 1
def a1g {n:Int} {f:Fd}:(j0 .or .u32 (asI f.lhs) (asI f.rhs)).fdiv (2 ^ (min n.toNat 32)) = 0 <-> inU n f = true:=by
 rw [bOr,amn,show (0:Int) = asI 0 from rfl,oi];unfold inU;rw [decide_eq_true_iff]
def qz {k:IntKind} {a b:Int} (h:a = b):CoR (b5 (.raw (.int k a))) (b5 (.raw (.int k b))):=by
 rw [h];exact CoR.refl _
def j3 (n:Nat):AS:=(List.range n).foldl (fun s i=>s ||| ((1:AS) <<< i)) 0
def bi (n:Int):AS:=j3 (min n.toNat 32)
def a5d (i:Nat):j3 (i + 1) = j3 i ||| ((1:AS) <<< i):=by
 unfold j3;rw [b53,b4l];rfl
def aiw (i:Nat):j0 .or .u32 (asI (j3 i)) (IntKind.wrap .u32 (1 * 2 ^ (min i 32))) = asI (j3 (i + 1)):=by
 have e:IntKind.wrap .u32 (1 * 2 ^ (min i 32)) = asI ((1:AS) <<< i):=atd 1 i;rw [e,bOr,a5d]
end
section
abbrev pU8 (a:Int):PC:=.one (.raw (.int .u8 a))
abbrev pS (s:ByteArray):PC:=.one (.raw (.string s))
abbrev vU8 (a:Int):HR:=b5 (.raw (.int .u8 a))
abbrev vB (b:Bool):HR:=b5 (.raw (.bool b))
abbrev vS (s:ByteArray):HR:=b5 (.raw (.string s))
abbrev vP (x:PV):HR:=b5 x
abbrev Lim:Nat:=68719476736
structure Val where
 kind:Int
 num:Int
 str:ByteArray
instance:Inhabited Val:=⟨⟨0,0,⟨#[]⟩⟩⟩
theorem Val.eq_iff {a b:Val}:a = b <-> a.kind = b.kind /\ a.num = b.num /\ a.str = b.str:=by cases a;cases b;simp
instance:DecidableEq Val:=fun a b=>decidable_of_iff _ (Val.eq_iff (a:=a) (b:=b)).symm
def Val.c (v:Val):Nat -> PV
 | 0=>.raw (.int .i64 v.kind)
 | 1=>.raw (.int .i64 v.num)
 | 2=>.raw (.string v.str)
 | _=>.any
abbrev vals (l:List Val):PV:=psl 3 Val.c l
abbrev Val.pc (v:Val):PC:=.agg [v.c 0,v.c 1,v.c 2]
structure Row where
 id:Int
 vals:List Val
instance:Inhabited Row:=⟨⟨0,[]⟩⟩
theorem Row.eq_iff {a b:Row}:a = b <-> a.id = b.id /\ a.vals = b.vals:=by cases a;cases b;simp
instance:DecidableEq Row:=fun a b=>decidable_of_iff _ (Row.eq_iff (a:=a) (b:=b)).symm
def Row.c (r:Row):Nat -> PV
 | 0=>.raw (.int .i64 r.id)
 | 1=>Hx.vals r.vals
 | _=>.any
abbrev rows (l:List Row):PV:=psl 2 Row.c l
abbrev Row.pc (r:Row):PC:=.agg [r.c 0,r.c 1]
def a3b (s:ByteArray):Nat -> PV
 | 0=>.raw (.string s)
 | _=>.any
instance:Inhabited ByteArray:=⟨⟨#[]⟩⟩
abbrev ahd (l:List ByteArray):PV:=psl 1 a3b l
def ayo (s:UInt8):Nat -> PV
 | 0=>.raw (.int .u8 (s.toNat:Int))
 | _=>.any
abbrev u8s (l:List UInt8):PV:=psl 1 ayo l
def ay5 (l:List UInt8):Nat -> PV
 | 0=>u8s l
 | _=>.any
abbrev azq (l:List (List UInt8)):PV:=psl 1 ay5 l
structure Tbl where
 name:ByteArray
 attrs:List ByteArray
 rows:List Row
instance:Inhabited Tbl:=⟨⟨⟨#[]⟩,[],[]⟩⟩
theorem Tbl.eq_iff {a b:Tbl}:a = b <-> a.name = b.name /\ a.attrs = b.attrs /\ a.rows = b.rows:=by cases a;cases b;simp
instance:DecidableEq Tbl:=fun a b=>decidable_of_iff _ (Tbl.eq_iff (a:=a) (b:=b)).symm
def Tbl.c (t:Tbl):Nat -> PV
 | 0=>.raw (.string t.name)
 | 1=>ahd t.attrs
 | 2=>Hx.rows t.rows
 | _=>.any
abbrev az1 (l:List Tbl):PV:=psl 3 Tbl.c l
abbrev Tbl.pc (t:Tbl):PC:=.agg [t.c 0,t.c 1,t.c 2]
abbrev DB:=List Tbl
abbrev b1q (d:DB):PC:=.agg [az1 d]
structure Chg where
 kind:Int
 name:ByteArray
 table:Tbl
 row:Row
 attr:Int
 value:Val
instance:Inhabited Chg:=⟨⟨0,⟨#[]⟩,default,default,0,default⟩⟩
theorem Chg.eq_iff {a b:Chg}:a = b <-> a.kind = b.kind /\ a.name = b.name /\ a.table = b.table /\ a.row = b.row /\ a.attr = b.attr /\ a.value = b.value:=by cases a;cases b;simp
instance:DecidableEq Chg:=fun a b=>decidable_of_iff _ (Chg.eq_iff (a:=a) (b:=b)).symm
def Chg.c (x:Chg):Nat -> PV
 | 0=>.raw (.int .i64 x.kind)
 | 1=>.raw (.string x.name)
 | 2=>x.table.c 0
 | 3=>x.table.c 1
 | 4=>x.table.c 2
 | 5=>x.row.c 0
 | 6=>x.row.c 1
 | 7=>.raw (.int .i64 x.attr)
 | 8=>x.value.c 0
 | 9=>x.value.c 1
 | 10=>x.value.c 2
 | _=>.any
abbrev atr (l:List Chg):PV:=psl 11 Chg.c l
abbrev Chg.pc (x:Chg):PC:=.agg [x.c 0,x.c 1,x.c 2,x.c 3,x.c 4,x.c 5,x.c 6,x.c 7,x.c 8,x.c 9,x.c 10]
def txC (l:List Chg):Nat -> PV
 | 0=>atr l
 | _=>.any
abbrev txs (l:List (List Chg)):PV:=psl 1 txC l
structure yz where
 attrs:UInt8
 gap:UInt8
 rows:List (List UInt8)
instance:Inhabited yz:=⟨⟨0,0,[]⟩⟩
def yz.c (x:yz):Nat -> PV
 | 0=>.raw (.int .u8 (x.attrs.toNat:Int))
 | 1=>.raw (.int .u8 (x.gap.toNat:Int))
 | 2=>azq x.rows
 | _=>.any
abbrev yz.pc (x:yz):PC:=.agg [x.c 0,x.c 1,x.c 2]
structure Opn where
 kind:UInt8
 name:UInt8
 t:yz
 id:Int
 vals:List UInt8
 attr:Int
 value:UInt8
instance:Inhabited Opn:=⟨⟨0,0,default,0,[],0,0⟩⟩
def Opn.c (x:Opn):Nat -> PV
 | 0=>.raw (.int .u8 (x.kind.toNat:Int))
 | 1=>.raw (.int .u8 (x.name.toNat:Int))
 | 2=>x.t.c 0
 | 3=>x.t.c 1
 | 4=>x.t.c 2
 | 5=>.raw (.int .i64 x.id)
 | 6=>u8s x.vals
 | 7=>.raw (.int .i64 x.attr)
 | 8=>.raw (.int .u8 (x.value.toNat:Int))
 | _=>.any
abbrev Opn.pc (x:Opn):PC:=.agg [x.c 0,x.c 1,x.c 2,x.c 3,x.c 4,x.c 5,x.c 6,x.c 7,x.c 8]
abbrev b1r (l:List Opn):PV:=psl 9 Opn.c l
structure Stt where
 done:List (List Chg)
 undone:List (List Chg)
 opn:Bool
 now:List Chg
instance:Inhabited Stt:=⟨⟨[],[],false,[]⟩⟩
def Stt.c (x:Stt):Nat -> PV
 | 0=>txs x.done
 | 1=>txs x.undone
 | 2=>.raw (.bool x.opn)
 | 3=>atr x.now
 | _=>.any
abbrev Stt.pc (x:Stt):PC:=.agg [x.c 0,x.c 1,x.c 2,x.c 3]
def kp {α:Type} [Inhabited α] (l:List α) (i:Nat) (h:i < l.length):l.getD i default = l[i]:=by simp [List.getD,b25 h]
end
section
open Go.Proofs
def a3z:goodFn b62 81:=wgx Tryz.func81
def a8y (a b:AS):a8 b62 81 [pA a,pA b] (ah [pB (decide (sub a b))]):=by
 refine hpx (nt:=10) Tryz.func81 ?_;refine mj ?_;exact hx8 rfl rfl rfl (⟨ccb (decide_eq_decide.2 (by rw [agc,oi];exact aqo.symm)),trivial⟩)
def b5d {p:Prop} (h:p:=by assumption):p:=h
def avu (n:Int) (l:List Fd):a8 b62 78 [pI n,pP (fdl l)] (ah [pI (ct n l)]):=by
 refine hpx (nt:=31) Tryz.func78 ?_;refine c7 ?_;refine ca 1 rfl fun hlen=>?_;refine w_9 ?_;refine ag rfl rfl (fun r0=>?_) (fun r0=>?_)
 ·
  have h0:=tz1 r0;(iterate 2 refine k9 (gtf r0) ?_);refine w_7 ?_
  exact hx8 rfl rfl rfl (⟨cci (by rw [ct,if_pos b5c]),trivial⟩)
 have h0:=tz2 r0;(iterate 2 refine qy ?_ (hg:=(gff r0)));refine w_2 ?_;refine al _ rfl (fun r1=>?_) (fun r1=>?_)
 · have h1:=tz1 (af r0 r1);refine v_4 ?_;exact ⟨cci (by rw [ct,if_pos b5c]),trivial⟩
 have h1:=tz2 (af r0 r1);refine w_8 ?_;refine hcd (fun h2=>?_) (fun h2=>?_)
 · refine v_4 ?_;exact ⟨cci (by rw [ct,if_neg b5c,if_pos b5c]),trivial⟩
 refine w_9 ?_;refine am (ι:=Nat) (ka 0 (ka 16 (ka 17 kn))) km (fun i=>⟨[(18,some (vI i))],[]⟩) (fun i=>i <= l.length /\ ∀ j,j < i -> inU n (l.getD j default) = true) (fun i=>l.length - i) (0) (⟨b2b _,fun j hj=>absurd hj (b2c j)⟩) kk ?_;rintro i ⟨hi,hI⟩;refine w_5 ?_;refine hcd (fun h3=>?_) (fun h3=>?_)
 ·
  refine w_7 ?_;refine m9 0 ?_;refine mj ?_;refine hcn (fun h4=>?_) (fun h4=>?_)
  · refine v_4 ?_;exact ⟨cci (by rw [ct,if_neg b5c,if_neg b5c,if_neg (fun e=>absurd (a43 (l:=l) (p:=inU n) (i:=i) b5c (by rw [b2e];exact fun e=>absurd (a1g.2 e) b5d)) (by rw [e];decide))]),trivial⟩
  refine w_5 ?_;refine lpz (i + 1) kk ?_;refine ⟨by omega,fun j hj=>?_⟩
  rcases b4h (b56 hj) with h | h
  · exact hI j h
  subst h;exact a1g.1 b5d
 obtain rfl:i = l.length:=by omega
 refine v_5 ?_;exact ⟨cci (by rw [ct,if_neg b5c,if_neg b5c,if_pos (a8z fun j hj=>hI j hj)]),trivial⟩
def tv:goodFn b62 36:=wgx Tryz.func36
def tz (n:Int):a8 b62 36 [pI n] (ah [pA (bi n)]):=by
 refine hpx (nt:=19) Tryz.func36 ?_;refine xr ?_;refine ce (ka 0 kn) km (fun i=>⟨[(4,some (vI i)),(3,some (vA (j3 i)))],[]⟩) (min n.toNat 32) kk ?_;rintro i hi;refine w_7 ?_;refine ag rfl rfl (fun r0=>?_) (fun r0=>?_)
 ·
  have h0:=tz1 r0;(iterate 2 refine qy ?_ (hg:=(gtt r0)));refine w_2 ?_;refine al _ rfl (fun r1=>?_) (fun r1=>?_)
  · have h1:=tz1 (cn r0 r1);refine ml ?_;exact lpx (i + 1) ⟨⟨zy,⟨_,rfl,(by simp only [b2k];exact qz (aiw i))⟩,tt⟩,trivial⟩
  have h1:=tz2 (cn r0 r1);obtain rfl:i = min n.toNat 32:=by omega
  refine v_6 ?_;exact CoL.refl _
 have h0:=tz2 r0;obtain rfl:i = min n.toNat 32:=by omega
 (iterate 2 refine k9 (gft r0) ?_);refine w_9 ?_
 exact hx8 rfl rfl rfl (CoL.refl _)
end
section
def a0p (i k:Nat) (hk:k < 32):((1:AS) <<< i).getLsbD k = decide (k = i):=by
 rw [BitVec.getLsbD_shiftLeft];by_cases h:k < i
 · simp [h,hk];omega
 by_cases e:k = i
 · subst e;simp [hk]
 have:0 < k - i:=by omega
 simp [hk,h,e,BitVec.getLsbD_one];omega
def qj:∀ (n k:Nat),k < 32 -> (j3 n).getLsbD k = decide (k < n)
 | 0,k,hk=>by simp [j3]
 | n + 1,k,hk=>by
  rw [a5d,b4k,qj n k hk,a0p n k hk];by_cases h:k < n
  · simp [h];omega
  by_cases e:k = n
  · simp [e]
  simp [h,e];omega
def aun {s:AS} {n:Nat}:s >>> n = 0 <-> ∀ k,k < 32 -> n <= k -> s.getLsbD k = false:=by
 constructor
 · intro h k hk hn
   have:=congrArg (fun x:AS=>x.getLsbD (k - n)) h;simp only [BitVec.getLsbD_ushiftRight] at this;rw [show n + (k - n) = k by omega] at this;simpa using this
 intro h;apply b3r;intro i hi;rw [BitVec.getLsbD_ushiftRight];by_cases hk:n + i < 32
 · rw [h (n + i) hk b5c];simp
 rw [BitVec.getLsbD_of_ge _ _ b5c];simp
def xn {s:AS} {n:Nat} (hn:n <= 32):sub s (j3 n) <-> s >>> n = 0:=by
 rw [du,aun];constructor
 · intro h k hk hle
   rw [b2e];intro e;have:=h k hk e;rw [qj n k hk,decide_eq_true_iff] at this;omega
 intro h k hk e;rw [qj n k hk,decide_eq_true_iff];apply Nat.lt_of_not_le;intro hle;rw [h k hk hle] at e;cases e
def ot {n:Int} (hn:0 <= n) (h16:n <= 16) {f:Fd}:inU n f = true <-> sub f.lhs (bi n) /\ sub f.rhs (bi n):=by
 unfold inU bi;rw [decide_eq_true_iff,b3o b5c,<- xn b5c];exact ⟨fun h=>⟨qi a3c h,qi a35 h⟩,fun h=>a4r h.1 h.2⟩
abbrev Fd.pc (f:Fd):PC:=.agg [f.c 0,f.c 1]
def imp (l:List Fd) (f:Fd):Bool:=decide (sub f.rhs (clo l f.lhs))
end
section
open Go.Proofs
def as3 (n:Int) (l:List Fd):a8 b62 56 [pI n,pP (fdl l)] (ah [pI (ct n l)]):=by
 refine hpx (nt:=42) Tryz.func56 ?_;refine c7 ?_;refine ca 1 rfl fun hlen=>?_;refine w_9 ?_;refine ag rfl rfl (fun r0=>?_) (fun r0=>?_)
 ·
  have h0:=tz1 r0;(iterate 2 refine k9 (gtf r0) ?_);refine w_7 ?_
  exact hx8 rfl rfl rfl (⟨cci (by rw [ct,if_pos b5c]),trivial⟩)
 have h0:=tz2 r0;(iterate 2 refine qy ?_ (hg:=(gff r0)));refine w_2 ?_;refine al _ rfl (fun r1=>?_) (fun r1=>?_)
 · have h1:=tz1 (af r0 r1);refine v_4 ?_;exact ⟨cci (by rw [ct,if_pos b5c]),trivial⟩
 have h1:=tz2 (af r0 r1);refine w_8 ?_;refine hcd (fun h2=>?_) (fun h2=>?_)
 · refine v_4 ?_;exact ⟨cci (by rw [ct,if_neg b5c,if_pos b5c]),trivial⟩
 refine w_4 ?_;refine qcx tv (tz n) ?_;refine w_8 ?_;refine am (ι:=Nat) (ka 1 (ka 5 kn)) km (fun i=>⟨[(6,some (vI i))],[]⟩) (fun i=>i <= l.length /\ ∀ j,j < i -> inU n (l.getD j default) = true) (fun i=>l.length - i) (0) (⟨b2b _,fun j hj=>absurd hj (b2c j)⟩) kk ?_;rintro i ⟨hi,hI⟩;refine w_8 ?_;refine hcd (fun h3=>?_) (fun h3=>?_)
 ·
  refine dn ?_;refine qcx a3z (a8y _ _) ?_;refine w_2 ?_;refine ag rfl rfl (fun r4=>?_) (fun r4=>?_)
  ·
   have h4:=dq r4;(iterate 8 refine k9 (gtf r4) ?_);refine w_7 ?_
   exact hx8 rfl rfl rfl (⟨cci (by rw [ct,if_neg b5c,if_neg b5c,if_neg (fun e=>absurd (a43 (l:=l) (p:=inU n) (i:=i) b5c (by rw [b2e];intro e2;rw [ot b5c b5c] at e2;simp_all)) (by rw [e];decide))]),trivial⟩)
  have h4:=dt r4;(iterate 6 refine qy ?_ (hg:=(gff r4)));refine qcx a3z (a8y _ _) ?_ (hg:=(gff r4));refine qy ?_ (hg:=(gff r4));refine w_2 ?_;refine al _ rfl (fun r5=>?_) (fun r5=>?_)
  · have h5:=dq (af r4 r5);refine v_4 ?_;exact ⟨cci (by rw [ct,if_neg b5c,if_neg b5c,if_neg (fun e=>absurd (a43 (l:=l) (p:=inU n) (i:=i) b5c (by rw [b2e];intro e2;rw [ot b5c b5c] at e2;simp_all)) (by rw [e];decide))]),trivial⟩
  have h5:=dt (af r4 r5);refine w_6 ?_;refine lpz (i + 1) kk ?_;refine ⟨by omega,fun j hj=>?_⟩
  rcases b4h (b56 hj) with h | h
  · exact hI j h
  subst h;exact (ot b5c b5c).2 b5h
 obtain rfl:i = l.length:=by omega
 refine v_5 ?_;exact ⟨cci (by rw [ct,if_neg b5c,if_neg b5c,if_pos (a8z fun j hj=>hI j hj)]),trivial⟩
end
section
variable {α:Type}
def bz [Inhabited α] {l:List α} {q:Nat} (hq:q < l.length):l.take (q + 1) = l.take q ++ [l.getD q default]:=by
 rw [List.take_add_one,b25 hq];simp [List.getD,hq]
def aj7 [Inhabited α] {l:List α} {q:Nat} (h0:0 < q) (hq:q <= l.length):(l.take q).getLast? = some (l.getD (q - 1) default):=by
 obtain ⟨k,rfl⟩:∃ k,q = k + 1:=⟨q - 1,by omega⟩;rw [bz b5c,List.getLast?_append];simp
section
variable [DecidableEq α]
def it:Option α -> List α -> List α
 | _,[]=>[]
 | p,x :: l=>if p = some x then it p l else x :: it (some x) l
def j4 (l:List α):List α:=it none l
def w7 (p:Option α) (l:List α):Option α:=match l.getLast? with | some y=>some y | none=>p
def adw (p:Option α) (y:α) (l:List α):w7 p (y :: l) = w7 (some y) l:=by
 unfold w7
 cases l with
 | nil=>rfl
 | cons z l=>simp [List.getLast?_cons]
def zx (x:α):∀ (l:List α) (p:Option α),it p (l ++ [x]) = it p l ++ (if w7 p l = some x then [] else [x])
 | [],p=>by
  unfold w7;simp only [b4r,it,List.getLast?_nil];by_cases h:p = some x <;> simp [h]
 | y :: l,p=>by
  rw [adw];simp only [b4d,it];split
  · rename_i h
    rw [zx x l p,h]
  rw [zx x l (some y)];rfl
def gl [Inhabited α] {l:List α} {q:Nat} (h0:0 < q) (hq:q < l.length):j4 (l.take (q + 1)) = j4 (l.take q) ++ (if l.getD (q - 1) default = l.getD q default then [] else [l.getD q default]):=by
 unfold j4;rw [bz hq,zx];unfold w7;rw [aj7 h0 b5c];simp
def p8 [Inhabited α] {l:List α}:∀ {k:Nat},k <= l.length -> (∀ j,0 < j -> j < k -> ¬ l.getD j default = l.getD (j - 1) default) -> j4 (l.take k) = l.take k
 | 0,_,_=>rfl
 | 1,hk,_=>by
  rw [bz b5c];simp [j4,it]
 | k + 2,hk,h=>by
  rw [gl b5c b5c,p8 b5c (fun j h1 h2=>h j h1 b5c),if_neg (fun e=>h (k + 1) b5c b5c e.symm),<- bz b5c]
def a37:∀ (l:List α) (p:Option α),∀ x ∈ it p l,x ∈ l
 | [],_,x,h=>by simp [it] at h
 | y :: l,p,x,h=>by
  simp only [it] at h;split at h
  · exact b3f _ (a37 l p x h)
  rcases b2f.1 h with rfl | h
  · exact b3i
  exact b3f _ (a37 l _ x h)
def a3o:∀ (l:List α) (p:Option α),∀ x ∈ l,p = some x \/ x ∈ it p l
 | y :: l,p,x,h=>by
  simp only [it];split
  · rename_i hp
    rcases b2f.1 h with rfl | h
    · exact .inl hp
    exact a3o l p x h
  rcases b2f.1 h with rfl | h
  · exact .inr b3i
  rcases a3o l (some y) x h with h | h
  · simp only [b24] at h
    subst h;exact .inr b3i
  exact .inr (b3f _ h)
def aav {l:List α} {x:α}:x ∈ j4 l <-> x ∈ l:=⟨a37 l none x,fun h=>by
 rcases a3o l none x h with h | h
 · cases h
 exact h⟩
end
section
variable [Inhabited α]
section
variable {l:List α}
def j1 {p:Nat} {v:α} (hp:p < l.length):(l.set p v).getD p default = v:=by simp [List.getD,hp]
def getD_set_ne' {p j:Nat} {v:α} (h:j ≠ p):(l.set p v).getD j default = l.getD j default:=by
 simp only [List.getD,List.getElem?_set_ne (Ne.symm h)]
variable {c:α -> Nat -> PV}
def a7e {wr wr':Bool} {n p k:Nat} {e:TypeId} {v:α} {x:PV} (hw:wr' = true -> wr = true) (hn:n = l.length) (hp:k = p) (hk:p < l.length) (hx:x = c v 0):
 CoO (.arr wr 1 e n (dw (lf c l) k 0 [x])) (.arr wr' 1 e n (lf c (l.set p v))):=by
 subst hp hx hn;refine ⟨hw,rfl,rfl,rfl,fun i j hi hj=>CoP.of_eq ?_⟩;obtain rfl:j = 0:=by omega
 unfold dw lf;by_cases h:i = k
 · subst h
   rw [if_pos ⟨rfl,by omega,by simp⟩,j1 hk];rfl
 rw [if_neg b5c,getD_set_ne' h]
def af6 {wr wr':Bool} {n p k q d:Nat} {e:TypeId} {l':List α} (hw:wr' = true -> wr = true) (hn:n = l.length) (hp:k = p) (hk:p < l.length) (hd:d = q):
 CoO (.arr wr 1 e n (dw (lf c l) k 0 [lf c l' d 0])) (.arr wr' 1 e n (lf c (l.set p (l'.getD q default)))):=a7e hw hn hp hk (by rw [hd];rfl)
def asb {n m a:Nat} {cl:Bool} {l':List α} {z:List Value} {p:Option Int} {h:Option Int} (hn:f0 (bd n h) p = l'.length) (hp:p = none) (ha:l'.length <= a) (hl:l' = l.take l'.length):
 CoP (.sl (f0 (bd n h) p) 1 cl (ne (k7 (lf c l) a m z) p)) (psl 1 c l'):=by
 subst hp;refine CoP.sl hn.symm (.inl rfl) (fun h=>by cases h) fun i j hi hj=>CoP.of_eq ?_;rw [hn] at hi;show k7 (lf c l) a m z i j = lf c l' i j;unfold k7;rw [if_neg b5c];simp only [lf,List.getD];have e:l'[i]? = l[i]?:=by rw [hl,b2o,if_pos hi]
 rw [e]
end
end
abbrev sC:AS -> Nat -> PV:=fun s _=>asC s
structure CpI (l:List AS) (k p q:Nat) (m:List AS):Prop where
 len:m.length = l.length
 kq:k < q
 pq:p < q
 ql:q <= l.length
 pre:m.take p = j4 (l.take q)
 high:∀ j,q - 1 <= j -> m.getD j default = l.getD j default
theorem CpI.start {l:List AS} {k:Nat} (h1:1 <= k) (hk:k < l.length) (h:∀ j,0 < j -> j < k -> ¬ l.getD j default = l.getD (j - 1) default) (hd:l.getD k default = l.getD (k - 1) default):CpI l k k (k + 1) l :=
 ⟨rfl,by omega,by omega,by omega,by rw [gl b5c hk,if_pos hd.symm,b3b,p8 b5c h],fun _ _=>rfl⟩
theorem CpI.skip {l:List AS} {k p q:Nat} {m:List AS} (h:CpI l k p q m) (hq:q < l.length) (he:m.getD q default = m.getD (q - 1) default):CpI l k p (q + 1) m:=by
 have hk:=h.kq;refine ⟨h.len,by omega,by have:=h.pq;omega,hq, ?_,fun j hj=>h.high j b5c⟩;rw [h.high q b5c,h.high (q - 1) b5c] at he;rw [gl b5c hq,if_pos he.symm,b3b,h.pre]
theorem CpI.keep {l:List AS} {k p q:Nat} {m:List AS} (h:CpI l k p q m) (hq:q < l.length) (he:¬ m.getD q default = m.getD (q - 1) default):CpI l k (p + 1) (q + 1) (m.set p (m.getD q default)):=by
 have hk:=h.kq;have hp:=h.pq;have hl:=h.len;refine ⟨by simp [hl],by omega,by omega,hq, ?_,fun j hj=>by rw [getD_set_ne' b5c];exact h.high j b5c⟩;have e:=h.high q b5c;rw [e,h.high (q - 1) b5c] at he;rw [gl b5c hq,if_neg (fun e=>he e.symm),<- h.pre,bz (by simp [hl];omega),j1 b5c,e];congr 1;rw [List.take_set,b4x b5l]
end
section
section
variable {α:Type} [Inhabited α] {p:α -> Bool} {l:List α}
def abc:(decide (0 <= idx p l)) = l.any p:=by
 unfold idx
 cases hf:l.findIdx? p with
 | none =>
  rw [List.findIdx?_eq_none_iff] at hf
  have:l.any p = false:=by
   rw [b3n];intro x hx;rw [hf x hx];exact Bool.false_ne_true
  rw [this];rfl
 | some i =>
  obtain ⟨h1,h2,_⟩:=b4b.1 hf;have:l.any p = true:=b3a.2 ⟨l[i],b2l h1,h2⟩;rw [this];exact decide_eq_true (Int.natCast_nonneg i)
def a3w:∀ {k:Nat},k <= l.length -> (∀ j,j < k -> p (l.getD j default) = false) -> (l.take k).filter (fun x=>!p x) = l.take k
 | 0,_,_=>by simp
 | k + 1,hk,h=>by rw [bz b5c,b4p,a3w b5c fun j hj=>h j b5c];simp only [b4e,h k b5c,Bool.not_false,if_true,List.filter_nil]
structure DfI (p:α -> Bool) (l:List α) (k q:Nat) (m:List α):Prop where
 len:m.length = l.length
 kq:k < q
 ql:q <= l.length
 pre:m.take k = (l.take q).filter fun x=>!p x
 high:∀ j,q <= j -> m.getD j default = l.getD j default
theorem DfI.start {k:Nat} (hk:k < l.length) (h1:p (l.getD k default) = true) (h:∀ j,j < k -> p (l.getD j default) = false):DfI p l k (k + 1) l :=
 ⟨rfl,by omega,hk,by rw [bz hk,b4p,a3w b5c h];simp only [b4e,h1,Bool.not_true,List.filter_nil,b52,if_false,b3b],fun _ _=>rfl⟩
theorem DfI.skip {k q:Nat} {m:List α} (h:DfI p l k q m) (hq:q < l.length) (hp:p (m.getD q default) = true):DfI p l k (q + 1) m:=by
 rw [h.high q (b29 _)] at hp;exact ⟨h.len,by have:=h.kq;omega,hq,by rw [bz hq,b4p,<- h.pre];simp only [b4e,hp,Bool.not_true,List.filter_nil,b52,if_false,b3b],fun j hj=>h.high j b5c⟩
theorem DfI.keep {k q:Nat} {m:List α} (h:DfI p l k q m) (hq:q < l.length) (hp:p (m.getD q default) = false):DfI p l (k + 1) (q + 1) (m.set k (m.getD q default)):=by
 have e:=h.high q (b29 _);rw [e] at hp ⊢;have hk:=h.kq;have hl:=h.len;refine ⟨by simp [hl],by omega,hq, ?_,fun j hj=>by rw [getD_set_ne' b5c];exact h.high j b5c⟩;rw [bz (by simp [hl];omega),j1 b5c,bz hq,b4p,<- h.pre];simp only [b4e,hp,Bool.not_false,if_true,List.filter_nil];congr 1;rw [List.take_set,b4x b5l]
end
section
variable {p:AS -> Bool} {l:List AS}
end
instance:DecidableEq Fd:=fun a b=>decidable_of_iff (a.lhs = b.lhs /\ a.rhs = b.rhs) Fd.eq_iff.symm
end
section
def ci (s:AS) (i:Int):Bool:=decide (0 <= i /\ i < 32) && s.getLsbD i.toNat
def ge {s:AS} {i:Nat} (h:i < 32):ci s i = s.getLsbD i:=by
 unfold ci;rw [decide_eq_true b5c];simp
def a8w {s:AS} {i:Int} (h0:0 <= i) (h1:i < 32):decide (j0 .and .u32 ((asI s).fdiv (2 ^ (min i.toNat 32))) 1 = 1) = ci s i:=by
 unfold ci;rw [amn,show (1:Int) = asI 1 from rfl,agc,decide_eq_true (show 0 <= i /\ i < 32 from ⟨h0,h1⟩),b4c]
 have e:asI (s >>> i.toNat &&& 1) = asI 1 <-> s.getLsbD i.toNat = true:=by
  rw [oi];constructor
  · intro h
    have:=congrArg (fun x:AS=>x.getLsbD 0) h;simpa using this
  intro h;apply b3r;intro k hk;have h1:(1:AS).getLsbD k = decide (k = 0):=by have:=a0p 0 k hk;simpa using this
  rw [b3j,BitVec.getLsbD_ushiftRight,h1];by_cases hk0:k = 0
  · subst hk0;simp [h]
  simp [hk0]
 cases hb:s.getLsbD i.toNat with
 | true=>exact decide_eq_true (e.2 hb)
 | false=>exact decide_eq_false fun h=>by rw [e.1 h] at hb;cases hb
def u6 {s:AS} {i:Int} (h:¬ (0 <= i /\ i < 32)):ci s i = false:=by
 unfold ci;rw [decide_eq_false h];rfl
def adq {n:Nat} (h:n <= 32):j3 n = BitVec.ofNat 32 (2 ^ n - 1):=by
 apply b3r;intro k hk;rw [qj n k hk,BitVec.getLsbD_ofNat,Nat.testBit_two_pow_sub_one];simp [hk]
def adc {n:Nat} (h:n <= 32):(j3 n).toNat = 2 ^ n - 1:=by
 have h2:2 ^ n <= 2 ^ 32:=Nat.pow_le_pow_right b5c h;have h3:0 < 2 ^ n:=Nat.two_pow_pos n;rw [adq h,BitVec.toNat_ofNat,Nat.mod_eq_of_lt b5c]
def a6i {n:Int} {l:List Fd} (h:ct n l = 0):0 <= n /\ n <= 16 /\ l.length <= 64 /\ l.all (inU n) = true:=by
 unfold ct at h;split at h
 · cases h
 split at h
 · cases h
 split at h
 · rename_i h1 h2 h3
   exact ⟨by omega,by omega,by omega,h3⟩
 cases h
def a0g {n:Int} (h0:0 <= n) (h1:n <= 16):IntKind.wrap .u32 (1 * 2 ^ (min n.toNat 32)) - 1 = asI (bi n):=by
 have h2:2 ^ n.toNat <= 2 ^ 16:=Nat.pow_le_pow_right b5c b5c;have h3:0 < 2 ^ n.toNat:=Nat.two_pow_pos _;rw [show IntKind.wrap .u32 (1 * 2 ^ (min n.toNat 32)) = asI ((1:AS) <<< n.toNat) from atd 1 n.toNat];unfold bi asI;rw [b3o b5c,adc b5c,BitVec.toNat_shiftLeft,Nat.shiftLeft_eq];rw [show (1:AS).toNat = 1 from rfl,Nat.one_mul,Nat.mod_eq_of_lt b5c];omega
def ano {n:Int} (h0:0 <= n) (h1:n <= 16):0 <= IntKind.wrap .u32 (1 * 2 ^ (min n.toNat 32)) - 1:=by rw [a0g h0 h1];exact aci _
def akf {n:Int} (h0:0 <= n) (h1:n <= 16):IntKind.wrap .u32 (1 * 2 ^ (min n.toNat 32)) - 1 <= 4294967295:=by rw [a0g h0 h1];have:=abe (bi n);omega
def a7b (n:Int) (l:List Fd) (s:AS):Bool:=decide (ct n l = 0 /\ sub s (bi n) /\ clo l s = bi n)
section
variable {n:Int} {l:List Fd} {s:AS}
end
def a2r (n:Int) (l:List Fd) (m:Int):Int:=if ct n l = 0 then (if m < n then 3 else 0) else ct n l
structure Dp where
 l:BitVec 8
 r:BitVec 8
deriving Inhabited
def Dp.c (d:Dp):Nat -> PV
 | 0=>.raw (.int .u8 (d.l.toNat:Int))
 | 1=>.raw (.int .u8 (d.r.toNat:Int))
 | _=>.any
abbrev dpl (l:List Dp):PV:=psl 2 Dp.c l
def Dp.fd (n:Int) (d:Dp):Fd:=⟨d.l.setWidth 32 &&& bi n,d.r.setWidth 32 &&& bi n⟩
def z6 (b:BitVec 8) (t:AS):j0 .and .u32 (b.toNat:Int) (asI t) = asI (b.setWidth 32 &&& t):=by
 have h:=b.isLt
 have e:asI (b.setWidth 32) = (b.toNat:Int):=by
  unfold asI;rw [BitVec.toNat_setWidth,Nat.mod_eq_of_lt b5c]
 rw [<- agc,e]
end
section
open Go.Proofs
def wh:goodFn b62 119:=wgx Tryz.func119
def aao (s:AS) (i:Int):a8 b62 119 [pA s,pI i] (ah [pB (ci s i)]):=by
 refine hpx (nt:=18) Tryz.func119 ?_;refine w_9 ?_;refine ag rfl rfl (fun r0=>?_) (fun r0=>?_)
 ·
  have h0:=tz1 r0;(iterate 2 refine qy ?_ (hg:=(gtt r0)));refine w_2 ?_;refine ag rfl rfl (fun r1=>?_) (fun r1=>?_)
  ·
   have h1:=tz1 (cn r0 r1);(iterate 5 refine qy ?_ (hg:=(gtt r1)));refine w_3 ?_
   exact hx8 rfl rfl rfl (⟨ccb (by first | exact zp b5d (a8w b5c b5c) | exact (u6 b5c).symm),trivial⟩)
  have h1:=tz2 (cn r0 r1);(iterate 5 refine k9 (gft r1) ?_);refine w_3 ?_
  exact hx8 rfl rfl rfl (⟨ccb (by first | exact zp b5d (a8w b5c b5c) | exact (u6 b5c).symm),trivial⟩)
 have h0:=tz2 r0;(iterate 2 refine k9 (gft r0) ?_);refine w_2 ?_;(iterate 5 refine k9 rfl ?_);refine w_3 ?_
 exact hx8 rfl rfl rfl (⟨ccb (by first | exact zp b5d (a8w b5c b5c) | exact (u6 b5c).symm),trivial⟩)
end
section
def bsz (s:AS):Nat:=(List.range 32).countP fun i=>s.getLsbD i
def bef (a b:AS):Bool:=decide (bsz a < bsz b) || (decide (bsz a = bsz b) && decide (a.toNat < b.toNat))
def at9 (l:List AS):Prop:=l.Pairwise fun a b=>bef a b = true
def auf (x:AS):List AS -> List AS
 | []=>[x]
 | y :: l=>if x = y then y :: l else if bef x y = true then x :: y :: l else y :: auf x l
def ord (l:List AS):List AS:=l.foldl (fun o x=>auf x o) []
end
end Go.Hx
