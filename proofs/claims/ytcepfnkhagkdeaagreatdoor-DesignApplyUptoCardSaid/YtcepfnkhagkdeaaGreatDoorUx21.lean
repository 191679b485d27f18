/- A part of the proof: Bd2. -/
import Derived.Shelf.Strings.Builder2
import Derived.Test.YtcepfnkhagkdeaaGreatDoorUx20
set_option linter.all false
namespace Go.Hx
section
open Go.Shelf Go.RowKit Go.Proofs
variable {P:Program}{ρ:Ren}
def aqv {w:World} {g k n:Nat} (h:k≠g):(w.freeze ⟨g,0,none⟩ n).heap[k]? = w.heap[k]?:=by
 unfold World.freeze;split
 .rfl
 simp only[Qs];rw[Ca (by omega)]
def alz (w:World) (a:Addr) (n:Nat):Below 0 w (w.freeze a n):=by
 refine⟨?_, ?_, ?_, ?_,λk hk=>Ea hk (Ud k),Hn (QW w a n).symm⟩<;>(unfold World.freeze;split<;>simp)
set_option maxHeartbeats 1000000 in
set_option maxRecDepth 100000 in
def b4y (L:Lays.n169 P ρ) (X:Builder.Extra P ρ) (b:Nat) (p v:Value) (l:List UInt8) (w:World) (hB:Sp (ρ.t 72) (ρ.t 5) b p v (Lib.byteCells l) w) (h0:l≠[]) :
 Calls P (ρ.f 169) #[.pointer (some ⟨b,0,none⟩)] w λe w'=>e=.returned (.string ⟨l.toArray⟩)/\Below 0 w w'/\∀k,v.ownBlock≠some k->w'.heap[k]? = w.heap[k]?:=by
 obtain⟨hbk,hown,hne⟩:=hB;have hl0:l.length≠0:=by simpa using h0
 rw[Lib.byteCells_length]at hown
 obtain ⟨g,cap,cur,rfl,hbg,hg,hnc,hcm,hcs,htake⟩:∃g cap cur,v=.slice (some ⟨g,0,none⟩) l.length cap/\0<=g/\w.heap[g]? = some (.cells cur (ρ.t 5) (0,0))/\l.length<=cap/\cap<=maxLen/\cur.size=cap*1/\cur.toList.take (l.length*1)=Lib.byteCells l:=by
  rcases hown.2 with⟨_,hz⟩|⟨g,cap,cur,hv,r⟩
  .exact Ea hz hl0
  exact⟨g,cap,cur,hv,r⟩
 have c1:w.drew.cell? ⟨b,1,none⟩=some (.slice (some ⟨g,0,none⟩) l.length cap):=by
  have:w.drew.heap[b]? = some (.cells #[p, .slice (some ⟨g,0,none⟩) l.length cap] (ρ.t 72) (0,0)):=hbk;rw[Lib.cell_of_heap this];rfl
 have hSD:(Builtin.unsafeSliceData_ #[(ρ.t 37)] (ρ.t 127) #[.slice (some ⟨g,0,none⟩) l.length cap]).run P w.drew=.ok (.pointer (some ⟨g,0,none⟩)) w.drew :=
  Lib.run_unsafeSliceData_row _ _ _ _ _ _ (by omega)
 have hUS:(Builtin.unsafeString_ #[(ρ.t 127),(ρ.t 3)] (ρ.t 9) #[.pointer (some ⟨g,0,none⟩), .int .i64 l.length]).run P w.drew=.ok (.string ⟨l.toArray⟩) (w.drew.freeze ⟨g,0,none⟩ l.length):=by
  refine Lib.run_unsafeString_row w.drew (ρ.t 127) (ρ.t 3) (ρ.t 9) (ρ.t 5) L.t127 X.cellsByte g cur.size (by have hg':w.drew.heap[g]? = some (.cells cur (ρ.t 5) (0,0)):=hg;simp[World.shape?,hg']) l h0 (by omega) (by unfold maxLen at hcm;omega) ?_;intro j x hx;have:=hown.cells (g:=g) rfl j (.int .u8 x.toNat) (by simp[Lib.byteCells,hx]);exact this
 have mixed:=L.mixed;have t72:=L.t72;have a72:=L.a72;have z72:=L.z72;have v72:=L.v72;have u72:=run_underlying L.t72;have t70:=L.t70;have a70:=L.a70;have z70:=L.z70;have v70:=L.v70;have u70:=run_underlying L.t70;have t37:=L.t37;have a37:=L.a37;have z37:=L.z37;have v37:=L.v37;have u37:=run_underlying L.t37;have t127:=L.t127;have a127:=L.a127;have z127:=L.z127;have v127:=L.v127;have u127:=run_underlying L.t127;have t3:=L.t3;have a3:=L.a3;have z3:=L.z3;have v3:=L.v3;have u3:=run_underlying L.t3;have t9:=L.t9;have a9:=L.a9;have z9:=L.z9;have v9:=L.v9;have u9:=run_underlying L.t9;have t5:=X.t5;have a5:=X.a5;have z5:=X.z5;have v5:=X.v5;have u5:=run_underlying X.t5
 have hend:Below 0 w (w.drew.freeze ⟨g,0,none⟩ l.length)/\∀k,(Value.slice (some ⟨g,0,none⟩) l.length cap).ownBlock≠some k->(w.drew.freeze ⟨g,0,none⟩ l.length).heap[k]? = w.heap[k]? :=
  ⟨(Below.drew (Below.refl 0 w)).trans (alz _ _ _),λk hk=>aqv (w:=w.drew) λe=>hk (by subst e;rfl)⟩
 go_enter L.f169,Body.n169_ntmps ρ
 go_wp2
 go_region_o
 all_goals (go_wp2;go_ret;exact⟨rfl,hend⟩)
def Y9{T e:TypeId}{b:Nat}{w:World}{p:Value}{cs:Array Value}(hbk:w.heap[b]? = some (.cells #[p, .slice none 0 0] T (0,0)))(hm:cs.size<=maxLen) :
 let w':=((w.alloc (.cells cs e)).setCell ⟨b,1,none⟩ (.slice (some ⟨w.heap.size,0,none⟩) 0 cs.size)).drew.drew.drew
 Sp T e b p (.slice (some ⟨w.heap.size,0,none⟩) 0 cs.size) [] w'/\Below 0 w w'/\∀k,k<w.heap.size->k≠b->w'.heap[k]? = w.heap[k]?:=by
 have hlt:=(Le.1 hbk).1
 have hold:∀k,k<w.heap.size->(w.alloc (.cells cs e)).heap[k]? = w.heap[k]?:=λk hk=>by
  show(w.heap.push _)[k]? = _;rw[Array.getElem?_push_lt hk,Km hk]
 have hb2:(w.alloc (.cells cs e)).heap[b]? = some (.cells #[p, .slice none 0 0] T (0,0)):=(hold b hlt).trans hbk;refine⟨⟨(qD hb2).2,⟨rfl, .inr ⟨w.heap.size,cs.size,cs,rfl,Zb _, ?_,Zb _,hm,by simp,by simp⟩⟩, ?_⟩,⟨rfl,rfl,rfl, ?_,λk hk=>Ea hk (Ud k), ?_⟩,λk hk hkb=>?_⟩
 .have:((w.alloc (.cells cs e)).setCell ⟨b,1,none⟩ (.slice (some ⟨w.heap.size,0,none⟩) 0 cs.size)).heap[w.heap.size]? = (w.alloc (.cells cs e)).heap[w.heap.size]?:=v6 (by omega)
  exact this.trans (heap_alloc_new w _)
 .simp[Value.ownBlock];omega
 .show w.heap.size<=((w.alloc (.cells cs e)).setCell _ _).heap.size
  simp[World.setCell]
 .exact Nat.le_succ_of_le (Nat.le_succ_of_le (Hm _))
 exact(v6 (w:=w.alloc (.cells cs e)) (j:=1) hkb).trans (hold k hk)
set_option maxHeartbeats 2000000 in
set_option maxRecDepth 1000000 in
def Y5 (L:Lays.n241 P ρ) (X:Builder.Extra P ρ) (b n:Nat) (w:World) (hbk:w.heap[b]? = some (.cells #[.pointer (some ⟨b,0,none⟩), .slice none 0 0] (ρ.t 72) (0,0))) (hn:n<=281474976710656) :
 Calls P (ρ.f 241) #[.pointer (some ⟨b,0,none⟩), .int .i64 n] w λe w'=>e=.returned (.tuple #[])/\Below 0 w w'/\(∃v',Sp (ρ.t 72) (ρ.t 5) b (.pointer (some ⟨b,0,none⟩)) v' [] w'/\∀k,v'.ownBlock=some k->w.heap.size<=k)/\∀k,k<w.heap.size->k≠b->w'.heap[k]? = w.heap[k]?:=by
 obtain⟨cs,hrun,hle,hmax⟩:=Lib.run_makeNoZero (P:=P) w.drew #[(ρ.t 3)] (ρ.t 37) (ρ.t 5) L.t37 n hn
 have hw:IntKind.i64.wrap (IntKind.i64.wrap 0+(n:Int))=n:=by
  rw[IntKind.wrap_i64,IntKind.wrap_i64];omega
 have hcall:(callFunc (ρ.f 277) #[.int .i64 (IntKind.i64.wrap (IntKind.i64.wrap 0+(n:Int)))]).run P w.drew=.ok (.value (.slice (some ⟨w.drew.heap.size,0,none⟩) n cs.size)) (w.drew.drew.drew.alloc (.cells cs (ρ.t 5))):=by
  rw[hw,run_callFunc_extern L.f277 (by kernel_rfl) (by kernel_rfl) (by kernel_rfl) (e:=Extern.BytealgMakeNoZero.makeNoZero #[(ρ.t 3)] #[(ρ.t 37)]) (by kernel_rfl),hrun];rfl
 have hlt:b<w.heap.size:=(Le.1 hbk).1;have hbk2:(w.alloc (.cells cs (ρ.t 5))).heap[b]? = some (.cells #[.pointer (some ⟨b,0,none⟩), .slice none 0 0] (ρ.t 72) (0,0)):=(Lib.alloc_old w _ b hlt).trans hbk
 have c1:w.drew.cell? ⟨b,1,none⟩=some (.slice none 0 0):=by
  have:w.drew.heap[b]? = _:=hbk;rw[Lib.cell_of_heap this];rfl
 have c2:(w.alloc (.cells cs (ρ.t 5))).cell? ⟨b,1,none⟩=some (.slice none 0 0):=by rw[Lib.cell_of_heap hbk2];rfl
 have f2:(w.alloc (.cells cs (ρ.t 5))).frozen? ⟨b,1,none⟩=false:=Lib.frozen_of_heap hbk2 1
 have hcopy:∀W:World,(Builtin.copy_ #[(ρ.t 37),(ρ.t 37)] (ρ.t 3) #[.slice (some ⟨w.heap.size,0,none⟩) 0 cs.size, .slice none 0 0]).run P W=.ok (goInt 0) W :=
  λW=>run_copy_none W (ρ.t 37) (ρ.t 37) (ρ.t 3) (ρ.t 5) _ _ 0 cs.size 0 0 L.t37 X.sizeByte rfl
 clear hw;have hfin:=Y9 (T:=(ρ.t 72)) (e:=(ρ.t 5)) (cs:=cs) hbk (hmax (by unfold maxLen;omega));clear hbk2 hlt;have mixed:=L.mixed;have t72:=L.t72;have a72:=L.a72;have z72:=L.z72;have v72:=L.v72;have u72:=run_underlying L.t72;have t70:=L.t70;have a70:=L.a70;have z70:=L.z70;have v70:=L.v70;have u70:=run_underlying L.t70;have t37:=L.t37;have a37:=L.a37;have z37:=L.z37;have v37:=L.v37;have u37:=run_underlying L.t37;have t3:=L.t3;have a3:=L.a3;have z3:=L.z3;have v3:=L.v3;have u3:=run_underlying L.t3;have t5:=X.t5;have a5:=X.a5;have z5:=X.z5;have v5:=X.v5;have u5:=run_underlying X.t5
 have hend:∀e w',e=Ending.returned (Value.tuple #[])->w'=((w.alloc (.cells cs (ρ.t 5))).setCell ⟨b,1,none⟩ (.slice (some ⟨w.heap.size,0,none⟩) 0 cs.size)).drew.drew.drew ->
  e=.returned (.tuple #[])/\Below 0 w w'/\(∃v',Sp (ρ.t 72) (ρ.t 5) b (.pointer (some ⟨b,0,none⟩)) v' [] w'/\∀k,v'.ownBlock=some k->w.heap.size<=k)/\∀k,k<w.heap.size->k≠b->w'.heap[k]? = w.heap[k]?:=by
  rintro e w' rfl rfl;exact⟨rfl,hfin.2.1,⟨_,hfin.1,λk hk=>by simp only[Value.ownBlock,Bb]at hk;omega⟩,hfin.2.2⟩
 clear hfin
 go_enter L.f241,Body.n241_ntmps ρ
 go_wp2
 go_region_o
 all_goals (go_wp2;go_end0;exact hend _ _ rfl rfl)
set_option maxHeartbeats 2000000 in
set_option maxRecDepth 1000000 in
def T7 (L:Lays.n165 P ρ) (X:Builder.Extra P ρ) (b n:Nat) (w:World) (hbk:w.heap[b]? = some (.cells #[.pointer none, .slice none 0 0] (ρ.t 72) (0,0))) (hn:n<=281474976710656) :
 Calls P (ρ.f 165) #[.pointer (some ⟨b,0,none⟩), .int .i64 n] w λe w'=>e=.returned (.tuple #[])/\Below 0 w w'/\(∃v',Sp (ρ.t 72) (ρ.t 5) b (.pointer (some ⟨b,0,none⟩)) v' [] w'/\∀k,v'.ownBlock=some k->w.heap.size<=k)/\∀k,k<w.heap.size->k≠b->w'.heap[k]? = w.heap[k]?:=by
 have hbk1:(w.setCell ⟨b,0,none⟩ (.pointer (some ⟨b,0,none⟩))).heap[b]? = some (.cells #[.pointer (some ⟨b,0,none⟩), .slice none 0 0] (ρ.t 72) (0,0)):=(qD hbk).1;have c1:(w.setCell ⟨b,0,none⟩ (.pointer (some ⟨b,0,none⟩))).cell? ⟨b,1,none⟩=some (.slice none 0 0):=by rw[Lib.cell_of_heap hbk1];rfl
 have hb1:Below 0 w (w.setCell ⟨b,0,none⟩ (.pointer (some ⟨b,0,none⟩))):=⟨rfl,rfl,rfl,by simp[World.setCell],λk hk=>Ea hk (Ud k),Yb _⟩;have hsz:(w.setCell ⟨b,0,none⟩ (.pointer (some ⟨b,0,none⟩))).drew.heap.size=w.heap.size:=by show(w.setCell _ _).heap.size=_;simp[World.setCell]
 have hoth:∀k,k≠b->(w.setCell ⟨b,0,none⟩ (.pointer (some ⟨b,0,none⟩))).drew.heap[k]? = w.heap[k]?:=λk hk=>v6 (w:=w) (j:=0) hk;have mixed:=L.mixed;have t72:=L.t72;have a72:=L.a72;have z72:=L.z72;have v72:=L.v72;have u72:=run_underlying L.t72;have t70:=L.t70;have a70:=L.a70;have z70:=L.z70;have v70:=L.v70;have u70:=run_underlying L.t70;have t37:=L.t37;have a37:=L.a37;have z37:=L.z37;have v37:=L.v37;have u37:=run_underlying L.t37;have t3:=L.t3;have a3:=L.a3;have z3:=L.z3;have v3:=L.v3;have u3:=run_underlying L.t3;have t9:=L.t9;have a9:=L.a9;have z9:=L.z9;have v9:=L.v9;have u9:=run_underlying L.t9;have t4:=L.t4;have a4:=L.a4;have z4:=L.z4;have v4:=L.v4;have u4:=run_underlying L.t4;have t164:=L.t164;have a164:=L.a164;have z164:=L.z164;have v164:=L.v164;have u164:=run_underlying L.t164;have t5:=X.t5;have a5:=X.a5;have z5:=X.z5;have v5:=X.v5;have u5:=run_underlying X.t5;have e240:∀args w,(callFunc (ρ.f 240) args).run P w=.ok (.enter (ρ.f 240) args) w:=enters_of L.f240 (by kernel_rfl) rfl;have e241:∀args w,(callFunc (ρ.f 241) args).run P w=.ok (.enter (ρ.f 241) args) w:=enters_of L.f241 (by kernel_rfl) rfl
 go_enter L.f165,Body.n165_ntmps ρ
 have c1':(w.setCell ⟨b,0,none⟩ (.pointer (some ⟨b,0,none⟩))).drew.cell? ⟨b,1,none⟩=some (.slice none 0 0):=c1
 go_wp2_with (go_at_fn (ρ.f 240);refine(Any.Builder_copyCheck_fresh { L with } X.toX72 b w (by rw[Lib.cell_of_heap hbk];rfl) (by simp[World.shape?,hbk]) (Lib.frozen_of_heap hbk 0)).mono ?_;rintro e w' ⟨rfl,rfl⟩)
 go_region_o
 all_goals go_wp2_with (go_at_fn (ρ.f 241);refine(Y5 { L with } X b n (w.setCell ⟨b,0,none⟩ (.pointer (some ⟨b,0,none⟩))).drew hbk1 hn).mono ?_;rintro e w' ⟨rfl,h1,⟨v',h2,h3⟩,h4⟩)
 all_goals first
  |(go_end0;exact⟨rfl,hb1.drew.trans h1,⟨v',h2,λk hk=>hsz▸h3 k hk⟩,λk hk hkb=>(h4 k (hsz.symm▸hk) hkb).trans (hoth k hkb)⟩)
  |(go_end0;exact⟨rfl,hb1.drew,⟨.slice none 0 0,⟨hbk1,Dv _ _ _ _,by simp[Value.ownBlock]⟩,λk hk=>by cases hk⟩,λk hk hkb=>hoth k hkb⟩)
end
end Go.Hx
