/- A part of the proof: Bd2. -/
import Derived.Shelf.Strings.Builder2
import Derived.Test.YtmoggbnlhllhaaaGreatDoorUx28
set_option linter.all false
namespace Go.Hx
section
open Go.Shelf Go.RowKit Go.Proofs
variable {P:Program}{ρ:Ren}
def ail {w:World} {g k n:Nat} (h:k≠g):(w.freeze ⟨g,0,none⟩ n).heap[k]? = w.heap[k]?:=by
 unfold World.freeze;split
 · rfl
 simp only[bp9];rw[if_neg (by omega)]
def ak8 (w:World) (a:Addr) (n:Nat):Below 0 w (w.freeze a n):=by
 refine⟨?_, ?_, ?_, ?_,fun k hk=>absurd hk (bm6 k),bp5 (a6l w a n).symm⟩<;>(unfold World.freeze;split<;>simp)
set_option maxHeartbeats 1000000 in
set_option maxRecDepth 100000 in
def ayr (L:Lays.n169 P ρ) (X:Builder.Extra P ρ) (b:Nat) (p v:Value) (l:List UInt8) (w:World) (hB:BAt (ρ.t 72) (ρ.t 5) b p v (Lib.byteCells l) w) (h0:l≠[]) :
 Calls P (ρ.f 169) #[.pointer (some ⟨b,0,none⟩)] w fun e w'=>e=.returned (.string ⟨l.toArray⟩)/\Below 0 w w'/\∀k,v.ownBlock≠some k->w'.heap[k]? = w.heap[k]?:=by
 obtain⟨hbk,hown,hne⟩:=hB;have hl0:l.length≠0:=by simpa using h0
 rw[Lib.byteCells_length]at hown
 obtain ⟨g,cap,cur,rfl,hbg,hg,hnc,hcm,hcs,htake⟩:∃g cap cur,v=.slice (some ⟨g,0,none⟩) l.length cap/\0<=g/\w.heap[g]? = some (.cells cur (ρ.t 5) (0,0))/\l.length<=cap/\cap<=maxLen/\cur.size=cap*1/\cur.toList.take (l.length*1)=Lib.byteCells l:=by
  rcases hown.2 with⟨_,hz⟩|⟨g,cap,cur,hv,r⟩
  · exact absurd hz hl0
  exact⟨g,cap,cur,hv,r⟩
 have c1:w.drew.cell? ⟨b,1,none⟩=some (.slice (some ⟨g,0,none⟩) l.length cap):=by
  have:w.drew.heap[b]? = some (.cells #[p, .slice (some ⟨g,0,none⟩) l.length cap] (ρ.t 72) (0,0)):=hbk;rw[Lib.cell_of_heap this];rfl
 have hSD:(Builtin.unsafeSliceData_ #[(ρ.t 37)] (ρ.t 127) #[.slice (some ⟨g,0,none⟩) l.length cap]).run P w.drew=.ok (.pointer (some ⟨g,0,none⟩)) w.drew :=
  Lib.run_unsafeSliceData_row _ _ _ _ _ _ (by omega)
 have hUS:(Builtin.unsafeString_ #[(ρ.t 127),(ρ.t 3)] (ρ.t 9) #[.pointer (some ⟨g,0,none⟩), .int .i64 l.length]).run P w.drew=.ok (.string ⟨l.toArray⟩) (w.drew.freeze ⟨g,0,none⟩ l.length):=by
  refine Lib.run_unsafeString_row w.drew (ρ.t 127) (ρ.t 3) (ρ.t 9) (ρ.t 5) L.t127 X.cellsByte g cur.size (by have hg':w.drew.heap[g]? = some (.cells cur (ρ.t 5) (0,0)):=hg;simp[World.shape?,hg']) l h0 (by omega) (by unfold maxLen at hcm;omega) ?_;intro j x hx;have:=hown.cells (g:=g) rfl j (.int .u8 x.toNat) (by simp[Lib.byteCells,hx]);exact this
 have mixed:=L.mixed;have t72:=L.t72;have a72:=L.a72;have z72:=L.z72;have v72:=L.v72;have u72:=run_underlying L.t72;have t70:=L.t70;have a70:=L.a70;have z70:=L.z70;have v70:=L.v70;have u70:=run_underlying L.t70;have t37:=L.t37;have a37:=L.a37;have z37:=L.z37;have v37:=L.v37;have u37:=run_underlying L.t37;have t127:=L.t127;have a127:=L.a127;have z127:=L.z127;have v127:=L.v127;have u127:=run_underlying L.t127;have t3:=L.t3;have a3:=L.a3;have z3:=L.z3;have v3:=L.v3;have u3:=run_underlying L.t3;have t9:=L.t9;have a9:=L.a9;have z9:=L.z9;have v9:=L.v9;have u9:=run_underlying L.t9;have t5:=X.t5;have a5:=X.a5;have z5:=X.z5;have v5:=X.v5;have u5:=run_underlying X.t5
 have hend:Below 0 w (w.drew.freeze ⟨g,0,none⟩ l.length)/\∀k,(Value.slice (some ⟨g,0,none⟩) l.length cap).ownBlock≠some k->(w.drew.freeze ⟨g,0,none⟩ l.length).heap[k]? = w.heap[k]? :=
  ⟨(Below.drew (Below.refl 0 w)).trans (ak8 _ _ _),fun k hk=>ail (w:=w.drew) fun e=>hk (by subst e;rfl)⟩
 go_enter L.f169,Body.n169_ntmps ρ
 go_wp2
 go_region_o
 all_goals (go_wp2;go_ret;exact⟨rfl,hend⟩)
end
end Go.Hx
