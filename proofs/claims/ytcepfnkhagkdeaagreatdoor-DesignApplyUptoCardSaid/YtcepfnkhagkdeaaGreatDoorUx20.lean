/- A part of the proof: Bd1. -/
import Derived.Shelf.Strings.Builder1
import Derived.Test.YtcepfnkhagkdeaaGreatDoorUx01
set_option linter.all false
namespace Go.Hx
section
open Go.Shelf Go.RowKit Go.Proofs
variable {P:Program}{ρ:Ren}
def ab7(w:World)(t u ty e:TypeId)(i:TypeInfo)(ht:P.underlying t=some (.slice e))(hu:P.underlying u=some .string)(hi:P.info? e=some i)(hz:i.zero=some (.int .u8 0))
 (hsize:i.size=1) (hby:i.bytes=1) (v:Value) (n:Nat) (xs:List Value) (hown:w.ownsRow 0 e 1 v n xs) (s:ByteArray) (hbytes:n+s.size<=140737488355328) :
 ∃v' w',(Builtin.append_ #[t,u] ty #[v, .string s]).run P w=.ok v' w'/\w'.ownsRow 0 e 1 v' (n+s.size) (xs++Lib.strCells s)/\w.grownBy w' v.ownBlock/\(v'.ownBlock=v.ownBlock\/v'.ownBlock=some w.heap.size):=by
 have h63:n+s.size<=maxLen:=by unfold maxLen;omega
 have hxl:xs.length=n:=by simpa using hown.1
 have hlen:(xs++Lib.strCells s).length=(n+s.size)*1:=by rw[Uc,hxl,Lib.strCells_length,Zj]
 have grown:∀(old:Nat),old<n+s.size->∀(row:Option Nat),
  (w.drew.alloc (.cells (xs.toArray++(Lib.strCells s).toArray++Builtin.zeroCells (Value.int .u8 0).cells (grownCap w (n+s.size) old e-(n+s.size))) e)).ownsRow 0 e 1
   (.slice (some ⟨w.heap.size,0,none⟩) (n+s.size) (grownCap w (n+s.size) old e)) (n+s.size) (xs++Lib.strCells s) /\
  w.grownBy (w.drew.alloc (.cells (xs.toArray++(Lib.strCells s).toArray++Builtin.zeroCells (Value.int .u8 0).cells (grownCap w (n+s.size) old e-(n+s.size))) e)) row:=by
  intro old ho row
  refine ⟨⟨hlen, .inr ⟨w.heap.size,_,_,rfl,Zb _,heap_alloc_new w.drew _,grownCap_ge w _ old e,grownCap_le_maxLen w _ old e h63, ?_, ?_⟩⟩,⟨rfl,rfl,rfl,by simp,λk hk _=>by
   show(w.heap.push _)[k]? = _
   rw[Array.getElem?_push_lt hk,Km hk]⟩⟩
  .have hge:=grownCap_ge w (n+s.size) old e
   have hz1:(Value.int IntKind.u8 0).cells.size=1:=rfl;simp only[Bv,Pi,size_zeroCells,hz1,hxl,Lib.strCells_length];omega
  simp only[Array.toList_append,Ug];rw[<- Ug,<- hlen];exact List.take_left
 rcases hown.2 with⟨rfl,rfl⟩|⟨g,cap,cur,rfl,hbg,hg,hnc,hcm,hcs,htake⟩
 .have hx:xs=[]:=Vl hxl
  subst hx;by_cases hm:s.size=0
  .have hn:Lib.strCells s=[]:=Vl (by rw[Lib.strCells_length];exact hm)
   refine⟨.slice none 0 0,w, ?_,by rw[hm,hn];exact Dv w 0 e 1,⟨rfl,rfl,rfl,Yb _,λ_ _ _=>rfl⟩, .inl rfl⟩;have hf:=Lib.run_firstCells_string (P:=P) w 1 s;rw[hm]at hf;simp[Builtin.append_,run_underlying ht,run_underlying hu,sizeOf,typeInfo,hi,hsize,Builtin.lenOf,hm,hf]
  have hr:=run_append_nil_string (P:=P) w t u ty e i (.int .u8 0) ht hu hi hz s (by omega) (by omega) (by rw[hby];omega);have hgr:=grown 0 (by omega) (Value.ownBlock (.slice none 0 0));simp only[Oe,Kn,Array.empty_append]at hgr ⊢
  have e1:(s.data.map λb=>Value.int .u8 b.toNat)=(Lib.strCells s).toArray:=by
   apply Array.ext';simp[Lib.strCells]
  rw[e1]at hr;exact⟨_,_,hr,hgr.1,hgr.2, .inr rfl⟩
 by_cases hroom:n+s.size<=cap
 .have hcs':cur.size=cap:=by simpa using hcs
  have hr:=Lib.run_append_room_string (P:=P) w t u ty e i ht hu hi hsize g n cap cur hg s hroom (by omega);refine⟨_,_,hr,⟨hlen, .inr ⟨g,cap,_,rfl,hbg,setRow_heap w g cur _ e _ hg,hroom,hcm, ?_, ?_⟩⟩,⟨rfl,rfl,rfl,by simp,λk _ hk=>setRow_other w g k _ (λe=>hk (by simp[Value.ownBlock,e]))⟩, .inl rfl⟩
  .simp only [Pi,Uc,Ae,Ck,Zh,Lib.strCells_length]
   omega
  have ht':cur.toList.take n=xs:=by simpa using htake
  rw[ht',<- hlen];exact List.take_left
 have holds:∀j u,xs[j]? = some u->w.cell? ((⟨g,0,none⟩:Addr).add j)=some u:=hown.cells (g:=g) rfl;have hr:=Lib.run_append_grow_string (P:=P) w t u ty e i (.int .u8 0) ht hu hi hz ⟨g,0,none⟩ n cap xs (by rw[hsize];simpa using hxl) holds s (by omega) (by omega) (by rw[hby];exact growslice_fits (by omega) (by omega));have hgr:=grown cap (by omega) (Value.ownBlock (.slice (some ⟨g,0,none⟩) n cap));exact⟨_,_,hr,hgr.1,hgr.2, .inr rfl⟩
section
variable {w:World}
def akt {ops:Array Oper} {rest:List Oper} {o:Oper} {a:Act} {Q:Exit->Act->World->Prop} (hgd:o.guard=none) (sl x:Operand) (t u:TypeId) (ho:o.op=.call { callee:=.builtin .append,args:=#[sl,x],argTypes:=#[t,u] }) (e:TypeId) (i:TypeInfo) (ht:P.underlying t=some (.slice e)) (hu:P.underlying u=some .string) (hi:P.info? e=some i) (hz:i.zero=some (.int .u8 0)) (hsize:i.size=1) (hby:i.bytes=1) (v:Value) (n:Nat) (xs:List Value) (hs:a.eval sl=v) (hown:w.ownsRow 0 e 1 v n xs) (s:ByteArray) (hx:a.eval x=.string s) (hbytes:n+s.size<=140737488355328) (h:∀v' w',w'.ownsRow 0 e 1 v' (n+s.size) (xs++Lib.strCells s)->Wf w w' v.ownBlock->(v'.ownBlock=v.ownBlock\/v'.ownBlock=some w.heap.size)->wpList P ops Q rest (a.put o.dst v') w'):wpList P ops Q (o::rest) a w:=by
 refine wpList_plain hgd λK hK=>?_;obtain⟨v',w',hr,h2,h3,h4⟩:=ab7 (P:=P) w t u o.type e i ht hu hi hz hsize hby v n xs hown s hbytes;unfold Oper.wp execOp;simp only[ho,resolve,invoke,builtin,Nf,Mh,Rf,List.map_toArray,Wh,List.map_nil,hs,hx,hr];exact hK _ _ (h v' w' h2 ⟨h3,xz _ hr⟩ h4)
structure Sp (T e:TypeId) (b:Nat) (p v:Value) (xs:List Value) (w:World):Prop where
 heap:w.heap[b]? = some (.cells #[p,v] T (0,0))
 own:w.ownsRow 0 e 1 v xs.length xs
 ne:v.ownBlock≠some b
def pJ {e:TypeId} {v:Value} {n:Nat} {xs:List Value} (h:w.ownsRow 0 e 1 v n xs):(∃a m c,v=.slice a m c)/\∀k,v.ownBlock=some k->k<w.heap.size:=by
 rcases h.2 with⟨rfl,_⟩|⟨g,cap,cur,rfl,_,hg,_⟩
 .exact⟨⟨_,_,_,rfl⟩,λk hk=>by cases hk⟩
 exact ⟨⟨_,_,_,rfl⟩,λk hk=>by
  simp only[Value.ownBlock,Bb]at hk;subst hk
  exact(Le.1 hg).1⟩
def v6 {b k:Nat} {j:Nat} {u:Value} (h:k≠b):(w.setCell ⟨b,j,none⟩ u).heap[k]? = w.heap[k]?:=by
 simp only[World.setCell,Qs];rw[Ca (by omega)]
def qD {b:Nat} {x y u:Value} {T:TypeId} (h:w.heap[b]? = some (.cells #[x,y] T (0,0))):(w.setCell ⟨b,0,none⟩ u).heap[b]? = some (.cells #[u,y] T (0,0))/\(w.setCell ⟨b,1,none⟩ u).heap[b]? = some (.cells #[x,u] T (0,0)):=by
 constructor<;>simp[World.setCell,Qs,h]
def IS {w':World} {e:TypeId} {v:Value} {n:Nat} {xs:List Value} (h:w.ownsRow 0 e 1 v n xs) (hk:∀k,v.ownBlock=some k->w'.heap[k]? = w.heap[k]?):w'.ownsRow 0 e 1 v n xs:=by
 refine⟨h.1, ?_⟩
 rcases h.2 with h2|⟨g,cap,cur,rfl,q1,q2,q3⟩
 .exact .inl h2
 exact .inr ⟨g,cap,cur,rfl,q1,(hk g rfl).trans q2,q3⟩
def as4(L:Lays.n240 P ρ)(X:Builder.X72 P ρ)(b:Nat)(p v:Value)(T:TypeId)(hT:T=ρ.t 72)(w:World)(hp:p=.pointer none\/p=.pointer (some ⟨b,0,none⟩))(hb:w.heap[b]? = some (.cells #[p,v] T (0,0))) :
 Calls P (ρ.f 240) #[.pointer (some ⟨b,0,none⟩)] w λe w'=>e=.returned (.tuple #[])/\w'.heap[b]? = some (.cells #[.pointer (some ⟨b,0,none⟩),v] T (0,0))/\Below 0 w w'/\∀k,k≠b->w'.heap[k]? = w.heap[k]?:=by
 subst hT
 rcases hp with rfl|rfl
 .refine (Any.Builder_copyCheck_fresh L X b w (by rw[Lib.cell_of_heap hb];rfl) (by simp[World.shape?,hb]) (Lib.frozen_of_heap hb 0)).mono ?_
  rintro e w' ⟨rfl,rfl⟩;exact⟨rfl,(qD hb).1,⟨rfl,rfl,rfl,by simp[World.setCell],λk hk=>Ea hk (Ud k),Yb _⟩,λk hk=>v6 hk⟩
 refine(Any.Builder_copyCheck_used L X b w (by rw[Lib.cell_of_heap hb];rfl)).mono ?_;rintro e w' ⟨rfl,rfl⟩;exact⟨rfl,hb,Below.refl _ _,λ_ _=>rfl⟩
set_option maxHeartbeats 2000000 in
set_option maxRecDepth 100000 in
def akq(L:Lays.n166 P ρ)(X:Builder.Extra P ρ)(b:Nat)(p v:Value)(xs:List Value)(s:ByteArray)(w:World)(hp:p=.pointer none\/p=.pointer (some ⟨b,0,none⟩))(hB:Sp (ρ.t 72) (ρ.t 5) b p v xs w)(hlen:xs.length+s.size<=140737488355328) :
 Calls P (ρ.f 166) #[.pointer (some ⟨b,0,none⟩), .string s] w λe w'=>e=.returned (.tuple #[.int .i64 s.size, .nilIface])/\Below 0 w w'/\∃v',Sp (ρ.t 72) (ρ.t 5) b (.pointer (some ⟨b,0,none⟩)) v' (xs++Lib.strCells s) w' /\
  (∀k,k<w.heap.size->k≠b->v.ownBlock≠some k->w'.heap[k]? = w.heap[k]?)/\∀k,v'.ownBlock=some k->v.ownBlock=some k\/w.heap.size<=k:=by
 obtain⟨i0,hi,hz0,hz1,hz2⟩:=info_parts X.infoByte;have mixed:=L.mixed;have t72:=L.t72;have a72:=L.a72;have z72:=L.z72;have v72:=L.v72;have u72:=run_underlying L.t72;have t70:=L.t70;have a70:=L.a70;have z70:=L.z70;have v70:=L.v70;have u70:=run_underlying L.t70;have t37:=L.t37;have a37:=L.a37;have z37:=L.z37;have v37:=L.v37;have u37:=run_underlying L.t37;have t3:=L.t3;have a3:=L.a3;have z3:=L.z3;have v3:=L.v3;have u3:=run_underlying L.t3;have t9:=L.t9;have a9:=L.a9;have z9:=L.z9;have v9:=L.v9;have u9:=run_underlying L.t9;have t4:=L.t4;have a4:=L.a4;have z4:=L.z4;have v4:=L.v4;have u4:=run_underlying L.t4;have t164:=L.t164;have a164:=L.a164;have z164:=L.z164;have v164:=L.v164;have u164:=run_underlying L.t164;have t5:=X.t5;have a5:=X.a5;have z5:=X.z5;have v5:=X.v5;have u5:=run_underlying X.t5;have e240:∀args w,(callFunc (ρ.f 240) args).run P w=.ok (.enter (ρ.f 240) args) w:=enters_of L.f240 (by kernel_rfl) rfl
 go_enter L.f166,Body.n166_ntmps ρ
 go_wp2_with (go_at_fn (ρ.f 240);refine(as4 { L with } X.toX72 b p v _ rfl _ hp hB.heap).mono ?_)
 rintro e w1 ⟨rfl,hbk,hb1,hf1⟩;have hlt:b<w1.heap.size:=(Le.1 hbk).1;have hown:w1.ownsRow 0 (ρ.t 5) 1 v xs.length xs:=IS hB.own λk hk=>hf1 k λe=>hB.ne (e▸hk);have c1:w1.cell? ⟨b,1,none⟩=some v:=by rw[Lib.cell_of_heap hbk];rfl
 go_wp2_with (at_builtin;refine akt rfl _ _ (ρ.t 37) (ρ.t 9) rfl (ρ.t 5) i0 L.t37 L.t9 hi hz0 hz1 hz2 _ _ _ rfl hown s rfl hlen ?_)
 intro v' w2 hown' hgrow hat
 have hb2:w2.heap[b]? = some (.cells #[.pointer (some ⟨b,0,none⟩),v] (ρ.t 72) (0,0)):=by
  rw[hgrow.base.block b hlt (λe=>hB.ne e.symm)];exact hbk
 have d1:w2.cell? ⟨b,1,none⟩=some v:=by rw[Lib.cell_of_heap hb2];rfl
 have f1:w2.frozen? ⟨b,1,none⟩=false:=Lib.frozen_of_heap hb2 1;obtain⟨⟨ao,n',cap,rfl⟩,hlt'⟩:=pJ hown'
 have hne':(Value.slice ao n' cap).ownBlock≠some b:=λe=>by
  rcases hat with h|h
  .exact hB.ne (h▸e)
  rw[h]at e;simp only[Bb]at e;omega
 have hsz:w1.heap.size=w.heap.size\/w.heap.size<=w1.heap.size:=.inr hb1.size
 go_wp2
 go_ret2
 refine⟨rfl, ?_,_,⟨(qD hb2).2, ?_,hne'⟩,λk hk hkb hkv=>?_,λk hk=>?_⟩
 .exact(hb1.trans ⟨hgrow.base.os,hgrow.base.tape,hgrow.base.output,hgrow.base.size,λk hk=>Ea hk (Ud k),hgrow.drawn⟩).trans ⟨rfl,rfl,rfl,by simp[World.setCell],λk hk=>Ea hk (Ud k),Yb _⟩
 .have:=IS (w':=w2.setCell ⟨b,1,none⟩ (.slice ao n' cap)) hown' λk hk=>v6 λe=>hne' (e▸hk)
  simpa [Lib.strCells_length]using this
 .rw[v6 hkb,hgrow.base.block k (Ln hk hb1.size) (λe=>hkv e.symm),hf1 k hkb]
 rcases hat with h|h
 .exact .inl (h▸hk)
 rw[h]at hk;simp only[Bb]at hk;exact .inr (by have:=hb1.size;omega)
end
end
end Go.Hx
