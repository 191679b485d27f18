/- A part of the proof: Jn3 Jn5 Jo2 Jr1 Jp1 Jp2 Jb1 Jp3. -/
import Derived.Test.YtnlcekpflogjkaaGreatDoorTy39
set_option linter.all false
namespace Go.Hx
section
abbrev ae1:PV:=.sl 0 3 true (lf Val.c [])
def zr(R:List Row)(a:Nat):Nat->Nat->PV:=fun i _=>if i<a then vals (a78 R i)else ae1
section
variable {R:List Row}{a:Nat}
def be1{j:Nat}:zr R a a j=ae1:=if_neg (bvd a)
def b1z{j:Nat}:CoP (vals (a78 R a)) (zr R (a+1) a j):=CoP.of_eq (if_pos (Nat.lt_succ_self a)).symm
variable {n:Nat}
def bah:∀i,i<n->i≠a->CoP (zr R a i 0) (zr R (a+1) i 0):=fun i _ h=>by
 refine CoP.of_eq ?_;unfold zr;by_cases h1:i<a
 · rw[if_pos h1,if_pos bww]
 rw[if_neg h1,if_neg bww]
variable {e:TypeId}{f:Nat->Nat->PV}
def b2u {n':Nat} (hn:n'=n) (hf:∀i,CoP (f i 0) ae1):CoO (.arr true 1 e n f) (.arr true 1 e n' (zr R 0)):=by
 subst hn;refine⟨fun h=>h,rfl,rfl,rfl,fun i j hi hj=>?_⟩;obtain rfl:j=0:=by omega
 have:zr R 0 i 0=ae1:=if_neg bww;rw[this];exact hf i
variable {cl:Bool}
def b5t:CoP (.sl n 1 cl (zr R n)) (x4 (cn R n)):=by
 refine CoP.sl a1q (.inl rfl) (fun h=>by cases h) fun i j hi hj=>CoP.of_eq ?_;show zr R n i j=vals ((cn R n).getD i default);rw[a14 hi];exact if_pos hi
def axz{s:Nat}:CoP (.sl 0 s true f) ae1:=CoP.sl rfl (.inr rfl) (fun h=>h) fun i j hi _=>absurd hi (bt1 i)
def a5k:(yd R a).length=R.length:=btn _
variable {g:Nat->Nat->PV}
def aze{i:Nat}(hi:i<R.length)(h:∀j,j<3->CoP (g 0 j) (((R.getD i default).vals.getD a default).c j)):
 CoO (.arr true 3 e (i+1) (ep i (lf Val.c (yd R a)) g)) (.arr true 3 e (i+1) (lf Val.c (yd R a))) :=
 wh (fun h=>h) fun j hj=>by
  show CoP _ (((yd R a).getD i default).c j)
  have:(yd R a).getD i default=(R.getD i default).vals.getD a default:=by
   unfold yd;simp[List.getD,hi]
  rw[this];exact h j hj
variable {l:List Val}
def bcq{wr wr':Bool}(hw:wr'=true->wr=true)(hn:n=l.length):CoO (.arr wr 3 e n (lf Val.c l)) (.arr wr' 3 e l.length (lf (fun v j=>.raw ((a2k v).getD j (.bool false))) l)):=by subst hn;exact co_encV' hw
def co_encL' {wr wr':Bool}(hw:wr'=true->wr=true)(hn:n=l.length):CoO (.arr wr 3 e n (lf (fun v j=>.raw ((a2k v).getD j (.bool false))) l)) (.arr wr' 3 e l.length (lf Val.c l)):=by subst hn;exact bba hw
variable {s:AS}
def b3j {n':Nat} (hn:n'=n) (hf:∀i,CoP (f i 0) (.raw (.map none))):CoO (.arr true 1 e n f) (.arr true 1 e n' (lvT R s 0)):=by
 subst hn;refine⟨fun h=>h,rfl,rfl,rfl,fun i j hi hj=>?_⟩;obtain rfl:j=0:=by omega
 have:lvT R s 0 i 0=.raw (.map none):=if_neg bww;rw[this];exact hf i
def bbn {k:Nat} {f:MK->Option PV} (hf:∀m,f m=none):CoO (.mp .str 0 f) (.mp .str 0 (yn (R.take 0) s k)):=by
 refine⟨rfl,bsw _,fun m=>?_⟩;rw[hf m]
 cases m with
 |i q n=>exact CoM.refl _
 |s b=>exact CoM.refl _
def ba6{k i:Nat}(hi:i<R.length){e:ByteArray}(he:e=fj ((R.getD i default).vals.take k) s):
 CoO (.mp .str (i+1) (vh (yn (R.take i) s k) (.s e) (.raw (.bool true)))) (.mp .str (i+1) (yn (R.take (i+1)) s k)):=by
 subst he;refine⟨rfl,bsw _,fun m=>CoM.of_eq ?_⟩
 cases m with
 |i q n=>rfl
 | s b =>
  show(bif decide (b=fj ((R.getD i default).vals.take k) s)then some (PV.raw (.bool true)) else(if ol (R.take i) s k b=true then some (.raw (.bool true))else none))=if ol (R.take (i+1)) s k b=true then some (.raw (.bool true))else none
  rw[awu hi];by_cases hb:b=fj ((R.getD i default).vals.take k) s
  · subst hb
    simp
  have h1:decide (b=fj ((R.getD i default).vals.take k) s)=false:=decide_eq_false hb;have h2:decide (fj ((R.getD i default).vals.take k) s=b)=false:=decide_eq_false fun e=>hb e.symm;rw[h1,h2,Bool.or_false];rfl
def bnf{k M:Nat}:∀i j,i<n->j<1->(∃k',i6 k (.ref M 0) (lvT R s k) i j=.ref M k'/\k'=0/\CoP (mpP .str R.length (yn (R.take R.length) s k)) (lvT R s (k+1) i j))\/CoH (i6 k (.ref M 0) (lvT R s k) i j) (.p (lvT R s (k+1) i j)):=fun i j hi hj=>by
 by_cases h:i=k
 · subst h
   refine .inl ⟨0,if_pos rfl,rfl, ?_⟩;rw[bt6];exact CoP.of_eq (if_pos (Nat.lt_succ_self i)).symm
 refine .inr ?_;unfold i6;rw[if_neg h];refine CoP.of_eq ?_;unfold lvT;by_cases h1:i<k
 · rw[if_pos h1,if_pos bww]
 rw[if_neg h1,if_neg bww]
def bhl:CoP (.sl (n+1) 1 cl (lvT R s (n+1))) (.sl (n+1) 1 false (lvF R s)) :=
 CoP.sl rfl (.inl rfl) (fun h=>by cases h) fun i j hi hj=>CoP.of_eq (if_pos hi)
variable {ps:List AS}
def b5m {i:Nat} (hg:g 0 0=.sl (n+1) 1 cl (lvT R (ps.getD i default) (n+1))):
 CoO (.arr true 1 e (i+1) (ep i (lf (lvC R n) ps) g)) (.arr true 1 e (i+1) (lf (lvC R n) ps)) :=
 wh (fun h=>h) fun j hj=>by
  obtain rfl:j=0:=by omega
  rw[hg];exact bhl
def b83{k:Nat}(hk:k<=l.length):CoP (.sl (dv (b7 n (some (k:Int))) none) 3 cl (nj (lf Val.c l) none)) (vals (l.take k)):=a9v hk
def adq{l:List (List Val)}:(ju l).length=l.length:=by simp[ju]
def are{l:List (List Val)}{i:Nat}(hi:i<l.length)(h0:CoP (g 0 0) (.raw (.int .i64 ((i:Int)+1))))(h1:CoP (g 0 1) (vals (l.getD i default))):
 CoO (.arr true 2 e (i+1) (ep i (lf Row.c (ju l)) g)) (.arr true 2 e (i+1) (lf Row.c (ju l))) :=
 wh (fun h=>h) fun j hj=>by
  show CoP _ (Row.c ((ju l).getD i default) j)
  have:(ju l).getD i default=⟨(i:Int)+1,l.getD i []⟩:=by
   unfold ju;simp[List.getD,hi]
  rw[this]
  rcases(by omega:j=0\/j=1)with rfl|rfl
  · exact h0
  exact h1
variable {t:Tbl}
def bev(h:¬dg t=0):ow t ps=dg t:=if_pos h
def b9u(h1:dg t=0)(h:¬lvE t.attrs.length ps=0):ow t ps=lvE t.attrs.length ps:=by unfold ow;rw[if_neg (by simp[h1]),if_pos h]
def bdr (h1:dg t=0) (h2:lvE t.attrs.length ps=0) (h:(1000:Int)<((py t.rows ps t.attrs.length).length:Int)):ow t ps=3:=by
 unfold ow;rw[if_neg (by simp[h1]),if_neg (by simp[h2]),if_pos bww]
def au2 (h1:dg t=0) (h2:lvE t.attrs.length ps=0) (h:¬(1000:Int)<((py t.rows ps t.attrs.length).length:Int)):ow t ps=0:=by
 unfold ow;rw[if_neg (by simp[h1]),if_neg (by simp[h2]),if_neg bww]
def agh{e:Int}(h:ow t ps=e)(he:e≠0):xi t ps=T0:=if_neg (by rw[h];exact he)
def au9(h:ow t ps=0):xi t ps=⟨t.name,t.attrs,ju (py t.rows ps t.attrs.length)⟩:=if_pos h
def aue {n:Int} (h:lvE n ps=0):0<ps.length:=by
 cases ps with
 | nil =>
  exfalso;unfold lvE at h
  repeat' split at h
  all_goals first|omega|(simp at * <;> omega)
 |cons x l=>simp
def asa {n:Int} (h:lvE n ps=0):ps.length<=64:=by
 unfold lvE at h
 repeat' split at h
 all_goals omega
def b8q {n:Int} (h:lvE n ps=0):0<=n/\n<=8:=by
 unfold lvE at h
 repeat' split at h
 all_goals omega
end
end
section
abbrev RSt:=Bool×Int×Int×Int
abbrev RSt.c(s:RSt):Nat->PV:=fun j=>[.raw (.bool s.1), .raw (.int .i64 s.2.1), .raw (.int .i64 s.2.2.1), .raw (.int .i64 s.2.2.2)].getD j .any
abbrev RSt.pc(s:RSt):PC:=.agg [.raw (.bool s.1), .raw (.int .i64 s.2.1), .raw (.int .i64 s.2.2.1), .raw (.int .i64 s.2.2.2)]
abbrev b6e(l:List RSt):PV:=psl 4 RSt.c l
def St.r(s:St):RSt:=(s.1,(s.2.1:Int),(s.2.2.1:Int),(s.2.2.2:Int))
def baz {l:List St}:CoP (stl l) (b6e (l.map St.r)):=by
 refine CoP.sl (btn _) (.inl rfl) (fun h=>h) fun i j hi hj=>CoP.of_eq ?_;show St.c (l.getD i default) j=RSt.c ((l.map St.r).getD i default) j;have:(l.map St.r).getD i default=St.r (l.getD i default):=by simp[List.getD,hi]
 rw[this];rfl
abbrev a2j(a:Int)(l:List Rw)(p m:List Fd)(s:RSt):Int×List Rw×Int:=lb a l p m s.1 s.2.1 s.2.2.1 s.2.2.2
def a0o (n:Int) (p m:List Fd):Int->List Rw->List RSt->Bool
 |_,l,[]=>nc n l
 |a,l,s::r=>if(a2j a l p m s).2.2=0 then a0o n p m (a2j a l p m s).1 (a2j a l p m s).2.1 r else false
def a2q(n:Int)(ps:List AS)(p m:List Fd)(sts:List RSt):Bool:=decide (lvE n ps=0)&&(decide (dc n p m=0)&&a0o n p m n (bn (b9 n ps)) sts)
structure a4v (n:Int) (ps:List AS) (p m:List Fd) (sts:List RSt) (x:Nat×Int×List Rw×Int):Prop where
 le:x.1<=sts.length
 ok:x.2.2.2=0->a0o n p m n (bn (b9 n ps)) sts=a0o n p m x.2.1 x.2.2.1 (sts.drop x.1)
 no:¬x.2.2.2=0->a0o n p m n (bn (b9 n ps)) sts=false
section
variable {n:Int}{ps:List AS}{p m:List Fd}{sts:List RSt}
def a4v.start:a4v n ps p m sts (0,n,bn (b9 n ps),0):=⟨bsx _,fun _=>rfl,fun h=>absurd rfl h⟩
section
variable {x:Nat×Int×List Rw×Int}
def a4v.step (h:a4v n ps p m sts x) (hi:x.1<sts.length) (h0:x.2.2.2=0):a4v n ps p m sts (x.1+1,(a2j x.2.1 x.2.2.1 p m (sts.getD x.1 default)).1,(a2j x.2.1 x.2.2.1 p m (sts.getD x.1 default)).2.1,(a2j x.2.1 x.2.2.1 p m (sts.getD x.1 default)).2.2):=by
 have e:sts.drop x.1=sts.getD x.1 default::sts.drop (x.1+1):=by
  rw[bva hi,bsv,bsu hi];rfl
 have h1:=h.ok h0;rw[e,a0o]at h1;refine⟨hi,fun h2=>?_,fun h2=>?_⟩
 · rw[h1,if_pos h2]
 rw[h1,if_neg h2]
def a4v.fin (h:a4v n ps p m sts x) (hi:¬x.1<sts.length) (h0:x.2.2.2=0):a0o n p m n (bn (b9 n ps)) sts=nc n x.2.2.1:=by
 rw[h.ok h0,List.drop_of_length_le bww,a0o]
def b02(h:¬lvE n ps=0):a2q n ps p m sts=false:=by unfold a2q;rw[decide_eq_false h];rfl
def b0z(h:¬dc n p m=0):a2q n ps p m sts=false:=by unfold a2q;rw[decide_eq_false h];simp
def aff(h:lvE n ps=0)(h2:dc n p m=0):a2q n ps p m sts=a0o n p m n (bn (b9 n ps)) sts:=by unfold a2q;rw[decide_eq_true h,decide_eq_true h2];rfl
def b07 (h:lsC n ps p m=0):lvE n ps=0/\dc n p m=0/\(lsT n ps p m).2.2=0/\lcR n ps p m=((n,bn (b9 n ps)),(lsT n ps p m).1,(lsT n ps p m).2.1,(lsT n ps p m).2.2):=by
 obtain⟨h1,h2⟩:=azl h;exact⟨h1,h2,(alp h1 h2).symm.trans h,b9b h1 h2⟩
def az9 (h:¬lsC n ps p m=0):prS n ps p m=[]/\prC n ps p m=lsC n ps p m:=by
 have h':¬(rcR n ps p m).2.2=0:=by rw[a07];exact h
 exact⟨if_neg h',by unfold prC;rw[if_neg h',a07]⟩
def ay4(h:lsC n ps p m=0){i:Nat}(hi:i<=(lsT n ps p m).1.length)(hI:∀j,j<i->nc n ((trL n p m (bn (b9 n ps)) (lsT n ps p m).1).getD j default)=false)
 (hf:nc n ((trL n p m (bn (b9 n ps)) (lsT n ps p m).1).getD i default)=true):prS n ps p m=(lsT n ps p m).1.take i/\prC n ps p m=0:=by
 have e:=avs (n:=n) (ps:=ps) (p:=p) (m:=m) h
 have hx:prX n ps p m=(i:Int):=by
  unfold prX;rw[e];refine tn (p:=fun a:Int×List Rw=>nc n a.2) (i:=i) (by rw[aow];omega) (fun j hj=>?_) ?_
  · show nc n _=false
    rw[aie bww];exact hI j hj
  show nc n _=true;rw[aie hi];exact hf
 constructor
 · unfold prS
   rw[hx,e,if_pos rfl,if_neg bww];rfl
 unfold prC;rw[hx,e,if_pos rfl,if_neg bww]
def aua(h:lsC n ps p m=0)(hI:∀j,j<(lsT n ps p m).1.length+1->nc n ((trL n p m (bn (b9 n ps)) (lsT n ps p m).1).getD j default)=false):prS n ps p m=[]/\prC n ps p m=11:=by
 have e:=avs (n:=n) (ps:=ps) (p:=p) (m:=m) h
 have hx:prX n ps p m<0:=by
  unfold prX;rw[e]
  have:idx (fun a:Int×List Rw=>nc n a.2) (vg n p m (bn (b9 n ps)) (lsT n ps p m).1)=-1:=tj fun j hj=>by
   rw[aow]at hj;rw[aie bww];exact hI j hj
  show idx _ (vg n p m (bn (b9 n ps)) (lsT n ps p m).1)<0;omega
 constructor
 · unfold prS
   rw[e,if_pos rfl];exact if_pos hx
 unfold prC;rw[e,if_pos rfl];exact if_pos hx
end
end
def bpf(r:Rw):List Val:=r.map fun z=>⟨1,z,emp⟩
def bp9(l:List Rw):List Row:=(List.range l.length).map fun(i:Nat)=>⟨(i:Int)+1,bpf (l.getD i default)⟩
def bpp(n:Int)(ps:List AS)(p m:List Fd):Int:=if lsC n ps p m≠0 then lsC n ps p m else if nc n (lsT n ps p m).2.1.2=true then 10 else 0
def bsc(n:Int)(ps:List AS)(p m:List Fd):Tbl:=if bpp n ps p m=0 then⟨⟨#[116]⟩,oo.take n.toNat,bp9 (lsT n ps p m).2.1.2⟩else T0
section
variable {n:Int}{ps:List AS}{p m:List Fd}
end
def brn(n:Int)(a b:AS)(l:List Fd):Bool:=decide (cb n l=0)&&(decide (a|||b=aa n)&&(decide (sub a (clo l (a&&&b)))||decide (sub b (clo l (a&&&b)))))
end
section
section
variable {α:Type}[DecidableEq α]{c:α->α->Int}
def abi(h:Tot c):∀(l:List α) (p:Option α),l.Pairwise (fun a b=>¬c b a<0)->(∀x,p=some x->∀y∈l,¬c y x<0)->Asc c (jq p l)/\∀x,p=some x->∀y∈jq p l,c x y<0
 | [],p,_,_=>⟨List.Pairwise.nil,fun _ _ y hy=>by cases hy⟩
 | y :: l,p,hl,hp=>by
  have hl':=bty.1 hl;simp only[jq];split
  · rename_i he
    exact abi h l p hl'.2 fun x hx z hz=>hp x hx z (by simp[hz])
  rename_i he
  obtain ⟨h1,h2⟩:=abi h l (some y) hl'.2 fun x hx z hz=>by
   simp only[bst]at hx;subst hx;exact hl'.1 z hz
  refine⟨bty.2 ⟨fun z hz=>h2 y rfl z hz,h1⟩,fun x hx z hz=>?_⟩
  have hxy:c x y<0:=by
   have h3:=hp x hx y bx0;have h4:=h.anti x y;have h5:c x y≠0:=fun e=>he (by rw[hx,(h.zero x y).1 e]);omega
  rcases bt7.1 hz with rfl|hz
  · exact hxy
  exact h.tr _ _ _ hxy (h2 y rfl z hz)
def b6k(h:Tot c){l:List α}(hl:l.Pairwise fun a b=>¬c b a<0):Asc c (gi l):=(abi h l none hl fun x hx=>by cases hx).1
def bgg (c:α->α->Int) (x:α):List α->List α
 | []=>[x]
 |y::l=>if c x y<0 then x::y::l else if c x y=0 then y::l else y::bgg c x l
def bsj(c:α->α->Int)(l:List α):List α:=l.foldr (bgg c) []
end
def b7n{R:List Row}{a:Nat}:Asc gv (a78 R a):=b6k vz (vz.srt _)
def aqa {R:List Row} {a:Nat} {v:Val}:v∈a78 R a<->∃r∈R,r.vals.getD a default=v:=by
 unfold a78;rw[acx,b3k,yd,bti]
def awR:List Row:=[⟨1,[⟨1,0,emp⟩,⟨1,1,emp⟩,⟨1,5,emp⟩]⟩,⟨2,[⟨1,6,emp⟩,⟨1,1,emp⟩,⟨1,2,emp⟩]⟩]
def awT:Tbl:=⟨⟨#[116]⟩,oo.take 3,awR⟩
end
section
def aa2(l:List Row)(v:List Val):Bool:=l.any fun r=>decide (r.vals=v)
def jg (s:AS):Nat->List Val->List Val
 |_,[]=>[]
 |a,v::l=>if bu s (a:Int)=true then v::jg s (a+1) l else jg s (a+1) l
def sel(l:List Val)(s:AS):List Val:=jg s 0 l
section
variable {s:AS}
def a6g:∀{l:List Val} {a:Nat} {v:Val},jg s a (l++[v])=if bu s ((a+l.length:Nat):Int)=true then jg s a l++[v]else jg s a l
 | [],a,v=>by
  simp only[buz,jg,bux,bur]
 | x::l,a,v=>by
  have ih:jg s (a+1) (l++[v])=if bu s ((a+1+l.length:Nat):Int)=true then jg s (a+1) l++[v]else jg s (a+1) l:=a6g
  simp only[but,jg,bto];rw[ih,show a+1+l.length=a+(l.length+1) by omega];split<;>split<;>simp
variable {l:List Val}
def ala {i:Nat} (hi:i<l.length) (h:bu s (i:Int)=true):sel (l.take (i+1)) s=sel (l.take i) s++[l.getD i default]:=by
 unfold sel;rw[aj hi,a6g,bt4,btz bww,btk,if_pos h]
def al6 {i:Nat} (hi:i<l.length) (h:bu s (i:Int)=false):sel (l.take (i+1)) s=sel (l.take i) s:=by
 unfold sel;rw[aj hi,a6g,bt4,btz bww,btk,if_neg (by simp[h])]
def aci:∀{l:List Val} {a:Nat} {v:Val},v∈jg s a l->v∈l
 | x :: l,a,v,h=>by
  unfold jg at h;split at h
  · rcases bt7.1 h with rfl|h
    · simp
    exact btp _ (aci h)
  exact btp _ (aci h)
def ao1:∀{l:List Val} {a:Nat},(jg s a l).length<=l.length
 | [],_=>bsw _
 | x::l,a=>by
  have:(jg s (a+1) l).length<=l.length:=ao1;unfold jg;split<;>simp only[bto]<;>omega
def bbr:(sel l s).length<=l.length:=ao1
def adz:vn l<->∀v∈l,v.ok:=by
 constructor
 · intro h v hv
   obtain⟨i,hi,e⟩:=btt hv;have:=h i hi;rw[c4 _ _ hi,e]at this;exact this
 intro h i hi;rw[c4 _ _ hi];exact h _ (bta hi)
def b2s(h:vn l):vn (sel l s):=adz.2 fun v hv=>adz.1 h v (aci hv)
def so(a b:Row)(s:AS):Bool:=decide (sel a.vals s=sel b.vals s)
def bqe(t:Tbl)(q:AS)(r:Row)(n:Int):Bool:=t.rows.any fun x=>so x r (q&&&aa n)
def avu(a b:List Row):Bool:=a.all fun r=>aa2 b r.vals
def a1t(a b:Tbl):Bool:=decide (a.attrs=b.attrs)&&(avu a.rows b.rows&&avu b.rows a.rows)
def bll(a b:Tbl)(r s:Row)(i:Nat):Bool:=decide (a6y a.attrs (b.attrs.getD i default)<0)||decide (gv (r.vals.getD (a6y a.attrs (b.attrs.getD i default)).toNat default) (s.vals.getD i default)=0)
def bqb(a b:Tbl)(r s:Row):Bool:=(List.range b.attrs.length).all (bll a b r s)
def bqy(a b:Tbl):Bool:=b.rows.all fun s=>a.rows.any fun r=>bqb a b r s
def a0s(t:Tbl)(d:Fd)(i k:Nat):Bool:=!so (t.rows.getD i default) (t.rows.getD k default) d.lhs||so (t.rows.getD i default) (t.rows.getD k default) d.rhs
def fdB(t:Tbl)(d:Fd):Bool:=(List.range t.rows.length).all fun i=>(List.range i).all fun k=>a0s t d i k
def ale(t:Tbl)(a b:Row)(left:AS):Bool:=t.rows.any fun x=>so x a left&&so x b (aa t.attrs.length&&&~~~left)
def a2s(t:Tbl)(d:Fd)(i k:Nat):Bool:=!so (t.rows.getD i default) (t.rows.getD k default) d.lhs||ale t (t.rows.getD i default) (t.rows.getD k default) (d.lhs|||d.rhs)
def mvB(t:Tbl)(d:Fd):Bool:=(List.range t.rows.length).all fun i=>(List.range t.rows.length).all fun k=>a2s t d i k
end
end
section
def w64(n:Int):IntKind.wrap .u64 n=n%18446744073709551616:=by simp[IntKind.wrap,IntKind.bits,IntKind.signed]
def w8(n:Int):IntKind.wrap .u8 n=n%256:=by simp[IntKind.wrap,IntKind.bits,IntKind.signed]
def aoh(n:Int):Prop:=-9223372036854775808<=n/\n<=9223372036854775807
def avz (n:Int):uN n=((BitVec.ofInt 64 (n%18446744073709551616) ^^^ BitVec.ofInt 64 9223372036854775808).toNat:Int):=by
 unfold uN ct;rw[w64,w64];show((BitVec.ofInt 64 (n%18446744073709551616) ^^^ BitVec.ofInt 64 9223372036854775808).toNat:Int)%18446744073709551616=_;omega
def b90 (n:Int):0<=uN n/\uN n<18446744073709551616:=by
 rw[avz];omega
theorem bg3 {n m:Int} (hn:aoh n) (hm:aoh m) (h:uN n=uN m):n=m:=by
 rw[avz,avz]at h;have h1:=bug (Int.ofNat.inj h)
 have h2:BitVec.ofInt 64 (n%18446744073709551616)=BitVec.ofInt 64 (m%18446744073709551616):=by
  simp_all
 have h3:=congrArg BitVec.toNat h2;rw[BitVec.toNat_ofInt,BitVec.toNat_ofInt]at h3;obtain⟨a1,a2⟩:=hn;obtain⟨b1,b2⟩:=hm
 grind
theorem b1c (u:Int) (s:Nat) (hs:s<=64):byK u s=u/(2^s)%256:=by
 unfold byK;rw[w8,btz hs]
 grind
theorem ap3 {n m:Int} (hn:aoh n) (hm:aoh m) (h:y7 n=y7 m):n=m:=by
 refine bg3 hn hm ?_;have hu:=b90 n;have hv:=b90 m;unfold y7 at h;generalize uN n=u at *;generalize uN m=v at *
 have hb:∀i,i<8->u/2^(56-8*i)%256=v/2^(56-8*i)%256:=fun i hi=>by
  have h1:=congrArg (fun l=>l.getD i 0) h;simp only[List.getD,btf,bu8 hi,btr,bu9]at h1;rw[b1c _ _ bww,b1c _ _ bww]at h1;exact h1
 have h0:=hb 0 bww;have h1:=hb 1 bww;have h2:=hb 2 bww;have h3:=hb 3 bww;have h4:=hb 4 bww;have h5:=hb 5 bww;have h6:=hb 6 bww;have h7:=hb 7 bww
 grind
def b8(l:List Int):List UInt8:=l.map fun n=>UInt8.ofNat n.toNat
theorem aqy:∀{a b:List UInt8} {X Y:List Int},qz a++(0::1::X)=qz b++(0::1::Y)->a=b/\X=Y
 | [],[],X,Y,h=>by
  simp_all
 | [],y::b,X,Y,h=>by
  exfalso;simp only[qz,bwv,bv8,buz]at h;unfold a26 at h;split at h
  · simp at h
  rename_i hy;simp at h;have:y.toNat=0:=by omega
  exact hy (UInt8.toNat_inj.1 this)
 | x::a,[],X,Y,h=>by
  exfalso;simp only[qz,bwv,bv8,buz]at h;unfold a26 at h;split at h
  · simp at h
  rename_i hy;simp at h;have:x.toNat=0:=by omega
  exact hy (UInt8.toNat_inj.1 this)
 | x :: a,y::b,X,Y,h=>by
  have e1:∀(z:UInt8) (l:List UInt8) (W:List Int),qz (z::l)++W=a26 z++(qz l++W):=fun z l W=>by simp[qz]
  rw[e1,e1]at h
  have key:x=y/\qz a++(0::1::X)=qz b++(0::1::Y):=by
   unfold a26 at h;split at h<;>split at h
   · grind
   · rename_i h1 h2
     exfalso;simp at h;exact h2 (UInt8.toNat_inj.1 (by have:=h.1;show y.toNat=0;omega))
   · rename_i h1 h2
     exfalso;simp at h;exact h1 (UInt8.toNat_inj.1 (by have:=h.1;show x.toNat=0;omega))
   rename_i h1 h2;simp at h;exact⟨UInt8.toNat_inj.1 bww,by simpa using h.2⟩
  obtain⟨rfl,h2⟩:=key;obtain⟨rfl,h3⟩:=aqy h2
  grind
def mi(v:Val):Prop:=ci v=true/\aoh v.num
theorem aep {v:Val} (h:ci v=true):v.kind=0\/v.kind=1\/v.kind=2\/v.kind=3:=by
 unfold ci at h
 grind
def ag0 {a b:Val} (h1:a.kind=b.kind) (h2:a.num=b.num) (h3:a.str=b.str):a=b:=by
 obtain⟨a1,a2,a3⟩:=a;simp_all
def bng {a b:ByteArray} (h:bl a=bl b):a=b:=by
 obtain⟨⟨a⟩⟩:=a;simp_all
def b7l{v w:Val}(hv:mi v)(hw:mi w){X Y:List Int}(h:n8 v++X=n8 w++Y):v=w/\X=Y:=by
 obtain⟨hv,nv⟩:=hv;obtain⟨hw,nw⟩:=hw;have kv:=aep hv;have kw:=aep hw;unfold n8 at h;rw[but,but,bw1]at h;obtain⟨h1,h2⟩:=h;rw[w8,w8]at h1;have hk:v.kind=w.kind:=by omega
 clear h1;unfold ci at hv hw;rw[<- hk]at h2 hw kw
 rcases kv with e|e|e|e<;>rw[e]at h2 hv hw<;>simp only[Int.reduceEq,if_true,if_false,or_true,true_or,or_false,false_or,or_self,buz,bt5,decide_eq_true_eq,if_pos,true_and,decide_true,ite_true,ite_false]at h2 hv hw
 · exact⟨ag0 hk (hv.1.trans hw.1.symm) (hv.2.trans hw.2.symm),h2⟩
 · obtain ⟨h3,h4⟩:=List.append_inj h2 (by rw[zw,zw])
   exact⟨ag0 hk (ap3 nv nw h3) (hv.trans hw.symm),h4⟩
 · rw [bts,bts]at h2
   obtain⟨h3,h4⟩:=aqy h2;exact⟨ag0 hk (hv.1.trans hw.1.symm) (bng h3),h4⟩
 obtain⟨h3,h4⟩:=List.append_inj h2 (by rw[zw,zw]);exact⟨ag0 hk (ap3 nv nw h3) (hv.2.trans hw.2.symm),h4⟩
def byR(l:List Int):Prop:=∀x∈l,0<=x/\x<256
def azs:∀{a b:List Int},byR a->byR b->b8 a=b8 b->a=b
 | [],[],_,_,_=>rfl
 | [],_::_,_,_,h=>by simp[b8]at h
 |_::_,[],_,_,h=>by simp[b8]at h
 | x::a,y::b,ha,hb,h=>by
  simp only[b8,buf,bw1]at h;have h1:=ha x bx0;have h2:=hb y bx0;have h3:=congrArg UInt8.toNat h.1;simp only[UInt8.toNat_ofNat']at h3;have e:x=y:=by omega
  rw[e,azs (fun z hz=>ha z (btp _ hz)) (fun z hz=>hb z (btp _ hz)) h.2]
def bcy {a b:List Int} (ha:byR a) (hb:byR b):byR (a++b):=fun x hx=>by
 rcases btd.1 hx with h|h
 · exact ha x h
 exact hb x h
theorem bbc (v:Val):byR (n8 v):=by
 have h8:∀n:Int,0<=IntKind.wrap .u8 n/\IntKind.wrap .u8 n<256:=fun n=>by rw[w8];omega
 unfold n8;intro x hx
 rcases bt7.1 hx with rfl|hx
 · exact h8 _
 split at hx
 · unfold y7 at hx
   obtain⟨i,_,rfl⟩:=bti.1 hx;exact h8 _
 split at hx
 · rcases btd.1 hx with h|h
   · unfold qz at h
     obtain⟨z,_,h⟩:=bwi.1 h;unfold a26 at h;split at h
     · grind
     simp at h;have:=z.toNat_lt;omega
   grind
 cases hx
def a0q (s:AS):Nat->List Val->List Int
 |_,[]=>[]
 |a,v::vs=>if s.getLsbD a=true then n8 v++a0q s (a+1) vs else a0q s (a+1) vs
section
variable {s:AS}
def ahi:∀{l:List Val} {a:Nat},byR (a0q s a l)
 | [],_=>fun x hx=>by cases hx
 | v::l,a=>by
  have h:byR (a0q s (a+1) l):=ahi;unfold a0q;split
  · exact bcy (bbc v) h
  exact h
theorem agb:∀{l:List Val} {a:Nat},(∀v∈l,ci v=true)->bl (lw s a l)=b8 (a0q s a l)
 | [],_,_=>rfl
 | v :: l,a,h=>by
  have ih:bl (lw s (a+1) l)=b8 (a0q s (a+1) l):=agb fun x hx=>h x (btp _ hx);unfold lw a0q;split
  · rw [ait (h v bx0)]
    show(strOfNums (n8 v)++lw s (a+1) l).data.toList=_;rw[ByteArray.data_append,Array.toList_append];show b8 (n8 v)++bl (lw s (a+1) l)=_;rw[ih];unfold b8
    grind
  exact ih
def abj:∀{l m:List Val} {a:Nat},l.length=m.length->a+l.length<=32->(∀v∈l,mi v)->(∀v∈m,mi v)->a0q s a l=a0q s a m->jg s a l=jg s a m
 | [],[],_,_,_,_,_,_=>rfl
 | [],_::_,_,h,_,_,_,_=>by simp at h
 |_::_,[],_,h,_,_,_,_=>by simp at h
 | v :: l,w::m,a,hl,ha,h1,h2,h=>by
  have hl2:l.length=m.length:=by simpa using hl
  have ha2:a+(l.length+1)<=32:=ha;unfold a0q at h;unfold jg;rw[c9 bww];split at h
  · rename_i hs
    rw[if_pos hs,if_pos hs];obtain⟨rfl,h3⟩:=b7l (h1 v bx0) (h2 w bx0) h;have h4:jg s (a+1) l=jg s (a+1) m:=abj hl2 bww (fun x hx=>h1 x (btp _ hx)) (fun x hx=>h2 x (btp _ hx)) h3;rw[h4]
  rename_i hs;rw[if_neg hs,if_neg hs];exact abj hl2 bww (fun x hx=>h1 x (btp _ hx)) (fun x hx=>h2 x (btp _ hx)) h
def a2t:∀{l m:List Val} {a:Nat},l.length=m.length->a+l.length<=32->jg s a l=jg s a m->lw s a l=lw s a m
 | [],[],_,_,_,_=>rfl
 | [],_::_,_,h,_,_=>by simp at h
 |_::_,[],_,h,_,_=>by simp at h
 | v :: l,w::m,a,hl,ha,h=>by
  have hl:l.length=m.length:=by simpa using hl
  have ha:a+(l.length+1)<=32:=ha;unfold lw;unfold jg at h;rw[c9 bww]at h;split at h
  · rename_i hs
    rw[bw1]at h;rw[if_pos hs,if_pos hs,h.1,a2t hl bww h.2]
  rename_i hs;rw[if_neg hs,if_neg hs];exact a2t hl bww h
def amr{l m:List Val}(hl:l.length=m.length)(h32:l.length<=32)(h1:∀v∈l,mi v)(h2:∀v∈m,mi v):fj l s=fj m s<->sel l s=sel m s:=by
 constructor
 · intro h
   refine abj hl bww h1 h2 (azs ahi ahi ?_);rw[<- agb fun v hv=>(h1 v hv).1,<- agb fun v hv=>(h2 v hv).1];exact congrArg bl h
 exact a2t hl bww
end
end
section
section
variable {R:List Row}{ps:List AS}{cols:List (List Val)}{s:AS}{n:Nat}
def anm:∀{l m:List Val} {a:Nat},l.length=m.length->(jg s a l=jg s a m<->∀i,i<l.length->bu s ((a+i:Nat):Int)=true->l.getD i default=m.getD i default)
 | [],[],a,_=>⟨fun _ i hi _=>absurd hi (bt1 i),fun _=>rfl⟩
 | [],_::_,_,h=>by simp at h
 |_::_,[],_,h=>by simp at h
 | v :: l,w::m,a,hl=>by
  have hl2:l.length=m.length:=by simpa using hl
  have ih:=anm (l:=l) (m:=m) (a:=a+1) hl2;unfold jg;by_cases hs:bu s (a:Int)=true
  · rw [if_pos hs,if_pos hs,bw1,ih]
    constructor
    · rintro ⟨h1,h2⟩ i hi hh
      cases i with
      |zero=>exact h1
      |succ i=>exact h2 i (by simpa using hi) (by rw[show a+1+i=a+(i+1) by omega];exact hh)
    intro h;refine⟨h 0 bx0 hs,fun i hi hh=>?_⟩;exact h (i+1) (by simpa using hi) (by rw[show a+(i+1)=a+1+i by omega];exact hh)
  rw[if_neg hs,if_neg hs,ih];constructor
  · intro h i hi hh
    cases i with
    |zero=>exact absurd hh hs
    |succ i=>exact h i (by simpa using hi) (by rw[show a+1+i=a+(i+1) by omega];exact hh)
  intro h i hi hh;exact h (i+1) (by simpa using hi) (by rw[show a+(i+1)=a+1+i by omega];exact hh)
theorem s5 {l m:List Val} (hl:l.length=m.length):sel l s=sel m s<->∀i:Nat,i<l.length->bu s (i:Int)=true->l.getD i default=m.getD i default:=by
 unfold sel;rw[anm hl]
 grind
def okJ(R:List Row)(ps:List AS)(vs:List Val):Bool:=ps.all fun s=>ol R s vs.length (fj vs s)
def tq (R:List Row) (ps:List AS) (cols:List (List Val)):Nat->List Val->List (List Val)
 |0,vs=>if okJ R ps vs=true then[vs] else[]
 |d+1,vs=>if okJ R ps vs=true then(cols.getD vs.length default).flatMap fun v=>tq R ps cols d (vs++[v]) else[]
def b2e (hp:0<ps.length) {vs:List Val} {m:Nat} (h:1000<m):me R ps vs m=true:=by
 unfold me;rw[bu1];exact⟨_,bta hp,by simp[qa,h]⟩
theorem b7j {vs:List Val} {m:Nat} (h:m<=1000):me R ps vs m=!okJ R ps vs:=by
 unfold me okJ qa
 grind
theorem akx {α:Type} {a b:List α} {k:Nat}:(a.take k++b).take k=(a++b).take k:=by
 rw[List.take_append,List.take_append,List.take_take,Nat.min_self,bt4]
 grind
def aj4 {α β:Type} {f:List α->β->List α} {g:β->List α} {k:Nat} (h:∀acc b,acc.length<=k->f acc b=(acc++g b).take k):∀{l:List β} {acc:List α},acc.length<=k->l.foldl f acc=(acc++l.flatMap g).take k
 | [],acc,ha=>by simp[buq ha]
 | b::l,acc,ha=>by
  rw[bvl,h acc b ha,aj4 h (l:=l) (by rw[bt4];omega),akx,bv8,bts]
def aou(hp:0<ps.length):∀{d:Nat} {vs:List Val} {acc:List (List Val)},acc.length<=1001->gu R ps cols d vs acc=(acc++tq R ps cols d vs).take 1001
 | d,vs,acc,h=>by
  by_cases hm:acc.length<=1000
  · have hs:=b7j (R:=R) (ps:=ps) (vs:=vs) hm
    cases hk:okJ R ps vs with
    | false =>
     rw[hk]at hs;have e:tq R ps cols d vs=[]:=by cases d<;>(unfold tq;rw[if_neg (by simp[hk])])
     rw[un hs,e,btu,buq h]
    | true =>
     rw[hk]at hs
     cases d with
     | zero =>
      unfold gu tq;rw[if_neg (by rw[hs];decide),if_pos hk,buq (by rw[bsy,bub];omega)]
     | succ d =>
      unfold gu tq;rw[if_neg (by rw[hs];decide),if_pos hk];exact aj4 (f:=fun acc v=>gu R ps cols d (vs++[v]) acc) (g:=fun v=>tq R ps cols d (vs++[v])) (fun acc b ha=>aou hp ha) h
  have hs:=b2e (R:=R) hp (vs:=vs) (m:=acc.length) bww;rw[un hs,List.take_append,buq h,show 1001-acc.length=0 by omega,bvt,btu]
def ay8 (hp:0<ps.length):py R ps n=(tq R ps (cn R n) n []).take 1001:=by
 unfold py;rw[aou hp (bsx _),buz]
theorem zu:∀{d:Nat} {vs w:List Val},w∈tq R ps cols d vs<->∃u,w=vs++u/\u.length=d/\(∀j,j<d->u.getD j default∈cols.getD (vs.length+j) default)/\∀j,j<=d->okJ R ps (vs++u.take j)=true
 | 0,vs,w=>by
  unfold tq;constructor
  · simp_all
  grind
 | d + 1,vs,w=>by
  unfold tq;constructor
  · intro h
    split at h
    · rename_i hk
      obtain⟨v,hv,hw⟩:=bwi.1 h;obtain⟨u,rfl,hl,h1,h2⟩:=zu.1 hw;refine⟨v::u,by simp,by simp[hl],fun j hj=>?_,fun j hj=>?_⟩
      · cases j with
        |zero=>exact hv
        | succ j =>
         have:=h1 j bww;rw[bsy,bub,show vs.length+1+j=vs.length+(j+1) by omega]at this;exact this
      cases j with
      |zero=>simpa using hk
      | succ j =>
       grind
    cases h
  rintro⟨u,rfl,hl,h1,h2⟩;have h0:=h2 0 (bsx _);rw[bvt,btu]at h0;rw[if_pos h0]
  cases u with
  |nil=>simp at hl
  | cons v u =>
   refine bwi.2 ⟨v,h1 0 bww,zu.2 ⟨u,by simp,by simpa using hl,fun j hj=>?_,fun j hj=>?_⟩⟩
   · grind
   grind
def b0v {p x y:List Val}:dp (p++x) (p++y)=dp x y:=by
 induction p with
 |nil=>rfl
 | cons v p ih =>
  rw[but,but,dp,if_neg (by rw[vz.self];simp),ih]
theorem anr (hc:∀a,Asc gv (cols.getD a default)):∀{d:Nat} {vs:List Val},Asc dp (tq R ps cols d vs)
 | 0,vs=>by
  unfold tq;split
  · grind
  simp_all
 | d + 1,vs=>by
  unfold tq;split
  · refine List.pairwise_flatMap.2 ⟨fun v _=>anr hc,(hc vs.length).imp fun {v w} hvw x hx y hy=>?_⟩
    obtain⟨u,rfl,_⟩:=zu.1 hx;obtain⟨u',rfl,_⟩:=zu.1 hy;rw[bts,bts,b0v];exact a64.2 (.inl hvw)
  simp_all
def ayp(a:Nat):Asc gv ((cn R n).getD a default):=by
 by_cases h:a<n
 · rw [a14 h]
   exact b7n
 rw[show(cn R n).getD a default=[] by simp[cn,List.getD,h];rfl];simp_all
def a0g(R:List Row)(ps:List AS)(n:Nat):List (List Val):=tq R ps (cn R n) n []
def b6n:Asc dp (a0g R ps n):=anr ayp
def b4x(hp:0<ps.length):py R ps n=(a0g R ps n).take 1001:=ay8 hp
def amx{r:Row}(hr:r∈R)(he:∀r∈R,∀v∈r.vals,mi v){k:Nat}:∀v∈r.vals.take k,mi v:=fun v hv=>he r hr v (bvg hv)
def av5(he:∀r∈R,∀v∈r.vals,mi v)(hw:∀r∈R,r.vals.length=n){w:List Val}(hl:w.length<=n)(hn:n<=16)(hv:∀v∈w,mi v) :
 okJ R ps w=true<->∀s∈ps,∃r∈R,sel (r.vals.take w.length) s=sel w s:=by
 unfold okJ ol;rw[btl];constructor
 · intro h s hs
   have:=h s hs;obtain⟨r,hr,e⟩:=bu1.1 this;refine⟨r,hr, ?_⟩;have hlen:(r.vals.take w.length).length=w.length:=by rw[bt4,hw r hr];omega
   exact(amr hlen bww (amx hr he) hv).1 (of_decide_eq_true e)
 intro h s hs;obtain⟨r,hr,e⟩:=h s hs;refine bu1.2 ⟨r,hr,decide_eq_true ?_⟩;have hlen:(r.vals.take w.length).length=w.length:=by rw[bt4,hw r hr];omega
 exact(amr hlen bww (amx hr he) hv).2 e
theorem b6s (he:∀r∈R,∀v∈r.vals,mi v) (hw:∀r∈R,r.vals.length=n) (hn:n<=16) (hf:orL ps=aa n) {w:List Val} :
 w∈a0g R ps n<->w.length=n/\∀s∈ps,∃r∈R,sel r.vals s=sel w s:=by
 unfold a0g;rw[zu];constructor
 · rintro ⟨u,e0,hl,h1,h2⟩
   rw[buz]at e0;subst e0;refine⟨hl, ?_⟩;have h3:=h2 n (bsw _);rw[buz,buq bww]at h3
   have hu:∀v∈w,mi v:=fun v hv=>by
    obtain⟨j,hj,e⟩:=btt hv;have:=h1 j bww;rw[bux,btk,a14 bww,aqa]at this
    grind
   have h4:=(av5 he hw bww hn hu).1 h3
   grind
 rintro⟨hl,h⟩
 have hcol:∀j,j<n->∃r∈R,r.vals.getD j default=w.getD j default:=fun j hj=>by
  have hb:bu (orL ps) (j:Int)=true:=by
   rw[hf,c9 bww];unfold aa;rw[btz bww,mh _ _ bww];simpa using hj
  have:∃s∈ps,bu s (j:Int)=true:=by
   rw[c9 bww]at hb;unfold orL at hb;rw[a9j,bud]at hb
   rcases hb with hb|hb
   · simp at hb
   obtain⟨s,hs,hh⟩:=bu1.1 hb;exact⟨s,hs,by rw[c9 bww];exact hh⟩
  obtain⟨s,hs,hh⟩:=this;obtain⟨r,hr,e⟩:=h s hs;exact⟨r,hr,(s5 ((hw r hr).trans hl.symm)).1 e j (by rw[hw r hr];exact hj) hh⟩
 have hu:∀v∈w,mi v:=fun v hv=>by
  obtain⟨j,hj,e⟩:=btt hv
  grind
 refine⟨w,rfl,hl,fun j hj=>?_,fun j hj=>?_⟩
 · rw [bux,btk,a14 hj,aqa]
   grind
 rw[buz];have hjl:(w.take j).length=j:=by rw[bt4];omega
 rw[av5 he hw bww hn fun v hv=>hu v (bvg hv)];intro s hs;obtain⟨r,hr,e⟩:=h s hs;refine⟨r,hr, ?_⟩;rw[hjl];have hrl:=hw r hr;rw[s5 (by rw[bt4,bt4];omega)];intro i hi hh;rw[bt4]at hi;have h5:=(s5 (hrl.trans hl.symm)).1 e i bww hh
 grind
end
end
section
section
variable {n:Int}{ps:List AS}{p m:List Fd}
def b2b (hb:dc n p m=0):∀{sts:List St} {l lend:List Rw} {i:Nat},TrZ n p m lend l sts->i<=sts.length->a0o n p m n l ((sts.take i).map St.r)=nc n ((trL n p m l sts).getD i default)
 | sts,l,lend,0,_,_=>by
  rw[auo,bvt];rfl
 | [],_,_,i+1,_,hi=>by simp at hi
 | s::r,l,lend,i+1,h,hi=>by
  obtain⟨hT,hok,l',e,_,h⟩:=h;have ea:a2j n l p m (St.r s)=dx n l p m s:=ajk hT hb hok;have ih:=b2b hb (i:=i) h (by simpa using hi);simp only[List.take_succ_cons,buf,a0o];rw[ea,e,if_pos rfl];unfold trL;rw[e];exact ih
def beu(h:prC n ps p m=0):lsC n ps p m=0/\∃i,i<=(lsT n ps p m).1.length/\prS n ps p m=(lsT n ps p m).1.take i/\nc n ((trL n p m (bn (b9 n ps)) (lsT n ps p m).1).getD i default)=true:=by
 have hls:lsC n ps p m=0:=by
  apply Classical.byContradiction;intro hn;have:=(az9 hn).2;exact hn (this▸h)
 refine⟨hls, ?_⟩
 have key:∀k,k<=(lsT n ps p m).1.length+1->(∀j,j<k->nc n ((trL n p m (bn (b9 n ps)) (lsT n ps p m).1).getD j default)=false)\/∃i,i<k/\(∀j,j<i->nc n ((trL n p m (bn (b9 n ps)) (lsT n ps p m).1).getD j default)=false)/\nc n ((trL n p m (bn (b9 n ps)) (lsT n ps p m).1).getD i default)=true:=by
  intro k
  induction k with
  |zero=>intro _;exact .inl fun j hj=>absurd hj (bt1 j)
  | succ k ih =>
   intro hk
   rcases ih bww with h1|⟨i,h1,h2,h3⟩
   · cases hf:nc n ((trL n p m (bn (b9 n ps)) (lsT n ps p m).1).getD k default) with
     |true=>exact .inr ⟨k,by omega,h1,hf⟩
     | false =>
      refine .inl fun j hj=>?_;by_cases e:j=k
      · rw[e];exact hf
      exact h1 j bww
   exact .inr ⟨i,by omega,h2,h3⟩
 rcases key _ (bsw _)with h1|⟨i,h1,h2,h3⟩
 · have:=(aua hls h1).2
   rw[this]at h;cases h
 exact⟨i,by omega,(ay4 hls bww h2 h3).1,h3⟩
def b76 (h:prC n ps p m=0):a2q n ps p m ((prS n ps p m).map St.r)=true:=by
 obtain⟨hls,i,h1,h2,h3⟩:=beu h;obtain⟨hv,hb,hc,_⟩:=b07 hls;rw[aff hv hb,h2,b2b hb (b32 hv hb hc) h1];exact h3
end
def sgB(n:Int)(c:AS)(z:Int):Int:=if bu c (z%n)=true then z%n else z
section
variable {n:Int}{P Q:AS}{p:List Fd}
def b0e {a b:AS} {i:Int}:bu (a&&&b) i=(bu a i&&bu b i):=by
 unfold bu;rw[btm];cases decide (0<=i/\i<32)<;>simp
end
end
section
section
variable {t:Tbl}{d:Fd}
def z8 {R:List Row} {a:Row} (h:a∈R):∃i,i<R.length/\R.getD i default=a:=by
 obtain⟨i,hi,e⟩:=btt h;exact⟨i,hi,by rw[c4 _ _ hi,e]⟩
def bie (h:fdB t d=true) {a b:Row} (ha:a∈t.rows) (hb:b∈t.rows) (e:sel a.vals d.lhs=sel b.vals d.lhs):sel a.vals d.rhs=sel b.vals d.rhs:=by
 obtain⟨i,hi,rfl⟩:=z8 ha;obtain⟨k,hk,rfl⟩:=z8 hb
 have key:∀i k,i<t.rows.length->k<i->sel (t.rows.getD i default).vals d.lhs=sel (t.rows.getD k default).vals d.lhs->sel (t.rows.getD i default).vals d.rhs=sel (t.rows.getD k default).vals d.rhs:=fun i k hi hk e=>by
  unfold fdB at h;have h1:=btl.1 (btl.1 h i (btj.2 hi)) k (btj.2 hk);unfold a0s so at h1;rw[decide_eq_true e]at h1;simpa using h1
 rcases bwp i k with h1|h1|h1
 · exact(key k i hk h1 e.symm).symm
 · subst h1;rfl
 exact key i k hi h1 e
def bjg (h:mvB t d=true) {a b:Row} (ha:a∈t.rows) (hb:b∈t.rows) (e:sel a.vals d.lhs=sel b.vals d.lhs):∃x∈t.rows,sel x.vals (d.lhs|||d.rhs)=sel a.vals (d.lhs|||d.rhs)/\sel x.vals (aa t.attrs.length&&&~~~(d.lhs|||d.rhs))=sel b.vals (aa t.attrs.length&&&~~~(d.lhs|||d.rhs)):=by
 obtain⟨i,hi,rfl⟩:=z8 ha;obtain⟨k,hk,rfl⟩:=z8 hb;unfold mvB at h;have h1:=btl.1 (btl.1 h i (btj.2 hi)) k (btj.2 hk);unfold a2s so at h1;rw[decide_eq_true e]at h1;have h1:ale t (t.rows.getD i default) (t.rows.getD k default) (d.lhs|||d.rhs)=true:=by simpa using h1
 unfold ale at h1;obtain⟨x,hx,h2⟩:=bu1.1 h1;rw[bt5]at h2;unfold so at h2;exact⟨x,hx,of_decide_eq_true h2.1,of_decide_eq_true h2.2⟩
end
def b2i {n i:Nat} (hn:n<=16) (hi:i<n):bu (aa (n:Int)) (i:Int)=true:=by
 rw[c9 bww];unfold aa;rw[btz bww,mh _ _ bww];simpa using hi
def b1e {n i:Nat} {s:AS} (hn:n<=16) (hi:i<n) (h:¬bu s (i:Int)=true):bu (aa (n:Int)&&&~~~s) (i:Int)=true:=by
 have h1:=b2i hn hi;rw[b0e,h1,bv2];rw[c9 bww]at h ⊢;rw[bw5];simp only[h,bws,Bool.and_true];simp;omega
section
variable {n:Int}{ps:List AS}{p m:List Fd}
end
def sgT(n:Nat)(w:List Val)(f:Nat->Row)(z:Int):Val:=if z<(n:Int)then w.getD z.toNat default else(f (z/n-1).toNat).vals.getD (z%n).toNat default
section
variable {w:List Val}
def aj6 {n:Nat} {f:Nat->Row} {j:Nat} (hj:j<n):sgT n w f (j:Int)=w.getD j default:=by
 unfold sgT;rw[if_pos bww,bt8]
def b2x {n:Nat} {f:Nat->Row} {i j:Nat} (hj:j<n):sgT n w f ((n:Int)+(i:Int)*(n:Int)+(j:Int))=(f i).vals.getD j default:=by
 unfold sgT;have h0:0<=(i:Int)*(n:Int):=Int.mul_nonneg bww bww;rw[if_neg bww];have e:(n:Int)+(i:Int)*(n:Int)+(j:Int)=(j:Int)+((i:Int)+1)*(n:Int):=by rw[Int.add_mul,Int.one_mul];omega
 rw[e,Int.add_mul_ediv_right _ _ bww,Int.add_mul_emod_self_right,Int.ediv_eq_zero_of_lt bww bww,Int.emod_eq_of_lt bww bww,bt8];have e2:((0:Int)+((i:Int)+1)-1).toNat=i:=by omega
 rw[e2]
def bdt{t:Tbl}{p m:List Fd}(hn:t.attrs.length<=16)(hw:∀r∈t.rows,r.vals.length=t.attrs.length)(hF:∀d∈p,fdB t d=true)(hM:∀d∈m,mvB t d=true)(σ:Int->Val) :
 Mdl t.attrs.length p m (fun x y=>σ x=σ y) (fun r=>r.length=t.attrs.length/\∃x∈t.rows,∀i,i<t.attrs.length->σ (r.getD i default)=x.vals.getD i default) where
 refl x:=rfl
 symm h:=h.symm
 trans h k:=h.trans k
 len h:=h.1
 cong {r r'} h hl he:=by
  obtain⟨h1,x,hx,h2⟩:=h;exact⟨hl.trans h1,x,hx,fun i hi=>(he i bww).symm.trans (h2 i hi)⟩
 fd {d} hd {a b} ha hb hag:=by
  obtain⟨hal,xa,hxa,ha⟩:=ha;obtain⟨hbl,xb,hxb,hb⟩:=hb;have hla:=hw xa hxa;have hlb:=hw xb hxb
  have h1:sel xa.vals d.lhs=sel xb.vals d.lhs:=(s5 (hla.trans hlb.symm)).2 fun i hi hh=>by
   rw[<- ha i bww,<- hb i bww];exact hag i bww hh
  have h2:=(s5 (hla.trans hlb.symm)).1 (bie (hF d hd) hxa hxb h1);intro i hi hh;show σ (a.getD i default)=σ (b.getD i default);rw[ha i bww,hb i bww];exact h2 i bww hh
 mv {d} hd {a b} ha hb hag:=by
  obtain⟨hal,xa,hxa,ha⟩:=ha;obtain⟨hbl,xb,hxb,hb⟩:=hb;have hla:=hw xa hxa;have hlb:=hw xb hxb
  have h1:sel xa.vals d.lhs=sel xb.vals d.lhs:=(s5 (hla.trans hlb.symm)).2 fun i hi hh=>by
   rw[<- ha i bww,<- hb i bww];exact hag i bww hh
  obtain⟨x,hx,h2,h3⟩:=bjg (hM d hd) hxa hxb h1;have hlx:=hw x hx;have h2:=(s5 (hlx.trans hla.symm)).1 h2;have h3:=(s5 (hlx.trans hlb.symm)).1 h3;refine⟨(jx _ _ _).trans hbl,x,hx,fun i hi=>?_⟩
  have e:(ej a b (d.lhs|||d.rhs)).getD i default=if bu (d.lhs|||d.rhs) (i:Int)=true then a.getD i default else b.getD i default:=by
   unfold ej;rw[bsv,btf,bu8 bww];rfl
  rw[e];by_cases hh:bu (d.lhs|||d.rhs) (i:Int)=true
  · rw [if_pos hh,ha i hi]
    exact(h2 i bww hh).symm
  rw[if_neg hh,hb i hi];exact(h3 i bww (b1e hn hi hh)).symm
def b65{t:Tbl}{ps:List AS}{p m:List Fd}(hn:t.attrs.length<=16)(hw:∀r∈t.rows,r.vals.length=t.attrs.length)(hLR:LR t.attrs.length p m (b9 t.attrs.length ps) (dy t.attrs.length))(hF:∀d∈p,fdB t d=true)(hM:∀d∈m,mvB t d=true)(hwl:w.length=t.attrs.length)(hall:∀s∈ps,∃r∈t.rows,sel r.vals s=sel w s):∃r∈t.rows,r.vals=w:=by
 have hch:∀i,∃r:Row,i<ps.length->r∈t.rows/\sel r.vals (ps.getD i default)=sel w (ps.getD i default):=fun i=>by
  by_cases hi:i<ps.length
  · obtain ⟨r,hr,e⟩:=hall (ps.getD i default) (by rw[c4 _ _ hi];exact bta hi)
    exact⟨r,fun _=>⟨hr,e⟩⟩
  exact⟨default,fun h=>absurd h hi⟩
 obtain⟨f,hf⟩:=Classical.axiomOfChoice hch
 obtain ⟨_,x,hx,h2⟩:=hLR _ _ (bdt hn hw hF hM (sgT t.attrs.length w f)) (fun r hr=>by
  unfold b9 at hr;obtain⟨i,hi,rfl⟩:=bti.1 hr;have hi:=btj.1 hi;obtain⟨hfr,hfe⟩:=hf i hi;have hlf:=hw _ hfr;refine⟨a91 _ _ _,f i,hfr,fun j hj=>?_⟩;rw[aml (by simpa using hj)];unfold stV;by_cases hh:bu (ps.getD i default) (j:Int)=true
  · rw [if_pos hh,aj6 hj]
    exact((s5 (hlf.trans hwl.symm)).1 hfe j bww hh).symm
  rw[if_neg hh]
  exact b2x hj)
 refine⟨x,hx, ?_⟩;have hlx:=hw x hx;refine bv1 (hlx.trans hwl.symm) fun i h3 h4=>?_;have:=h2 i bww;rw[ant bxc,aj6 bww,c4 _ _ h3,c4 _ _ h4]at this;exact this.symm
def b0f{t:Tbl}{ps:List AS}{p m:List Fd}(hT:TOk t)(he:∀r∈t.rows,∀v∈r.vals,mi v)(hv:lvE t.attrs.length ps=0)(hLR:LR t.attrs.length p m (b9 t.attrs.length ps) (dy t.attrs.length))
 (hF:∀d∈p,fdB t d=true) (hM:∀d∈m,mvB t d=true):ow t ps=0/\a1t (xi t ps) t=true/\(xi t ps).ok:=by
 have hn:=hT.na
 have hw:∀r∈t.rows,r.vals.length=t.attrs.length:=fun r hr=>by
  obtain⟨i,hi,rfl⟩:=z8 hr;exact hT.width hi
 have hf:=(a41 hv).2.2.2.2
 have hmem:∀w,w∈a0g t.rows ps t.attrs.length<->∃r∈t.rows,r.vals=w:=fun w=>by
  rw[b6s he hw hn hf];constructor
  · rintro ⟨h1,h2⟩
    exact b65 hn hw hLR hF hM h1 h2
  rintro⟨r,hr,rfl⟩;exact⟨hw r hr,fun s hs=>⟨r,hr,rfl⟩⟩
 have hlen:(a0g t.rows ps t.attrs.length).length<=1000:=by
  have h1:=(b3f.nodup (b6n (R:=t.rows) (ps:=ps) (n:=t.attrs.length))).length_le_of_subset (l₂:=t.rows.map Row.vals) fun w hw=>by
   obtain⟨r,hr,e⟩:=(hmem w).1 hw;exact bti.2 ⟨r,hr,e⟩
  rw[btn]at h1;have:=hT.nr;omega
 have hj:py t.rows ps t.attrs.length=a0g t.rows ps t.attrs.length:=by
  rw[b4x (aue hv),buq bww]
 have h0:ow t ps=0:=au2 (mc.2 hT) hv (by rw[hj];omega);refine⟨h0, ?_⟩;rw[au9 h0,hj]
 have hid:∀{L:List (List Val)} {w:List Val},w∈L<->∃r∈ju L,r.vals=w:=fun {L w}=>by
  unfold ju;constructor
  · intro h
    obtain⟨i,hi,e⟩:=btt h;exact⟨_,bti.2 ⟨i,btj.2 hi,rfl⟩,by show L.getD i default=w;rw[c4 _ _ hi,e]⟩
  rintro⟨r,hr,rfl⟩;obtain⟨i,hi,rfl⟩:=bti.1 hr;have hi:=btj.1 hi;show L.getD i default∈L;rw[c4 _ _ hi];exact bta hi
 refine⟨?_,hT.ok.1, ?_,fun j hj=>?_⟩
 rotate_left
 · show (ju (a0g t.rows ps t.attrs.length)).length<=68719476736
   rw[adq];omega
 · have hj:j<(ju (a0g t.rows ps t.attrs.length)).length:=hj
   show((ju (a0g t.rows ps t.attrs.length)).getD j default).ok;obtain⟨r',hr',e⟩:=(hmem _).1 (hid.2 ⟨(ju (a0g t.rows ps t.attrs.length)).getD j default,by rw[c4 _ _ hj];exact bta hj,rfl⟩);obtain⟨i,hi,e2⟩:=z8 hr';have hok:=hT.ok.2.2 i hi;rw[e2]at hok;unfold Row.ok at hok ⊢;rw[<- e];exact hok
 unfold a1t avu aa2;rw[decide_eq_true rfl,bv2,bt5];constructor
 · rw [btl]
   intro r hr;obtain⟨r',hr',e⟩:=(hmem r.vals).1 (hid.2 ⟨r,hr,rfl⟩);exact bu1.2 ⟨r',hr',decide_eq_true e⟩
 rw[btl];intro r hr;obtain⟨r',hr',e⟩:=hid.1 ((hmem r.vals).2 ⟨r,hr,rfl⟩);exact bu1.2 ⟨r',hr',decide_eq_true e⟩
end
end
end Go.Hx
