/- A part of the proof: Cl1 V3 Cl2 V4 Cs5 V5 Cs2 Cs6. -/
import Derived.Lib.TrailingZeros
import Derived.Test.YtnlcekpflogjkaaGreatDoorTy13
set_option linter.all false
set_option maxRecDepth 100000
set_option maxHeartbeats 1000000
namespace Go.Hx
section
variable {α:Type}
def aj [Inhabited α] {l:List α} {q:Nat} (hq:q<l.length):l.take (q+1)=l.take q++[l.getD q default]:=by
 rw[List.take_add_one,bsu hq];simp[List.getD,hq]
def b2c [Inhabited α] {l:List α} {q:Nat} (h0:0<q) (hq:q<=l.length):(l.take q).getLast? = some (l.getD (q-1) default):=by
 obtain⟨k,rfl⟩:∃k,q=k+1:=⟨q-1,by omega⟩;rw[aj bww,List.getLast?_append];simp
section
variable [DecidableEq α]
def jq:Option α->List α->List α
 |_,[]=>[]
 |p,x::l=>if p=some x then jq p l else x::jq (some x) l
def gi(l:List α):List α:=jq none l
def a34(p:Option α)(l:List α):Option α:=match l.getLast? with|some y=>some y|none=>p
def aro (p:Option α) (y:α) (l:List α):a34 p (y::l)=a34 (some y) l:=by
 unfold a34
 cases l with
 |nil=>rfl
 |cons z l=>simp[List.getLast?_cons]
def a79(x:α):∀(l:List α) (p:Option α),jq p (l++[x])=jq p l++(if a34 p l=some x then[] else[x])
 | [],p=>by
  unfold a34;simp only[buz,jq,List.getLast?_nil];by_cases h:p=some x<;>simp[h]
 | y :: l,p=>by
  rw[aro];simp only[but,jq];split
  · rename_i h
    rw[a79 x l p,h]
  rw[a79 x l (some y)];rfl
def kz [Inhabited α] {l:List α} {q:Nat} (h0:0<q) (hq:q<l.length):gi (l.take (q+1))=gi (l.take q)++(if l.getD (q-1) default=l.getD q default then[] else[l.getD q default]):=by
 unfold gi;rw[aj hq,a79];unfold a34;rw[b2c h0 bww];simp
def qc [Inhabited α] {l:List α}:∀{k:Nat},k<=l.length->(∀j,0<j->j<k->¬l.getD j default=l.getD (j-1) default)->gi (l.take k)=l.take k
 |0,_,_=>rfl
 | 1,hk,_=>by
  rw[aj bww];simp[gi,jq]
 | k+2,hk,h=>by
  rw[kz bww bww,qc bww (fun j h1 h2=>h j h1 bww),if_neg (fun e=>h (k+1) bww bww e.symm),<- aj bww]
def ace:∀(l:List α) (p:Option α),∀x∈jq p l,x∈l
 | [],_,x,h=>by simp[jq]at h
 | y::l,p,x,h=>by
  simp only[jq]at h;split at h
  · exact btp _ (ace l p x h)
  rcases bt7.1 h with rfl|h
  · exact bu5
  exact btp _ (ace l _ x h)
def acs:∀(l:List α) (p:Option α),∀x∈l,p=some x\/x∈jq p l
 | y :: l,p,x,h=>by
  simp only[jq];split
  · rename_i hp
    rcases bt7.1 h with rfl|h
    · exact .inl hp
    exact acs l p x h
  rcases bt7.1 h with rfl|h
  · exact .inr bu5
  rcases acs l (some y) x h with h|h
  · simp only [bst]at h
    subst h;exact .inr bu5
  exact .inr (btp _ h)
def acx {l:List α} {x:α}:x∈gi l<->x∈l:=⟨ace l none x,fun h=>by
 rcases acs l none x h with h|h
 · cases h
 exact h⟩
end
section
variable [Inhabited α]
section
variable {l:List α}
def l3{p:Nat}{v:α}(hp:p<l.length):(l.set p v).getD p default=v:=by simp[List.getD,hp]
def getD_set_ne' {p j:Nat} {v:α} (h:j≠p):(l.set p v).getD j default=l.getD j default:=by
 simp only[List.getD,List.getElem?_set_ne (Ne.symm h)]
variable {c:α->Nat->PV}
def vu{wr wr':Bool}{n p k:Nat}{e:TypeId}{v:α}{x:PV}(hw:wr'=true->wr=true)(hn:n=l.length)(hp:k=p)(hk:p<l.length)(hx:x=c v 0):
 CoO (.arr wr 1 e n (eu (lf c l) k 0 [x])) (.arr wr' 1 e n (lf c (l.set p v))):=by
 subst hp hx hn;refine⟨hw,rfl,rfl,rfl,fun i j hi hj=>CoP.of_eq ?_⟩;obtain rfl:j=0:=by omega
 unfold eu lf;by_cases h:i=k
 · subst h
   rw[if_pos ⟨rfl,by omega,by simp⟩,l3 hk];rfl
 rw[if_neg bww,getD_set_ne' h]
def pl {wr wr':Bool} {n p k q d:Nat} {e:TypeId} {l':List α} (hw:wr'=true->wr=true) (hn:n=l.length) (hp:k=p) (hk:p<l.length) (hd:d=q):
 CoO (.arr wr 1 e n (eu (lf c l) k 0 [lf c l' d 0])) (.arr wr' 1 e n (lf c (l.set p (l'.getD q default)))):=vu hw hn hp hk (by rw[hd];rfl)
def aae {n m a:Nat} {cl:Bool} {l':List α} {z:List Value} {p:Option Int} {h:Option Int} (hn:dv (b7 n h) p=l'.length) (hp:p=none) (ha:l'.length<=a) (hl:l'=l.take l'.length):
 CoP (.sl (dv (b7 n h) p) 1 cl (nj (o5 (lf c l) a m z) p)) (psl 1 c l'):=by
 subst hp;refine CoP.sl hn.symm (.inl rfl) (fun h=>by cases h) fun i j hi hj=>CoP.of_eq ?_;rw[hn]at hi;show o5 (lf c l) a m z i j=lf c l' i j;unfold o5;rw[if_neg bww];simp only[lf,List.getD];have e:l'[i]? = l[i]?:=by rw[hl,btx,if_pos hi]
 rw[e]
end
end
abbrev sC:AS->Nat->PV:=fun s _=>asC s
structure CpI (l:List AS) (k p q:Nat) (m:List AS):Prop where
 len:m.length=l.length
 kq:k<q
 pq:p<q
 ql:q<=l.length
 pre:m.take p=gi (l.take q)
 high:∀j,q-1<=j->m.getD j default=l.getD j default
section
variable {k:Nat}{l:List AS}
theorem CpI.start (h1:1<=k) (hk:k<l.length) (h:∀j,0<j->j<k->¬l.getD j default=l.getD (j-1) default) (hd:l.getD k default=l.getD (k-1) default):CpI l k k (k+1) l :=
 ⟨rfl,by omega,by omega,by omega,by rw[kz bww hk,if_pos hd.symm,btu,qc bww h],fun _ _=>rfl⟩
theorem CpI.skip {p q:Nat} {m:List AS} (h:CpI l k p q m) (hq:q<l.length) (he:m.getD q default=m.getD (q-1) default):CpI l k p (q+1) m:=by
 have hk:=h.kq;refine⟨h.len,by omega,by have:=h.pq;omega,hq, ?_,fun j hj=>h.high j bww⟩;rw[h.high q bww,h.high (q-1) bww]at he;rw[kz bww hq,if_pos he.symm,btu,h.pre]
theorem CpI.keep {p q:Nat} {m:List AS} (h:CpI l k p q m) (hq:q<l.length) (he:¬m.getD q default=m.getD (q-1) default):CpI l k (p+1) (q+1) (m.set p (m.getD q default)):=by
 have hk:=h.kq;have hp:=h.pq;have hl:=h.len;refine⟨by simp[hl],by omega,by omega,hq, ?_,fun j hj=>by rw[getD_set_ne' bww];exact h.high j bww⟩;have e:=h.high q bww;rw[e,h.high (q-1) bww]at he;rw[kz bww hq,if_neg (fun e=>he e.symm),<- h.pre,aj (by simp[hl];omega),l3 bww,e];congr 1;rw[List.take_set,bwg bxc]
def zh{a b a' b':Nat}(h:asI (l.getD a' default)=asI (l.getD b' default))(ha:a'=a)(hb:b'=b):l.getD a default=l.getD b default:=by subst ha hb;exact df.1 h
def za{a b a' b':Nat}(h:¬asI (l.getD a' default)=asI (l.getD b' default))(ha:a'=a)(hb:b'=b):¬l.getD a default=l.getD b default:=by subst ha hb;exact fun e=>h (congrArg asI e)
def atr (hk:l.length<=k) (h:∀j,0<j->j<k->¬l.getD j default=l.getD (j-1) default):CoP (.sl l.length 1 false (lf sC l)) (asl (gi l)):=by
 have:=qc (bsw l.length) fun j h1 h2=>h j h1 bww;rw[bt6]at this;rw[this];exact CoP.refl _
def bfc {m:List AS} {p q n a d:Nat} {cl:Bool} {z:List Value} (hC:CpI l k p q m) (hq:¬q<l.length) (ha:p<=a):CoP (.sl (dv (b7 n (some (p:Int))) none) 1 cl (nj (o5 (lf sC m) a d z) none)) (asl (gi l)):=by
 have e:=hC.pre;have h1:=hC.ql;have h2:=hC.len;have h3:=hC.pq;rw[show q=l.length by omega,bt6]at e;have el:(gi l).length=p:=by rw[<- e];simp;omega
 exact aae (by rw[el];rfl) rfl bww (by rw[el,e])
end
end
section
open Go.Proofs
section
variable {p:Prop}
def bwy(h:p:=by(repeat' apply And.intro)<;>first|trivial|exact bt0 rfl):p:=h
def bwz(h:p:=by first|rfl|(dsimp only;omega)):p:=h
def bx1(h:p:=by first|rfl|(dsimp only;omega)):p:=h
def bx4(h:p:=by simp only[b7]; omega):p:=h
def bx6(h:p:=by simp only[b7];omega):p:=h
def bxf(h:p:=by dsimp only; omega):p:=h
def b46(l:List AS):d9 bxn 171 [.one (.ref 900 l.length)] [(900, .arr true 1 50 l.length (lf sC l))] (.v (.one (.p (asl (gi l))))) [] []:=by
 refine hfx (nt:=61) Tryz.func171 ?_;refine d5 ?_;refine aa5 900 rfl fun hlen=>?_;refine da ?_;refine hcd ?_ ?_<;>intro h0
 · refine w_5 ?_;refine bh 2 rfl rfl rfl ?_;refine hrr ?_;exact⟨_,_,rfl,bwy,atr (k:=l.length) (bsw _) (fun j h1 h2=>by omega),trivial⟩
 refine w_7 ?_;refine ai (ι:=Nat) (ka 0 kn) (kb 900 km) (fun k=>⟨[(3,some (vI k))],[]⟩) (fun k=>1<=k/\k<=l.length/\∀j,0<j->j<k->¬l.getD j default=l.getD (j-1) default) (fun k=>l.length-k) (1) (⟨bsw _,by omega,fun j h1 h2=>by omega⟩) kk ?_;rintro k ⟨hk1,hk,hI⟩;refine w_8 ?_;refine hcd ?_ ?_<;>intro h1
 ·
  refine sv ?_;refine hcd ?_ ?_<;>intro h2
  ·
   refine jo ?_;refine ai (ι:=Nat×Nat×List AS) (ka 0 (ka 4 kn)) km (fun x=>⟨[(3,some (vI x.1)),(5,some (vI ((x.2.1:Int)-k)))],[(900,some (.arr true 1 50 l.length (lf sC x.2.2)))]⟩) (fun x=>CpI l k x.1 x.2.1 x.2.2) (fun x=>l.length-x.2.1) ((k,k+1,l)) (CpI.start hk1 bww hI (zh bwx rfl bww)) ⟨⟨zy,⟨_,rfl,(coi bwz)⟩,trivial⟩,uu⟩ ?_;rintro⟨p,q,m⟩ hC;have hC0:=hC;obtain⟨hml,hkq,hpq,hql,_,_⟩:=hC0;dsimp only at hC hml hkq hpq hql;refine w_8 ?_;refine hcd ?_ ?_<;>intro h3
   ·
    simp only[dv,b7,bt8]at h3;refine sv ?_;refine hcn ?_ ?_<;>intro h4
    ·
     refine a5y ?_
     first | (refine lpz (p+1, q+1, m.set p (m.getD q default)) ⟨⟨⟨_, rfl, (coi bx1)⟩, ⟨_, rfl, (coi bx1)⟩, tt⟩, ⟨⟨_, rfl, (pl id hml.symm bww bxf bx4)⟩, trivial⟩⟩ ?_; exact hC.keep bww (za bwx bx4 bx4))
           |(refine lpz (p,q+1,m) ⟨⟨⟨_,rfl,(coi bwz)⟩,⟨_,rfl,(coi bwz)⟩,tt⟩,uu⟩ ?_;exact hC.skip bww (zh bwx bx6 bx6))
    refine w_6 ?_
    first | (refine lpz (p+1, q+1, m.set p (m.getD q default)) ⟨⟨⟨_, rfl, (coi bx1)⟩, ⟨_, rfl, (coi bx1)⟩, tt⟩, ⟨⟨_, rfl, (pl id hml.symm bww bxf bx4)⟩, trivial⟩⟩ ?_; exact hC.keep bww (za bwx bx4 bx4))
          |(refine lpz (p,q+1,m) ⟨⟨⟨_,rfl,(coi bwz)⟩,⟨_,rfl,(coi bwz)⟩,tt⟩,uu⟩ ?_;exact hC.skip bww (zh bwx bx6 bx6))
   simp only[dv,b7,bt8]at h3;refine w_6 ?_;refine r9 0 true ?_;refine w_5 ?_;refine aii rfl rfl rfl rfl rfl ?_;refine w_2 ?_;refine hrr ?_;exact⟨_,_,rfl,bwy,bfc hC bww (by simp[b7]),trivial⟩
  refine w_6 ?_;refine lpz (k+1) kk ?_;refine⟨by omega,by show k+1<=_;omega,fun j h1 h2=>?_⟩
  rcases bvr (bvv h2)with h|h
  · exact hI j h1 h
  subst h;exact za bwx rfl bww
 refine w_6 ?_;refine bh 2 rfl rfl rfl ?_;refine hrr ?_;exact⟨_,_,rfl,bwy,atr (k:=k) bww hI,trivial⟩
end
end
section
section
variable {α:Type}[Inhabited α]{p:α->Bool}{l:List α}
def ao0(h:idx p l=-1):∀j,j<l.length->p (l.getD j default)=false:=fun j hj=>by
 cases hc:p (l.getD j default) with
 |false=>rfl
 | true =>
  exfalso;have hx:∃x∈l,p x=true:=⟨l[j],bta hj,by simpa [List.getD,hj]using hc⟩;unfold idx at h
  cases hf:l.findIdx? p with
  | none =>
   rw[bwc]at hf;obtain⟨x,hx,hp⟩:=hx;rw[hf x hx]at hp;cases hp
  |some i=>rw[hf]at h;simp only at h;omega
def aq8 (h:¬idx p l=-1):∃i:Nat,idx p l=i/\i<l.length/\p (l.getD i default)=true/\∀j,j<i->p (l.getD j default)=false:=by
 unfold idx at h ⊢
 cases hf:l.findIdx? p with
 |none=>rw[hf]at h;exact absurd rfl h
 | some i =>
  obtain⟨h1,h2,h3⟩:=bve.1 hf;refine⟨i,rfl,h1,by simpa [List.getD,h1]using h2,fun j hj=>?_⟩;have:=h3 j hj;simp only[List.getD,bsu (Nat.lt_trans hj h1),bu9];simpa using this
def a0i:(decide (0<=idx p l))=l.any p:=by
 unfold idx
 cases hf:l.findIdx? p with
 | none =>
  rw[bwc]at hf
  have:l.any p=false:=by
   rw[buk];intro x hx;rw[hf x hx];exact Bool.false_ne_true
  rw[this];rfl
 | some i =>
  obtain⟨h1,h2,_⟩:=bve.1 hf;have:l.any p=true:=bu1.2 ⟨l[i],bta h1,h2⟩;rw[this];exact decide_eq_true (bv4 i)
def yf:∀{k:Nat},k<=l.length->(∀j,j<k->p (l.getD j default)=false)->(l.take k).filter (fun x=>!p x)=l.take k
 |0,_,_=>by simp
 |k+1,hk,h=>by rw[aj bww,buo,yf bww fun j hj=>h j bww];simp only[buy,h k bww,bws,if_true,bw8]
structure DfI (p:α->Bool) (l:List α) (k q:Nat) (m:List α):Prop where
 len:m.length=l.length
 kq:k<q
 ql:q<=l.length
 pre:m.take k=(l.take q).filter fun x=>!p x
 high:∀j,q<=j->m.getD j default=l.getD j default
theorem DfI.start {k:Nat} (hk:k<l.length) (h1:p (l.getD k default)=true) (h:∀j,j<k->p (l.getD j default)=false):DfI p l k (k+1) l :=
 ⟨rfl,by omega,hk,by rw[aj hk,buo,yf bww h];simp only[buy,h1,bwm,bw8,buv,if_false,btu],fun _ _=>rfl⟩
theorem DfI.skip {k q:Nat} {m:List α} (h:DfI p l k q m) (hq:q<l.length) (hp:p (m.getD q default)=true):DfI p l k (q+1) m:=by
 rw[h.high q (bsw _)]at hp;exact⟨h.len,by have:=h.kq;omega,hq,by rw[aj hq,buo,<- h.pre];simp only[buy,hp,bwm,bw8,buv,if_false,btu],fun j hj=>h.high j bww⟩
theorem DfI.keep {k q:Nat} {m:List α} (h:DfI p l k q m) (hq:q<l.length) (hp:p (m.getD q default)=false):DfI p l (k+1) (q+1) (m.set k (m.getD q default)):=by
 have e:=h.high q (bsw _);rw[e]at hp ⊢;have hk:=h.kq;have hl:=h.len;refine⟨by simp[hl],by omega,hq, ?_,fun j hj=>by rw[getD_set_ne' bww];exact h.high j bww⟩;rw[aj (by simp[hl];omega),l3 bww,aj hq,buo,<- h.pre];simp only[buy,hp,bws,if_true,bw8];congr 1;rw[List.take_set,bwg bxc]
end
section
variable {p:AS->Bool}{l:List AS}
def bdl (h:∀j,j<l.length->p (l.getD j default)=false):CoP (.sl l.length 1 false (lf sC l)) (asl (l.filter fun x=>!p x)):=by
 have:=yf (bsw l.length) h;rw[bt6]at this;rw[this];exact CoP.refl _
def b9w {m:List AS} {k q n a d:Nat} {cl:Bool} {z:List Value} (hC:DfI p l k q m) (hq:¬q<l.length) (ha:k<=a):CoP (.sl (dv (b7 n (some (k:Int))) none) 1 cl (nj (o5 (lf sC m) a d z) none)) (asl (l.filter fun x=>!p x)):=by
 have e:=hC.pre;have h1:=hC.ql;have h2:=hC.len;have h3:=hC.kq;rw[show q=l.length by omega,bt6]at e;have el:(l.filter fun x=>!p x).length=k:=by rw[<- e];simp;omega
 exact aae (by rw[el];rfl) rfl bww (by rw[el,e])
end
instance:DecidableEq Fd:=fun a b=>decidable_of_iff (a.lhs=b.lhs/\a.rhs=b.rhs) Fd.eq_iff.symm
end
section
open Go.Proofs
def aph:goodFn bxn 59:=wgx Tryz.func59
def agk(n:Nat)(c:Bool)(f:Nat->Nat->PV)(hn:n<=35184372088832) :
 d9 bxn 59 [.one (.p (.sl n 1 c f))] [] (.v (.one (.ref 0 n))) [(0, .arr true 1 50 n f)] []:=by
 refine hfx (nt:=8) Tryz.func59 ?_;refine sx7 ?_;refine c7 true rfl rfl rfl rfl rfl trivial ?_;refine cj ?_;refine ze (ι:=Bool) (fun c=>⟨[(0,some (bp (.sl n 1 c f)))],[]⟩) (fun _=>True) ?_ fun c _=>?_
 · rcases buc n with hz|h0
   · subst hz
     refine hw_exact' 0 rfl fun ad cap hcap=>?_;refine sx7 ?_;(iterate 2 refine c7 true rfl rfl rfl rfl rfl trivial ?_);refine cj ?_;refine al ad.isNone rfl ?_ ?_<;>intro hc
     · refine sx7 ?_
       refine c7 true rfl rfl rfl rfl rfl trivial ?_;refine cj ?_;refine d4 2 0 true 1 50 f bx3 rfl (CoP.sl rfl (.inr rfl) (fun h=>h) fun i j hi _=>absurd hi (bt1 i)) (.inr rfl) rfl ?_;refine hrr ?_;exact⟨_,_,rfl,trivial,CoR.refl _,uu⟩
     refine dn ?_;exact⟨false,trivial,⟨⟨_,rfl,CoP.raw_sl hcap⟩,trivial⟩,trivial⟩
   refine sx7 ?_;refine c7 true rfl rfl rfl rfl rfl trivial ?_;refine c7 true rfl rfl rfl rfl rfl h0 ?_;refine cj ?_;refine al false rfl (fun hc=>by cases hc) (fun hc=>?_);refine dn ?_;exact⟨c,trivial,tt,trivial⟩
 refine sx7 ?_;refine wu 0 rfl rfl rfl rfl rfl rfl trivial ?_;refine c7 true rfl rfl rfl rfl rfl trivial ?_;refine zp 0 true rfl rfl rfl rfl rfl rfl ⟨trivial,rfl,rfl,rfl, .inl rfl,by show 0+n<=9223372036854775807;omega,by show(0+n)*4<=140737488355328;omega,fun _=>.inl rfl⟩ ?_;refine c7 true rfl rfl rfl rfl rfl trivial ?_;refine cj ?_;refine hrr ?_;refine⟨_,_,rfl,trivial,CoR.of_eq (by show HR.v (.one (.ref 0 (0+n)))=_;rw[btk]),⟨⟨_,rfl, ?_⟩,trivial⟩⟩;exact⟨fun h=>h,rfl,rfl,(btk n).symm,fun i j _ _=>CoP.of_eq (by simp[ep])⟩
def bof(l:List Fd)(g k:Nat)(caps:Nat->PV)(V:Fd->Bool)(hg:goodFn bxn g)(hV:∀x,a6 bxn g (x.pc::gq caps k 0) (ae [pB (V x)])):a6 bxn 64 [pP (fdl l),pP (.fn g k caps)] (ae [pI (idx V l)]):=by
 refine hpx (nt:=19) Tryz.func64 ?_;refine d5 ?_;refine cw 0 rfl fun hn=>?_;refine w_3 ?_;refine cg (ι:=Unit) kn km (fun _i=>⟨[],[]⟩) (fun _i=>idx V l=-1) ?_ ?_
 ·
  refine w_7 ?_;refine ai (ι:=Nat) (ka 0 (ka 1 (ka 7 kn))) km (fun i=>⟨[(8,some (vI i))],[]⟩) (fun i=>i<=l.length/\(∀j,j<i->V (l.getD j default)=false)) (fun i=>l.length-i) (0) (⟨bsx _,bv⟩) kk ?_;rintro i ⟨hi,hI⟩;refine w_5 ?_;refine hcd ?_ ?_<;>intro h0
  ·
   refine j5 ?_;refine rc rfl rfl rfl rfl rfl rfl hg (hV (l.getD i default)) (CoL.refl _) rfl rfl ?_;refine cj ?_;refine hcb ?_ ?_<;>intro h1
   · refine v_5 ?_;exact⟨cci (tn (i:=i) bww hI h1).symm,trivial⟩
   refine w_5 ?_;refine lpz (i+1) kk ?_;exact⟨by show i+1<=_;omega,bc hI (h1)⟩
  refine ck ?_;refine⟨(), ?_, ?_⟩
  · exact tj fun j hj=>hI j bww
  exact⟨trivial,trivial⟩
 rintro _ hj;refine v_4 ?_;exact⟨cci hj.symm,trivial⟩
def b8g(l:List AS)(g k:Nat)(caps:Nat->PV)(V:AS->Bool)(hg:goodFn bxn g)(hV:∀x,a6 bxn g (pA x::gq caps k 0) (ae [pB (V x)])):a6 bxn 124 [pP (asl l),pP (.fn g k caps)] (ae [pI (idx V l)]):=by
 refine hpx (nt:=19) Tryz.func124 ?_;refine d5 ?_;refine cw 0 rfl fun hn=>?_;refine w_3 ?_;refine cg (ι:=Unit) kn km (fun _i=>⟨[],[]⟩) (fun _i=>idx V l=-1) ?_ ?_
 ·
  refine w_7 ?_;refine ai (ι:=Nat) (ka 0 (ka 1 (ka 7 kn))) km (fun i=>⟨[(8,some (vI i))],[]⟩) (fun i=>i<=l.length/\(∀j,j<i->V (l.getD j default)=false)) (fun i=>l.length-i) (0) (⟨bsx _,bv⟩) kk ?_;rintro i ⟨hi,hI⟩;refine w_5 ?_;refine hcd ?_ ?_<;>intro h0
  ·
   refine j5 ?_;refine rc rfl rfl rfl rfl rfl rfl hg (hV (l.getD i default)) (CoL.refl _) rfl rfl ?_;refine cj ?_;refine hcb ?_ ?_<;>intro h1
   · refine v_5 ?_;exact⟨cci (tn (i:=i) bww hI h1).symm,trivial⟩
   refine w_5 ?_;refine lpz (i+1) kk ?_;exact⟨by show i+1<=_;omega,bc hI (h1)⟩
  refine ck ?_;refine⟨(), ?_, ?_⟩
  · exact tj fun j hj=>hI j bww
  exact⟨trivial,trivial⟩
 rintro _ hj;refine v_4 ?_;exact⟨cci hj.symm,trivial⟩
def boe (l:List Fd) (g k:Nat) (caps:Nat->PV) (V:Fd->Bool) (hg:goodFn bxn g) (hV:∀x,a6 bxn g (x.pc::gq caps k 0) (ae [pB (V x)])):a6 bxn 77 [pP (fdl l),pP (.fn g k caps)] (ae [pB (l.any V)]):=by
 refine hpx (nt:=9) Tryz.func77 ?_;refine w_8 ?_;refine qcx (wgx Tryz.func64) (bof l g k caps V hg hV) ?_;refine v_3 ?_;exact⟨ccb a0i,trivial⟩
def afl:goodFn bxn 67:=wgx Tryz.func67
def alc (l:List AS) (g k:Nat) (caps:Nat->PV) (V:AS->Bool) (hg:goodFn bxn g) (hV:∀x,a6 bxn g (pA x::gq caps k 0) (ae [pB (V x)])):a6 bxn 67 [pP (asl l),pP (.fn g k caps)] (ae [pB (l.any V)]):=by
 refine hpx (nt:=9) Tryz.func67 ?_;refine w_8 ?_;refine qcx (wgx Tryz.func124) (b8g l g k caps V hg hV) ?_;refine v_3 ?_;exact⟨ccb a0i,trivial⟩
def bq3(l:List Fd)(s:Fd):a6 bxn 253 [pP (fdl l),s.pc] (ae [pI (idx (fun x=>decide (x=s)) l)]):=by
 refine hpx (nt:=19) Tryz.func253 ?_;refine d5 ?_;refine cw 0 rfl fun hn=>?_;refine gy ?_;refine m9 0 ?_;refine w_2 ?_;refine cg (ι:=Unit) kn km (fun _i=>⟨[],[]⟩) (fun _i=>idx (fun x=>decide (x=s)) l=-1) ?_ ?_
 ·
  refine w_7 ?_;refine ai (ι:=Nat) (ka 0 (ka 3 (ka 7 kn))) (kb 0 km) (fun i=>⟨[(8,some (vI i))],[]⟩) (fun i=>i<=l.length/\(∀j,j<i->decide (l.getD j default=s)=false)) (fun i=>l.length-i) (0) (⟨bsx _,bv⟩) kk ?_;rintro i ⟨hi,hI⟩;refine w_5 ?_;refine hcd ?_ ?_<;>intro h0
  ·
   refine a4l ?_;refine hcb ?_ ?_<;>intro h1
   · refine v_5 ?_;exact⟨cci (tn (p:=fun x=>decide (x=s)) (i:=i) bww hI (decide_eq_true (by simp_all [Fd.eq_iff,df]))).symm,trivial⟩
   refine w_5 ?_;refine lpz (i+1) kk ?_;exact⟨by show i+1<=_;omega,bc hI (decide_eq_false fun e=>by subst e;simp_all)⟩
  refine ck ?_;refine⟨(), ?_, ?_⟩
  · exact tj (p:=fun x=>decide (x=s)) fun j hj=>hI j bww
  exact⟨trivial,trivial⟩
 rintro _ hj;refine v_4 ?_;exact⟨cci hj.symm,trivial⟩
def bon (l:List Fd) (s:Fd):a6 bxn 224 [pP (fdl l),s.pc] (ae [pB (l.any fun x=>decide (x=s))]):=by
 refine hpx (nt:=9) Tryz.func224 ?_;refine sx7 ?_;refine m9 0 ?_;refine w_6 ?_;refine qcx (wgx Tryz.func253) (bq3 _ _) ?_;refine v_3 ?_;exact⟨ccb a0i,trivial⟩
def bnq(l:List AS)(g k:Nat)(caps:Nat->PV)(V:AS->Bool)(hg:goodFn bxn g)(hV:∀x,a6 bxn g (pA x::gq caps k 0) (ae [pB (V x)])):d9 bxn 73 [.one (.ref 900 l.length), .one (.p (.fn g k caps))] [(900, .arr true 1 50 l.length (lf sC l))] (.v (.one (.p (asl (l.filter fun x=>!V x))))) [] []:=by
 refine hfx (nt:=42) Tryz.func73 ?_;refine d5 ?_;refine aa5 900 rfl fun hlen=>?_;refine w_7 ?_;refine qcx (wgx Tryz.func124) (b8g l g k caps V hg hV) ?_;refine w_8 ?_;refine hcd ?_ ?_<;>intro h0
 · refine w_5 ?_;refine bh 4 rfl rfl rfl ?_;refine hrr ?_;exact⟨_,_,rfl,bwy,bdl (ao0 bwx),trivial⟩
 obtain⟨i0,hi0,hi1,hi2,hi3⟩:=aq8 h0;refine w_9 ?_;refine ai (ι:=Nat×Nat×List AS) (ka 0 (ka 1 kn)) km (fun x=>⟨[(5,some (vI x.1)),(6,some (vI x.2.1))],[(900,some (.arr true 1 50 l.length (lf sC x.2.2)))]⟩) (fun x=>DfI V l x.1 x.2.1 x.2.2) (fun x=>l.length-x.2.1) ((i0,i0+1,l)) (DfI.start hi1 hi2 hi3) ⟨⟨⟨_,rfl,(coi hi0)⟩,⟨_,rfl,(coi (by dsimp only;omega))⟩,trivial⟩,uu⟩ ?_;rintro x hC;have hC0:=hC;obtain⟨hml,hkq,hql,_,_⟩:=hC0;refine w_8 ?_;refine hcd ?_ ?_<;>intro h1
 ·
  refine j5 ?_;refine rc rfl rfl rfl rfl rfl rfl hg (hV (x.2.2.getD (x.2.1:Int).toNat default)) (CoL.refl _) rfl rfl ?_;refine w_2 ?_;refine hcv ?_ ?_<;>intro h2
  ·
   have hv:=h2;refine a4l ?_
   first | (refine lpz (x.1+1, x.2.1+1, x.2.2.set x.1 (x.2.2.getD x.2.1 default)) ⟨⟨⟨_, rfl, (coi bx1)⟩, ⟨_, rfl, (coi bx1)⟩, tt⟩, ⟨⟨_, rfl, (pl id hml.symm bww bww bww)⟩, trivial⟩⟩ ?_; exact hC.keep bww (by simpa using hv))
         |(refine lpz (x.1,x.2.1+1,x.2.2) ⟨⟨⟨_,rfl,(coi bwz)⟩,⟨_,rfl,(coi bwz)⟩,tt⟩,uu⟩ ?_;exact hC.skip bww (by simpa using hv))
  have hv:=h2;refine w_6 ?_
  first | (refine lpz (x.1+1, x.2.1+1, x.2.2.set x.1 (x.2.2.getD x.2.1 default)) ⟨⟨⟨_, rfl, (coi bx1)⟩, ⟨_, rfl, (coi bx1)⟩, tt⟩, ⟨⟨_, rfl, (pl id hml.symm bww bww bww)⟩, trivial⟩⟩ ?_; exact hC.keep bww (by simpa using hv))
        |(refine lpz (x.1,x.2.1+1,x.2.2) ⟨⟨⟨_,rfl,(coi bwz)⟩,⟨_,rfl,(coi bwz)⟩,tt⟩,uu⟩ ?_;exact hC.skip bww (by simpa using hv))
 have hq:=h1;refine w_6 ?_;refine r9 0 true ?_;refine w_5 ?_;refine aii rfl rfl rfl rfl rfl ?_;refine w_2 ?_;refine hrr ?_;exact⟨_,_,rfl,bwy,b9w hC bww (by simp[b7]),trivial⟩
end
section
def bu(s:AS)(i:Int):Bool:=decide (0<=i/\i<32)&&s.getLsbD i.toNat
def c9 {s:AS} {i:Nat} (h:i<32):bu s i=s.getLsbD i:=by
 unfold bu;rw[decide_eq_true bww];simp
def al8{s:AS}{i:Int}(h0:0<=i)(h1:i<32):decide (ct .and .u32 ((asI s).fdiv (2^(min i.toNat 32))) 1=1)=bu s i:=by
 unfold bu;rw[a0f,show(1:Int)=asI 1 from rfl,kg,decide_eq_true (show 0<=i/\i<32 from ⟨h0,h1⟩),bv2]
 have e:asI (s>>>i.toNat&&&1)=asI 1<->s.getLsbD i.toNat=true:=by
  rw[df];constructor
  · intro h
    have:=congrArg (fun x:AS=>x.getLsbD 0) h;simpa using this
  intro h;apply bui;intro k hk;have h1:(1:AS).getLsbD k=decide (k=0):=by have:=vr 0 k hk;simpa using this
  rw[btm,bwa,h1];by_cases hk0:k=0
  · subst hk0;simp[h]
  simp[hk0]
 cases hb:s.getLsbD i.toNat with
 |true=>exact decide_eq_true (e.2 hb)
 |false=>exact decide_eq_false fun h=>by rw[e.1 h]at hb;cases hb
def a0n {s:AS} {i:Int} (h:¬(0<=i/\i<32)):bu s i=false:=by
 unfold bu;rw[decide_eq_false h];rfl
def ars {n:Nat} (h:n<=32):kc n=BitVec.ofNat 32 (2^n-1):=by
 apply bui;intro k hk;rw[mh n k hk,BitVec.getLsbD_ofNat,Nat.testBit_two_pow_sub_one];simp[hk]
def arw {n:Nat} (h:n<=32):(kc n).toNat=2^n-1:=by
 have h2:2^n<=2^32:=buu bww h;have h3:0<2^n:=Nat.two_pow_pos n;rw[ars h,BitVec.toNat_ofNat,bwt bww]
section
variable {n:Int}
def l4{l:List Fd}(h:cb n l=0):0<=n/\n<=16/\l.length<=64/\l.all (inU n)=true:=by
 unfold cb at h;split at h
 · cases h
 split at h
 · cases h
 split at h
 · rename_i h1 h2 h3
   exact⟨by omega,by omega,by omega,h3⟩
 cases h
def ph (h0:0<=n) (h1:n<=16):IntKind.wrap .u32 (1*2^(min n.toNat 32))-1=asI (aa n):=by
 have h2:2^n.toNat<=2^16:=buu bww bww;have h3:0<2^n.toNat:=Nat.two_pow_pos _;rw[show IntKind.wrap .u32 (1*2^(min n.toNat 32))=asI ((1:AS)<<<n.toNat) from a00 1 n.toNat];unfold aa asI;rw[btz bww,arw bww,BitVec.toNat_shiftLeft,Nat.shiftLeft_eq];rw[show(1:AS).toNat=1 from rfl,Nat.one_mul,bwt bww];omega
def b8u {s:AS} (h0:0<=n) (h1:n<=16):(asI s).fdiv (2^(min n.toNat 32))=0<->sub s (aa n):=by
 rw[a0f,show(0:Int)=asI 0 from rfl,df];unfold aa;rw[btz bww];exact(rp bww).symm
def qd(h0:0<=n)(h1:n<=16):0<=IntKind.wrap .u32 (1*2^(min n.toNat 32))-1:=by rw[ph h0 h1];exact t6 _
def o9(h0:0<=n)(h1:n<=16):IntKind.wrap .u32 (1*2^(min n.toNat 32))-1<=4294967295:=by rw[ph h0 h1];have:=a7y (aa n);omega
def b3c{a b:List AS}(h:a.length=b.length)(hI:∀j,j<a.length->decide (a.getD j default=b.getD j default)=true):a=b:=o8 h fun j hj=>of_decide_eq_true (hI j hj)
def b5d{a b:List Fd}(h:a.length=b.length)(hI:∀j,j<a.length->decide (a.getD j default=b.getD j default)=true):a=b:=o8 h fun j hj=>of_decide_eq_true (hI j hj)
def oz(n:Int)(l:List Fd)(s:AS):Bool:=decide (cb n l=0/\sub s (aa n)/\clo l s=aa n)
end
section
variable {n:Int}{l:List Fd}{s:AS}
def awy(h:¬cb n l=0):oz n l s=false:=decide_eq_false fun e=>h e.1
def b5v (h:cb n l=0) (h2:(asI s).fdiv (2^(min n.toNat 32))=0):decide (asI (clo l s)=asI (aa n))=oz n l s:=by
 have hv:=l4 h;have h3:=(b8u hv.1 hv.2.1).1 h2;exact decide_eq_decide.2 ⟨fun e=>⟨h,h3,df.1 e⟩,fun e=>congrArg asI e.2.2⟩
def aw5 (h:cb n l=0) (h2:¬(asI s).fdiv (2^(min n.toNat 32))=0):oz n l s=false:=by
 have hv:=l4 h;exact decide_eq_false fun e=>h2 ((b8u hv.1 hv.2.1).2 e.2.1)
end
def abr(n:Int)(l:List Fd)(m:Int):Int:=if cb n l=0 then(if m<n then 3 else 0)else cb n l
structure Dp where
 l:BitVec 8
 r:BitVec 8
deriving Inhabited
def Dp.c (d:Dp):Nat->PV
 |0=>.raw (.int .u8 (d.l.toNat:Int))
 |1=>.raw (.int .u8 (d.r.toNat:Int))
 |_=>.any
abbrev dpl(l:List Dp):PV:=psl 2 Dp.c l
def Dp.fd(n:Int)(d:Dp):Fd:=⟨d.l.setWidth 32&&&aa n,d.r.setWidth 32&&&aa n⟩
def ayf (b:BitVec 8) (t:AS):ct .and .u32 (b.toNat:Int) (asI t)=asI (b.setWidth 32&&&t):=by
 have h:=b.isLt
 have e:asI (b.setWidth 32)=(b.toNat:Int):=by
  unfold asI;rw[BitVec.toNat_setWidth,bwt bww]
 rw[<- kg,e]
end
section
open Go.Proofs
def bq9(s:AS)(i:Int):a6 bxn 167 [pA s,pI i] (ae [pB (bu s i)]):=by
 refine hpx (nt:=18) Tryz.func167 ?_;refine w_9 ?_;refine ak rfl rfl ?_ ?_<;>intro r0
 ·
  have h0:=tz1 r0;(iterate 2 refine qy ?_ (hg:=(gtt r0)));refine w_2 ?_;refine ak rfl rfl ?_ ?_<;>intro r1
  ·
   have h1:=tz1 (c5 r0 r1);(iterate 5 refine qy ?_ (hg:=(gtt r1)));refine w_3 ?_
   exact hx8 rfl rfl rfl (⟨ccb (by first|exact t8 bwx (al8 bww bww)|exact(a0n bww).symm),trivial⟩)
  have h1:=tz2 (c5 r0 r1);(iterate 5 refine k9 (gft r1) ?_);refine w_3 ?_
  exact hx8 rfl rfl rfl (⟨ccb (by first|exact t8 bwx (al8 bww bww)|exact(a0n bww).symm),trivial⟩)
 have h0:=tz2 r0;(iterate 2 refine k9 (gft r0) ?_);refine w_2 ?_;(iterate 5 refine k9 rfl ?_);refine w_3 ?_
 exact hx8 rfl rfl rfl (⟨ccb (by first|exact t8 bwx (al8 bww bww)|exact(a0n bww).symm),trivial⟩)
def bkm (n:Int) (h0:0<=n) (h1:n<=16):a6 bxn 90 [pI n] (ae [pA (aa n)]):=by
 refine hpx (nt:=6) Tryz.func90 ?_;refine w_8 ?_;refine rq rfl rfl rfl rfl rfl ?_ (hp:=⟨qd h0 h1,o9 h0 h1⟩);refine v_2 ?_;exact⟨cci (ph h0 h1),trivial⟩
def bis (n:Int) (h0:0<=n) (h1:n<=16):a6 bxn 40 [pI n] (ae [pA (aa n)]):=by
 refine hpx (nt:=6) Tryz.func40 ?_;refine w_8 ?_;refine rq rfl rfl rfl rfl rfl ?_ (hp:=⟨qd h0 h1,o9 h0 h1⟩);refine v_2 ?_;exact⟨cci (ph h0 h1),trivial⟩
def amd:goodFn bxn 38:=wgx Tryz.func38
def aw9(n:Int)(l:List Fd)(s:AS):a6 bxn 38 [pI n,pP (fdl l),pA s] (ae [pB (oz n l s)]):=by
 refine hpx (nt:=25) Tryz.func38 ?_;refine w_8 ?_;refine qcx a2y (a8f n l) ?_;refine w_2 ?_;refine ak rfl rfl ?_ ?_<;>intro r0
 ·
  have h0:=tz1 r0;obtain⟨hv0,hv1,_,_⟩:=l4 h0;(iterate 4 refine qy ?_ (hg:=(gtt r0)));refine w_2 ?_;refine ak rfl rfl ?_ ?_<;>intro r1
  ·
   have h1:=tz1 (c5 r0 r1);(iterate 2 refine qy ?_ (hg:=(gtt r1)));refine qcx (wgx Tryz.func76) (azy l s) ?_ (hg:=(gtt r1));refine qy ?_ (hg:=(gtt r1))
   refine qcx (wgx Tryz.func90) (bkm n (l4 bwx).1 (l4 bwx).2.1) ?_ (hg:=(gtt r1));refine qy ?_ (hg:=(gtt r1));refine v_3 ?_;exact⟨ccb (by first|exact t8 bwx (b5v bwx bwx)|exact(awy bwx).symm|exact(aw5 bwx bwx).symm),trivial⟩
  have h1:=tz2 (c5 r0 r1);(iterate 6 refine k9 (gft r1) ?_);refine w_3 ?_
  exact hx8 rfl rfl rfl (⟨ccb (by first|exact t8 bwx (b5v bwx bwx)|exact(awy bwx).symm|exact(aw5 bwx bwx).symm),trivial⟩)
 have h0:=tz2 r0;(iterate 4 refine k9 (gft r0) ?_);refine w_2 ?_;(iterate 6 refine k9 rfl ?_);refine w_3 ?_
 exact hx8 rfl rfl rfl (⟨ccb (by first|exact t8 bwx (b5v bwx bwx)|exact(awy bwx).symm|exact(aw5 bwx bwx).symm),trivial⟩)
def bg1(a b:List AS):a6 bxn 33 [pP (asl a),pP (asl b)] (ae [pB (decide (a=b))]):=by
 refine hpx (nt:=26) Tryz.func33 ?_;refine d5 ?_;refine cw 0 rfl fun hn=>?_;refine fh ?_;refine hcn ?_ ?_<;>intro h0
 · refine v_4 ?_;exact⟨ccb (decide_eq_false fun e=>by subst e;omega).symm,trivial⟩
 refine dn ?_;refine cg (ι:=Unit) kn km (fun _i=>⟨[],[]⟩) (fun _i=>a=b) ?_ ?_
 ·
  refine w_5 ?_;refine ai (ι:=Nat) (ka 0 (ka 1 kn)) km (fun i=>⟨[(5,some (vI i))],[]⟩) (fun i=>i<=a.length/\(∀j,j<i->decide (a.getD j default=b.getD j default)=true)) (fun i=>a.length-i) (0) (⟨bsx _,bv⟩) kk ?_;rintro i ⟨hi,hI⟩;refine w_8 ?_;refine hcd ?_ ?_<;>intro h1
  ·
   refine ov ?_;refine hcn ?_ ?_<;>intro h2
   · refine v_4 ?_;exact⟨ccb (decide_eq_false fun e=>by subst e;simp_all).symm,trivial⟩
   refine w_6 ?_;refine lpz (i+1) kk ?_;exact⟨by show i+1<=_;omega,bc hI (decide_eq_true (df.1 h2))⟩
  refine ck ?_;refine⟨(), ?_, ?_⟩
  · exact b3c bww fun j hj=>hI j bww
  exact⟨trivial,trivial⟩
 rintro _ hj;refine v_4 ?_;exact⟨ccb (decide_eq_true hj).symm,trivial⟩
end
section
def bsz(s:AS):Nat:=(List.range 32).countP fun i=>s.getLsbD i
def bef(a b:AS):Bool:=decide (bsz a<bsz b)||(decide (bsz a=bsz b)&&decide (a.toNat<b.toNat))
def a3w(a:AS):bef a a=false:=by simp[bef]
def ui{a b:AS}:bef a b=true<->bsz a<bsz b\/(bsz a=bsz b/\a.toNat<b.toNat):=by simp[bef]
def a1v {a b c:AS} (h:bef a b=true) (k:bef b c=true):bef a c=true:=by
 rw[ui]at *;omega
def agz {a b:AS} (h:a≠b):bef a b=true\/bef b a=true:=by
 have hn:a.toNat≠b.toNat:=fun e=>h (bug e);rw[ui,ui];omega
def b3z {a b:AS} (h:bef a b=true):bef b a=false:=by
 rw[btb];intro k;have:=a1v h k;rw[a3w]at this;cases this
def y4(l:List AS):Prop:=l.Pairwise fun a b=>bef a b=true
def a2i:∀{l k:List AS},y4 l->y4 k->(∀x,x∈l<->x∈k)->l=k
 | [],[],_,_,_=>rfl
 | [],y::k,_,_,h=>absurd ((h y).2 (bu5 ..)) bx0
 |x::l,[],_,_,h=>absurd ((h x).1 (bu5 ..)) bx0
 | x :: l,y::k,hl,hk,h=>by
  obtain⟨h1,h2⟩:=bty.1 hl;obtain⟨k1,k2⟩:=bty.1 hk
  have e:x=y:=by
   rcases bt7.1 ((h x).1 (bu5 ..))with e|hx
   · exact e
   rcases bt7.1 ((h y).2 (bu5 ..))with e|hy
   · exact e.symm
   have:=b3z (k1 x hx);rw[h1 y hy]at this;cases this
  subst e;congr 1;refine a2i h2 k2 fun z=>?_;constructor
  · intro hz
    rcases bt7.1 ((h z).1 (btp _ hz))with e|hz'
    · subst e
      have:=h1 z hz;rw[a3w]at this;cases this
    exact hz'
  intro hz
  rcases bt7.1 ((h z).2 (btp _ hz))with e|hz'
  · subst e
    have:=k1 z hz;rw[a3w]at this;cases this
  exact hz'
def pw (x:AS):List AS->List AS
 | []=>[x]
 |y::l=>if x=y then y::l else if bef x y=true then x::y::l else y::pw x l
def abq{x z:AS}:∀{l:List AS},z∈pw x l<->z=x\/z∈l
 | []=>by simp[pw]
 | y :: l=>by
  unfold pw;split
  · rename_i e
    subst e;simp
  split
  · simp
  rw[bt7,abq,bt7];constructor
  · rintro(h|h|h)<;>simp[h]
  rintro(h|h|h)<;>simp[h]
def aj8{x:AS}:∀{l:List AS},y4 l->y4 (pw x l)
 | [],_=>by simp[pw,y4]
 | y :: l,h=>by
  obtain⟨h1,h2⟩:=bty.1 h;unfold pw;split
  · exact h
  split
  · rename_i hxy
    refine bty.2 ⟨fun z hz=>?_,h⟩
    rcases bt7.1 hz with rfl|hz
    · exact hxy
    exact a1v hxy (h1 z hz)
  rename_i hne hxy;refine bty.2 ⟨fun z hz=>?_,aj8 h2⟩
  rcases abq.1 hz with rfl|hz
  · exact(agz hne).resolve_left hxy
  exact h1 z hz
def ord(l:List AS):List AS:=l.foldl (fun o x=>pw x o) []
def agp:∀{l o:List AS},y4 o->y4 (l.foldl (fun o x=>pw x o) o)/\∀z,z∈l.foldl (fun o x=>pw x o) o<->z∈o\/z∈l
 | [],o,h=>⟨h,fun z=>by simp⟩
 | x::l,o,h=>by
  obtain⟨h1,h2⟩:=agp (l:=l) (aj8 (x:=x) h);refine⟨h1,fun z=>?_⟩;show z∈l.foldl (fun o x=>pw x o) (pw x o)<->_;rw[h2 z,abq,bt7];constructor
  · rintro((h|h)|h)<;>simp[h]
  rintro(h|h|h)<;>simp[h]
def a0k(l:List AS):y4 (ord l):=(agp (o:=[]) List.Pairwise.nil).1
def o3 {l:List AS} {z:AS}:z∈ord l<->z∈l:=by
 show z∈l.foldl (fun o x=>pw x o) []<->_;rw[(agp (l:=l) (o:=[]) List.Pairwise.nil).2 z];simp
def b1d{l k:List AS}(hk:y4 k)(h:∀z,z∈k<->z∈l):k=ord l:=a2i hk (a0k l) fun z=>by rw[h z,o3]
end
section
def am(s:AS):List Nat:=(List.range 32).filter fun i=>s.getLsbD i
def iC:Nat->Nat->PV:=fun n _=>.raw (.int .i64 (n:Int))
abbrev il(l:List Nat):PV:=psl 1 iC l
def a1s(s:AS):bsz s=(am s).length:=by unfold bsz am;rw[List.countP_eq_length_filter]
section
variable {s:AS}
def oc{i:Nat}:i∈am s<->i<32/\s.getLsbD i=true:=by simp[am,bul,btj]
def a6u{p:Nat->Bool}{t:Nat}:∀{l:List Nat},l.Pairwise (·<·)->t∈l->p t=true->(∀k,k<t->p k=false)->l.filter p=t::l.filter fun k=>decide (k≠t)&&p k
 | [],_,h,_,_=>by cases h
 | a :: l,hp,hm,h1,h2=>by
  obtain⟨q1,q2⟩:=bty.1 hp;by_cases ha:a=t
  · subst ha
    have e:l.filter p=l.filter fun k=>decide (k≠a)&&p k:=by
     apply List.filter_congr;intro k hk;have:=q1 k hk;rw[decide_eq_true bww,bv2]
    simp[buy,h1,e]
  have hm':t∈l:=by
   rcases bt7.1 hm with h|h
   · exact absurd h.symm ha
   exact h
  have:=q1 t hm';have hpa:=h2 a this;simp[buy,hpa,a6u q2 hm' h1 h2]
def qe(s:AS):Nat:=Lib.ctz 32 s.toNat
def b54 (h:s≠0):∃m,s.toNat=2^(qe s+1)*m+2^qe s/\qe s<32:=by
 have h0:s.toNat≠0:=fun e=>h (bug e);obtain⟨m,h1,h2⟩:=Lib.ctzFrom_spec 32 s.toNat bww s.isLt;have e:qe s=Lib.ctzFrom 32 s.toNat:=by unfold qe Lib.ctz;rw[if_neg h0]
 rw[e];refine⟨m, ?_,h2⟩;rw[Nat.pow_succ];rw[h1]at *;simp only[Nat.mul_add,Nat.mul_assoc,bvs]at *;exact h1
def a9c(h:s≠0):qe s<32/\s.getLsbD (qe s)=true/\(∀k,k<qe s->s.getLsbD k=false)/\s&&&(s-1)=s&&&~~~((1:AS)<<<qe s):=by
 obtain⟨m,h1,h2⟩:=b54 h;generalize qe s=t at *;have hp:2^t<2^(t+1):=Nat.pow_lt_pow_right bww bww
 have hb:∀k,s.getLsbD k=if k<t+1 then(2^t).testBit k else m.testBit (k-(t+1)):=fun k=>by
  show s.toNat.testBit k=_;rw[h1,Nat.testBit_two_pow_mul_add _ hp]
 have hq:0<2^t:=Nat.two_pow_pos t
 have e1:(s-1).toNat=2^(t+1)*m+(2^t-1):=by
  have:=s.isLt;rw[BitVec.toNat_sub];show(2^32-1+s.toNat)%2^32=_;omega
 have hd:∀k,(s-1).getLsbD k=if k<t+1 then(2^t-1).testBit k else m.testBit (k-(t+1)):=fun k=>by
  show(s-1).toNat.testBit k=_;rw[e1,Nat.testBit_two_pow_mul_add _ bww]
 refine⟨h2, ?_,fun k hk=>?_, ?_⟩
 · rw[hb,if_pos bww,Nat.testBit_two_pow_self]
 · rw [hb,if_pos bww,Nat.testBit_two_pow]
   simp;omega
 apply bui;intro k hk;rw[btm,btm,bw5,vr _ _ hk,hd k,hb k];by_cases h3:k<t+1
 · rw [if_pos h3,if_pos h3,Nat.testBit_two_pow,Nat.testBit_two_pow_sub_one]
   by_cases h4:k=t
   · subst h4;simp
   have:¬t=k:=fun e=>h4 e.symm;simp[this]
 rw[if_neg h3,if_neg h3];have:¬k=t:=by omega
 simp[hk,this]
def a6p (h:s≠0) (k:Nat) (hk:k<32):(s&&&(s-1)).getLsbD k=(decide (k≠qe s)&&s.getLsbD k):=by
 rw[(a9c h).2.2.2,btm,bw5,vr _ _ hk];by_cases e:k=qe s<;>simp[e,hk,Bool.and_comm]
def ayo (h:s≠0):am s=qe s::am (s&&&(s-1)):=by
 obtain⟨h1,h2,h3,_⟩:=a9c h;unfold am;rw[a6u List.pairwise_lt_range (btj.2 h1) h2 h3];congr 1;apply List.filter_congr;intro k hk;rw[a6p h k (btj.1 hk)]
def awm:am 0=[]:=by
 unfold am;rw[List.filter_eq_nil_iff];intro k _;simp
def am0(h:s≠0):(s&&&(s-1)).toNat<s.toNat:=by
 refine xw (cz.2 fun i hi hb=>?_) fun e=>?_
 · rw [a6p h i hi]at hb
   simp only[bt5]at hb;exact hb.2
 have:=a6p h (qe s) (a9c h).1;rw[e,(a9c h).2.1]at this;simp at this
end
end
end Go.Hx
