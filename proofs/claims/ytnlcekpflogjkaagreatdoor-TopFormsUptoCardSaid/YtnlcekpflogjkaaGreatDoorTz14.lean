/- A part of the proof: Cl1 V3 Cl2 V4 Cs5 V5 Cs2 Cs6. -/
import Derived.Lib.TrailingZeros
import Derived.Test.YtnlcekpflogjkaaGreatDoorTz13
set_option linter.all false
set_option maxRecDepth 100000
set_option maxHeartbeats 1000000
namespace Go.Hx
section
variable {α:Type}
def aj [Inhabited α] {l:List α} {q:Nat} (hq:q<l.length):l.take (q+1)=l.take q++[l.getD q default]:=by
 rw[List.take_add_one,bt0 hq];simp[List.getD,hq]
def axm [Inhabited α] {l:List α} {q:Nat} (h0:0<q) (hq:q<=l.length):(l.take q).getLast? = some (l.getD (q-1) default):=by
 obtain⟨k,rfl⟩:∃k,q=k+1:=⟨q-1,by omega⟩;rw[aj bx5,List.getLast?_append];simp
section
variable [DecidableEq α]
def mi:Option α->List α->List α
 |_,[]=>[]
 |p,x::l=>if p=some x then mi p l else x::mi (some x) l
def ja(l:List α):List α:=mi none l
def a4d(p:Option α)(l:List α):Option α:=match l.getLast? with|some y=>some y|none=>p
def ar9 (p:Option α) (y:α) (l:List α):a4d p (y::l)=a4d (some y) l:=by
 unfold a4d
 cases l with
 |nil=>rfl
 |cons z l=>simp[List.getLast?_cons]
def a8p(x:α):∀(l:List α) (p:Option α),mi p (l++[x])=mi p l++(if a4d p l=some x then[] else[x])
 | [],p=>by
  unfold a4d;simp only[bwy,mi,List.getLast?_nil];by_cases h:p=some x<;>simp[h]
 | y :: l,p=>by
  rw[ar9];simp only[bvj,mi];split
  · rename_i h
    rw[a8p x l p,h]
  rw[a8p x l (some y)];rfl
def lx [Inhabited α] {l:List α} {q:Nat} (h0:0<q) (hq:q<l.length):ja (l.take (q+1))=ja (l.take q)++(if l.getD (q-1) default=l.getD q default then[] else[l.getD q default]):=by
 unfold ja;rw[aj hq,a8p];unfold a4d;rw[axm h0 bx5];simp
def uc [Inhabited α] {l:List α}:∀{k:Nat},k<=l.length->(∀j,0<j->j<k->¬l.getD j default=l.getD (j-1) default)->ja (l.take k)=l.take k
 |0,_,_=>rfl
 | 1,hk,_=>by
  rw[aj bx5];simp[ja,mi]
 | k+2,hk,h=>by
  rw[lx bx5 bx5,uc bx5 (fun j h1 h2=>h j h1 bx5),if_neg (fun e=>h (k+1) bx5 bx5 e.symm),<- aj bx5]
def ade:∀(l:List α) (p:Option α),∀x∈mi p l,x∈l
 | [],_,x,h=>by simp[mi]at h
 | y::l,p,x,h=>by
  simp only[mi]at h;split at h
  · exact bub _ (ade l p x h)
  rcases btd.1 h with rfl|h
  · exact buc
  exact bub _ (ade l _ x h)
def ad6:∀(l:List α) (p:Option α),∀x∈l,p=some x\/x∈mi p l
 | y :: l,p,x,h=>by
  simp only[mi];split
  · rename_i hp
    rcases btd.1 h with rfl|h
    · exact .inl hp
    exact ad6 l p x h
  rcases btd.1 h with rfl|h
  · exact .inr buc
  rcases ad6 l (some y) x h with h|h
  · simp only [bsy]at h
    subst h;exact .inr buc
  exact .inr (bub _ h)
def apx {l:List α} {x:α}:x∈ja l<->x∈l:=⟨ade l none x,fun h=>by
 rcases ad6 l none x h with h|h
 · cases h
 exact h⟩
end
section
variable [Inhabited α]
section
variable {l:List α}
def nk{p:Nat}{v:α}(hp:p<l.length):(l.set p v).getD p default=v:=by simp[List.getD,hp]
def getD_set_ne' {p j:Nat} {v:α} (h:j≠p):(l.set p v).getD j default=l.getD j default:=by
 simp only[List.getD,List.getElem?_set_ne (Ne.symm h)]
variable {c:α->Nat->PV}
def vb{wr wr':Bool}{n p k:Nat}{e:TypeId}{v:α}{x:PV}(hw:wr'=true->wr=true)(hn:n=l.length)(hp:k=p)(hk:p<l.length)(hx:x=c v 0):
 CoO (.arr wr 1 e n (fz (lf c l) k 0 [x])) (.arr wr' 1 e n (lf c (l.set p v))):=by
 subst hp hx hn;refine⟨hw,rfl,rfl,rfl,fun i j hi hj=>CoP.of_eq ?_⟩;obtain rfl:j=0:=by omega
 unfold fz lf;by_cases h:i=k
 · subst h
   rw[if_pos ⟨rfl,by omega,by simp⟩,nk hk];rfl
 rw[if_neg bx5,getD_set_ne' h]
def po {wr wr':Bool} {n p k q d:Nat} {e:TypeId} {l':List α} (hw:wr'=true->wr=true) (hn:n=l.length) (hp:k=p) (hk:p<l.length) (hd:d=q):
 CoO (.arr wr 1 e n (fz (lf c l) k 0 [lf c l' d 0])) (.arr wr' 1 e n (lf c (l.set p (l'.getD q default)))):=vb hw hn hp hk (by rw[hd];rfl)
def aa5 {n m a:Nat} {cl:Bool} {l':List α} {z:List Value} {p:Option Int} {h:Option Int} (hn:iu (bv n h) p=l'.length) (hp:p=none) (ha:l'.length<=a) (hl:l'=l.take l'.length):
 CoP (.sl (iu (bv n h) p) 1 cl (sm (ow (lf c l) a m z) p)) (psl 1 c l'):=by
 subst hp;refine CoP.sl hn.symm (.inl rfl) (fun h=>by cases h) fun i j hi hj=>CoP.of_eq ?_;rw[hn]at hi;show ow (lf c l) a m z i j=lf c l' i j;unfold ow;rw[if_neg bx5];simp only[lf,List.getD];have e:l'[i]? = l[i]?:=by rw[hl,bug,if_pos hi]
 rw[e]
end
end
abbrev sC:AS->Nat->PV:=fun s _=>asC s
structure CpI (l:List AS) (k p q:Nat) (m:List AS):Prop where
 len:m.length=l.length
 kq:k<q
 pq:p<q
 ql:q<=l.length
 pre:m.take p=ja (l.take q)
 high:∀j,q-1<=j->m.getD j default=l.getD j default
section
variable {k:Nat}{l:List AS}
theorem CpI.start (h1:1<=k) (hk:k<l.length) (h:∀j,0<j->j<k->¬l.getD j default=l.getD (j-1) default) (hd:l.getD k default=l.getD (k-1) default):CpI l k k (k+1) l :=
 ⟨rfl,by omega,by omega,by omega,by rw[lx bx5 hk,if_pos hd.symm,btq,uc bx5 h],fun _ _=>rfl⟩
theorem CpI.skip {p q:Nat} {m:List AS} (h:CpI l k p q m) (hq:q<l.length) (he:m.getD q default=m.getD (q-1) default):CpI l k p (q+1) m:=by
 have hk:=h.kq;refine⟨h.len,by omega,by have:=h.pq;omega,hq, ?_,fun j hj=>h.high j bx5⟩;rw[h.high q bx5,h.high (q-1) bx5]at he;rw[lx bx5 hq,if_pos he.symm,btq,h.pre]
theorem CpI.keep {p q:Nat} {m:List AS} (h:CpI l k p q m) (hq:q<l.length) (he:¬m.getD q default=m.getD (q-1) default):CpI l k (p+1) (q+1) (m.set p (m.getD q default)):=by
 have hk:=h.kq;have hp:=h.pq;have hl:=h.len;refine⟨by simp[hl],by omega,by omega,hq, ?_,fun j hj=>by rw[getD_set_ne' bx5];exact h.high j bx5⟩;have e:=h.high q bx5;rw[e,h.high (q-1) bx5]at he;rw[lx bx5 hq,if_neg (fun e=>he e.symm),<- h.pre,aj (by simp[hl];omega),nk bx5,e];congr 1;rw[List.take_set,bve bxi]
def zu{a b a' b':Nat}(h:asI (l.getD a' default)=asI (l.getD b' default))(ha:a'=a)(hb:b'=b):l.getD a default=l.getD b default:=by subst ha hb;exact cb.1 h
def a0a{a b a' b':Nat}(h:¬asI (l.getD a' default)=asI (l.getD b' default))(ha:a'=a)(hb:b'=b):¬l.getD a default=l.getD b default:=by subst ha hb;exact fun e=>h (congrArg asI e)
def atl (hk:l.length<=k) (h:∀j,0<j->j<k->¬l.getD j default=l.getD (j-1) default):CoP (.sl l.length 1 false (lf sC l)) (asl (ja l)):=by
 have:=uc (bt2 l.length) fun j h1 h2=>h j h1 bx5;rw[btb]at this;rw[this];exact CoP.refl _
def b9g {m:List AS} {p q n a d:Nat} {cl:Bool} {z:List Value} (hC:CpI l k p q m) (hq:¬q<l.length) (ha:p<=a):CoP (.sl (iu (bv n (some (p:Int))) none) 1 cl (sm (ow (lf sC m) a d z) none)) (asl (ja l)):=by
 have e:=hC.pre;have h1:=hC.ql;have h2:=hC.len;have h3:=hC.pq;rw[show q=l.length by omega,btb]at e;have el:(ja l).length=p:=by rw[<- e];simp;omega
 exact aa5 (by rw[el];rfl) rfl bx5 (by rw[el,e])
end
end
section
open Go.Proofs
section
variable {p:Prop}
def bx7(h:p:=by(repeat' apply And.intro)<;>first|trivial|exact bt4 rfl):p:=h
def bx9(h:p:=by first|rfl|(dsimp only;omega)):p:=h
def bxb(h:p:=by first|rfl|(dsimp only;omega)):p:=h
def bxe(h:p:=by simp only[bv]; omega):p:=h
def bxh(h:p:=by simp only[bv];omega):p:=h
def b6i(l:List AS):dv bxr 171 [.one (.ref 900 l.length)] [(900, .arr true 1 50 l.length (lf sC l))] (.v (.one (.p (asl (ja l))))) [] []:=by
 refine hfx (nt:=61) Tryz.func171 ?_;refine dt ?_;refine a9d 900 rfl fun hlen=>?_;refine cr ?_;refine hcd ?_ ?_<;>intro h0
 · refine w_5 ?_;refine bj 2 rfl rfl rfl ?_;refine hrr ?_;exact⟨_,_,rfl,bx7,atl (k:=l.length) (bt2 _) (fun j h1 h2=>by omega),trivial⟩
 refine w_7 ?_;refine am (ι:=Nat) (ka 0 kn) (kb 900 km) (fun k=>⟨[(3,some (vI k))],[]⟩) (fun k=>1<=k/\k<=l.length/\∀j,0<j->j<k->¬l.getD j default=l.getD (j-1) default) (fun k=>l.length-k) (1) (⟨bt2 _,by omega,fun j h1 h2=>by omega⟩) kk ?_;rintro k ⟨hk1,hk,hI⟩;refine w_8 ?_;refine hcd ?_ ?_<;>intro h1
 ·
  refine a2y ?_;refine hcd ?_ ?_<;>intro h2
  ·
   refine mq ?_;refine am (ι:=Nat×Nat×List AS) (ka 0 (ka 4 kn)) km (fun x=>⟨[(3,some (vI x.1)),(5,some (vI ((x.2.1:Int)-k)))],[(900,some (.arr true 1 50 l.length (lf sC x.2.2)))]⟩) (fun x=>CpI l k x.1 x.2.1 x.2.2) (fun x=>l.length-x.2.1) ((k,k+1,l)) (CpI.start hk1 bx5 hI (zu bx6 rfl bx5)) ⟨⟨zy,⟨_,rfl,(coi bx9)⟩,trivial⟩,uu⟩ ?_;rintro⟨p,q,m⟩ hC;have hC0:=hC;obtain⟨hml,hkq,hpq,hql,_,_⟩:=hC0;dsimp only at hC hml hkq hpq hql;refine w_8 ?_;refine hcd ?_ ?_<;>intro h3
   ·
    simp only[iu,bv,btc]at h3;refine a2y ?_;refine hcn ?_ ?_<;>intro h4
    ·
     refine am9 ?_
     first | (refine lpz (p+1, q+1, m.set p (m.getD q default)) ⟨⟨⟨_, rfl, (coi bxb)⟩, ⟨_, rfl, (coi bxb)⟩, tt⟩, ⟨⟨_, rfl, (po id hml.symm bx5 (by dsimp only; omega) bxe)⟩, trivial⟩⟩ ?_; exact hC.keep bx5 (a0a bx6 bxe bxe))
           |(refine lpz (p,q+1,m) ⟨⟨⟨_,rfl,(coi bx9)⟩,⟨_,rfl,(coi bx9)⟩,tt⟩,uu⟩ ?_;exact hC.skip bx5 (zu bx6 bxh bxh))
    refine w_6 ?_
    first | (refine lpz (p+1, q+1, m.set p (m.getD q default)) ⟨⟨⟨_, rfl, (coi bxb)⟩, ⟨_, rfl, (coi bxb)⟩, tt⟩, ⟨⟨_, rfl, (po id hml.symm bx5 (by dsimp only; omega) bxe)⟩, trivial⟩⟩ ?_; exact hC.keep bx5 (a0a bx6 bxe bxe))
          |(refine lpz (p,q+1,m) ⟨⟨⟨_,rfl,(coi bx9)⟩,⟨_,rfl,(coi bx9)⟩,tt⟩,uu⟩ ?_;exact hC.skip bx5 (zu bx6 bxh bxh))
   simp only[iu,bv,btc]at h3;refine w_6 ?_;refine r9 0 true ?_;refine w_5 ?_;refine avg rfl rfl rfl rfl rfl ?_;refine w_2 ?_;refine hrr ?_;exact⟨_,_,rfl,bx7,b9g hC bx5 (by simp[bv]),trivial⟩
  refine w_6 ?_;refine lpz (k+1) kk ?_;refine⟨by omega,by show k+1<=_;omega,fun j h1 h2=>?_⟩
  rcases bvx (bwd h2)with h|h
  · exact hI j h1 h
  subst h;exact a0a bx6 rfl bx5
 refine w_6 ?_;refine bj 2 rfl rfl rfl ?_;refine hrr ?_;exact⟨_,_,rfl,bx7,atl (k:=k) bx5 hI,trivial⟩
end
end
section
section
variable {α:Type}[Inhabited α]{p:α->Bool}{l:List α}
def a0k(h:idx p l=-1):∀j,j<l.length->p (l.getD j default)=false:=fun j hj=>by
 cases hc:p (l.getD j default) with
 |false=>rfl
 | true =>
  exfalso;have hx:∃x∈l,p x=true:=⟨l[j],bti hj,by simpa [List.getD,hj]using hc⟩;unfold idx at h
  cases hf:l.findIdx? p with
  | none =>
   rw[bwn]at hf;obtain⟨x,hx,hp⟩:=hx;rw[hf x hx]at hp;cases hp
  |some i=>rw[hf]at h;simp only at h;omega
def uh (h:¬idx p l=-1):∃i:Nat,idx p l=i/\i<l.length/\p (l.getD i default)=true/\∀j,j<i->p (l.getD j default)=false:=by
 unfold idx at h ⊢
 cases hf:l.findIdx? p with
 |none=>rw[hf]at h;exact absurd rfl h
 | some i =>
  obtain⟨h1,h2,h3⟩:=bvf.1 hf;refine⟨i,rfl,h1,by simpa [List.getD,h1]using h2,fun j hj=>?_⟩;have:=h3 j hj;simp only[List.getD,bt0 (Nat.lt_trans hj h1),buq];simpa using this
def a6w:(decide (0<=idx p l))=l.any p:=by
 unfold idx
 cases hf:l.findIdx? p with
 | none =>
  rw[bwn]at hf
  have:l.any p=false:=by
   rw[buu];intro x hx;rw[hf x hx];exact Bool.false_ne_true
  rw[this];rfl
 | some i =>
  obtain⟨h1,h2,_⟩:=bvf.1 hf;have:l.any p=true:=bue.2 ⟨l[i],bti h1,h2⟩;rw[this];exact decide_eq_true (bv7 i)
def zr:∀{k:Nat},k<=l.length->(∀j,j<k->p (l.getD j default)=false)->(l.take k).filter (fun x=>!p x)=l.take k
 |0,_,_=>by simp
 |k+1,hk,h=>by rw[aj bx5,bu6,zr bx5 fun j hj=>h j bx5];simp only[buf,h k bx5,bw8,if_true,bv3]
structure DfI (p:α->Bool) (l:List α) (k q:Nat) (m:List α):Prop where
 len:m.length=l.length
 kq:k<q
 ql:q<=l.length
 pre:m.take k=(l.take q).filter fun x=>!p x
 high:∀j,q<=j->m.getD j default=l.getD j default
theorem DfI.start {k:Nat} (hk:k<l.length) (h1:p (l.getD k default)=true) (h:∀j,j<k->p (l.getD j default)=false):DfI p l k (k+1) l :=
 ⟨rfl,by omega,hk,by rw[aj hk,bu6,zr bx5 h];simp only[buf,h1,bwx,bv3,bup,if_false,btq],fun _ _=>rfl⟩
theorem DfI.skip {k q:Nat} {m:List α} (h:DfI p l k q m) (hq:q<l.length) (hp:p (m.getD q default)=true):DfI p l k (q+1) m:=by
 rw[h.high q (bt2 _)]at hp;exact⟨h.len,by have:=h.kq;omega,hq,by rw[aj hq,bu6,<- h.pre];simp only[buf,hp,bwx,bv3,bup,if_false,btq],fun j hj=>h.high j bx5⟩
theorem DfI.keep {k q:Nat} {m:List α} (h:DfI p l k q m) (hq:q<l.length) (hp:p (m.getD q default)=false):DfI p l (k+1) (q+1) (m.set k (m.getD q default)):=by
 have e:=h.high q (bt2 _);rw[e]at hp ⊢;have hk:=h.kq;have hl:=h.len;refine⟨by simp[hl],by omega,hq, ?_,fun j hj=>by rw[getD_set_ne' bx5];exact h.high j bx5⟩;rw[aj (by simp[hl];omega),nk bx5,aj hq,bu6,<- h.pre];simp only[buf,hp,bw8,if_true,bv3];congr 1;rw[List.take_set,bve bxi]
end
section
variable {p:AS->Bool}{l:List AS}
def ba0 (h:∀j,j<l.length->p (l.getD j default)=false):CoP (.sl l.length 1 false (lf sC l)) (asl (l.filter fun x=>!p x)):=by
 have:=zr (bt2 l.length) h;rw[btb]at this;rw[this];exact CoP.refl _
def bcy {m:List AS} {k q n a d:Nat} {cl:Bool} {z:List Value} (hC:DfI p l k q m) (hq:¬q<l.length) (ha:k<=a):CoP (.sl (iu (bv n (some (k:Int))) none) 1 cl (sm (ow (lf sC m) a d z) none)) (asl (l.filter fun x=>!p x)):=by
 have e:=hC.pre;have h1:=hC.ql;have h2:=hC.len;have h3:=hC.kq;rw[show q=l.length by omega,btb]at e;have el:(l.filter fun x=>!p x).length=k:=by rw[<- e];simp;omega
 exact aa5 (by rw[el];rfl) rfl bx5 (by rw[el,e])
end
def a0h{a b:AS}:decide (asI a=asI b)=decide (a=b):=decide_eq_decide.2 cb
instance:DecidableEq Fd:=fun a b=>decidable_of_iff (a.lhs=b.lhs/\a.rhs=b.rhs) Fd.eq_iff.symm
end
section
open Go.Proofs
def a71:goodFn bxr 59:=wgx Tryz.func59
def a3h(n:Nat)(c:Bool)(f:Nat->Nat->PV)(hn:n<=35184372088832) :
 dv bxr 59 [.one (.p (.sl n 1 c f))] [] (.v (.one (.ref 0 n))) [(0, .arr true 1 50 n f)] []:=by
 refine hfx (nt:=8) Tryz.func59 ?_;refine sx7 ?_;refine du true rfl rfl rfl rfl rfl trivial ?_;refine dq ?_;refine a9n (ι:=Bool) (fun c=>⟨[(0,some (bp (.sl n 1 c f)))],[]⟩) (fun _=>True) ?_ fun c _=>?_
 · rcases buz n with hz|h0
   · subst hz
     refine hw_exact' 0 rfl fun ad cap hcap=>?_;refine sx7 ?_;(iterate 2 refine du true rfl rfl rfl rfl rfl trivial ?_);refine dq ?_;refine ax ad.isNone rfl ?_ ?_<;>intro hc
     · refine sx7 ?_
       refine du true rfl rfl rfl rfl rfl trivial ?_;refine dq ?_;refine d8 2 0 true 1 50 f bxc rfl (CoP.sl rfl (.inr rfl) (fun h=>h) fun i j hi _=>absurd hi (bt9 i)) (.inr rfl) rfl ?_;refine hrr ?_;exact⟨_,_,rfl,trivial,CoR.refl _,uu⟩
     refine fk ?_;exact⟨false,trivial,⟨⟨_,rfl,CoP.raw_sl hcap⟩,trivial⟩,trivial⟩
   refine sx7 ?_;refine du true rfl rfl rfl rfl rfl trivial ?_;refine du true rfl rfl rfl rfl rfl h0 ?_;refine dq ?_;refine ax false rfl (fun hc=>by cases hc) (fun hc=>?_);refine fk ?_;exact⟨c,trivial,tt,trivial⟩
 refine sx7 ?_;refine a36 0 rfl rfl rfl rfl rfl rfl trivial ?_;refine du true rfl rfl rfl rfl rfl trivial ?_;refine a7e 0 true rfl rfl rfl rfl rfl rfl ⟨trivial,rfl,rfl,rfl, .inl rfl,by show 0+n<=9223372036854775807;omega,by show(0+n)*4<=140737488355328;omega,fun _=>.inl rfl⟩ ?_;refine du true rfl rfl rfl rfl rfl trivial ?_;refine dq ?_;refine hrr ?_;refine⟨_,_,rfl,trivial,CoR.of_eq (by show HR.v (.one (.ref 0 (0+n)))=_;rw[bu1]),⟨⟨_,rfl, ?_⟩,trivial⟩⟩;exact⟨fun h=>h,rfl,rfl,(bu1 n).symm,fun i j _ _=>CoP.of_eq (by simp[iw])⟩
def b7f (n:Nat) (c:Bool) (f:Nat->Nat->PV) (hn:n<=35184372088832):a7 bxr 59 [.one (.sl n 1 c f)] (.v (.one (.sl n 1 false f))) :=
 dv.pure (args:=[.one (.sl n 1 c f)]) (l:=[.one (.ref 0 n)]) (a3h n c f hn) rfl ⟨rfl,trivial⟩
def b7k(l:List Fd)(g k:Nat)(caps:Nat->PV)(V:Fd->Bool)(hg:goodFn bxr g)(hV:∀x,a7 bxr g (x.pc::ic caps k 0) (ae [pB (V x)])):a7 bxr 64 [pP (fdl l),pP (.fn g k caps)] (ae [pI (idx V l)]):=by
 refine hpx (nt:=19) Tryz.func64 ?_;refine dt ?_;refine e9 0 rfl fun hn=>?_;refine w_3 ?_;refine dp (ι:=Unit) kn km (fun _i=>⟨[],[]⟩) (fun _i=>idx V l=-1) ?_ ?_
 ·
  refine w_7 ?_;refine am (ι:=Nat) (ka 0 (ka 1 (ka 7 kn))) km (fun i=>⟨[(8,some (vI i))],[]⟩) (fun i=>i<=l.length/\(∀j,j<i->V (l.getD j default)=false)) (fun i=>l.length-i) (0) (⟨bt6 _,d5⟩) kk ?_;rintro i ⟨hi,hI⟩;refine w_5 ?_;refine hcd ?_ ?_<;>intro h0
  ·
   refine jk ?_;refine rc rfl rfl rfl rfl rfl rfl hg (hV (l.getD i default)) (CoL.refl _) rfl rfl ?_;refine dq ?_;refine hcb ?_ ?_<;>intro h1
   · refine v_5 ?_;exact⟨cci (vd (i:=i) bx5 hI h1).symm,trivial⟩
   refine w_5 ?_;refine lpz (i+1) kk ?_;exact⟨by show i+1<=_;omega,c6 hI (h1)⟩
  refine ek ?_;refine⟨(), ?_, ?_⟩
  · exact vq fun j hj=>hI j bx5
  exact⟨trivial,trivial⟩
 rintro _ hj;refine v_4 ?_;exact⟨cci hj.symm,trivial⟩
def ai8:goodFn bxr 124:=wgx Tryz.func124
def b7q(l:List AS)(g k:Nat)(caps:Nat->PV)(V:AS->Bool)(hg:goodFn bxr g)(hV:∀x,a7 bxr g (pA x::ic caps k 0) (ae [pB (V x)])):a7 bxr 124 [pP (asl l),pP (.fn g k caps)] (ae [pI (idx V l)]):=by
 refine hpx (nt:=19) Tryz.func124 ?_;refine dt ?_;refine e9 0 rfl fun hn=>?_;refine w_3 ?_;refine dp (ι:=Unit) kn km (fun _i=>⟨[],[]⟩) (fun _i=>idx V l=-1) ?_ ?_
 ·
  refine w_7 ?_;refine am (ι:=Nat) (ka 0 (ka 1 (ka 7 kn))) km (fun i=>⟨[(8,some (vI i))],[]⟩) (fun i=>i<=l.length/\(∀j,j<i->V (l.getD j default)=false)) (fun i=>l.length-i) (0) (⟨bt6 _,d5⟩) kk ?_;rintro i ⟨hi,hI⟩;refine w_5 ?_;refine hcd ?_ ?_<;>intro h0
  ·
   refine jk ?_;refine rc rfl rfl rfl rfl rfl rfl hg (hV (l.getD i default)) (CoL.refl _) rfl rfl ?_;refine dq ?_;refine hcb ?_ ?_<;>intro h1
   · refine v_5 ?_;exact⟨cci (vd (i:=i) bx5 hI h1).symm,trivial⟩
   refine w_5 ?_;refine lpz (i+1) kk ?_;exact⟨by show i+1<=_;omega,c6 hI (h1)⟩
  refine ek ?_;refine⟨(), ?_, ?_⟩
  · exact vq fun j hj=>hI j bx5
  exact⟨trivial,trivial⟩
 rintro _ hj;refine v_4 ?_;exact⟨cci hj.symm,trivial⟩
def b91 (l:List Fd) (g k:Nat) (caps:Nat->PV) (V:Fd->Bool) (hg:goodFn bxr g) (hV:∀x,a7 bxr g (x.pc::ic caps k 0) (ae [pB (V x)])):a7 bxr 77 [pP (fdl l),pP (.fn g k caps)] (ae [pB (l.any V)]):=by
 refine hpx (nt:=9) Tryz.func77 ?_;refine w_8 ?_;refine qcx (wgx Tryz.func64) (b7k l g k caps V hg hV) ?_;refine v_3 ?_;exact⟨ccb a6w,trivial⟩
def a3i:goodFn bxr 67:=wgx Tryz.func67
def aa6 (l:List AS) (g k:Nat) (caps:Nat->PV) (V:AS->Bool) (hg:goodFn bxr g) (hV:∀x,a7 bxr g (pA x::ic caps k 0) (ae [pB (V x)])):a7 bxr 67 [pP (asl l),pP (.fn g k caps)] (ae [pB (l.any V)]):=by
 refine hpx (nt:=9) Tryz.func67 ?_;refine w_8 ?_;refine qcx ai8 (b7q l g k caps V hg hV) ?_;refine v_3 ?_;exact⟨ccb a6w,trivial⟩
def bp0(l:List AS)(s:AS):a7 bxr 60 [pP (asl l),pA s] (ae [pI (idx (fun x=>decide (x=s)) l)]):=by
 refine hpx (nt:=19) Tryz.func60 ?_;refine dt ?_;refine e9 0 rfl fun hn=>?_;refine w_3 ?_;refine dp (ι:=Unit) kn km (fun _i=>⟨[],[]⟩) (fun _i=>idx (fun x=>decide (x=s)) l=-1) ?_ ?_
 ·
  refine w_7 ?_;refine am (ι:=Nat) (ka 0 (ka 1 (ka 7 kn))) km (fun i=>⟨[(8,some (vI i))],[]⟩) (fun i=>i<=l.length/\(∀j,j<i->decide (l.getD j default=s)=false)) (fun i=>l.length-i) (0) (⟨bt6 _,d5⟩) kk ?_;rintro i ⟨hi,hI⟩;refine w_5 ?_;refine hcd ?_ ?_<;>intro h0
  ·
   refine a2y ?_;refine hcd ?_ ?_<;>intro h1
   · refine v_5 ?_;exact⟨cci (vd (p:=fun x=>decide (x=s)) (i:=i) bx5 hI (decide_eq_true (cb.1 h1).symm)).symm,trivial⟩
   refine w_5 ?_;refine lpz (i+1) kk ?_;exact⟨by show i+1<=_;omega,c6 hI (decide_eq_false fun e=>h1 (congrArg asI e.symm))⟩
  refine ek ?_;refine⟨(), ?_, ?_⟩
  · exact vq (p:=fun x=>decide (x=s)) fun j hj=>hI j bx5
  exact⟨trivial,trivial⟩
 rintro _ hj;refine v_4 ?_;exact⟨cci hj.symm,trivial⟩
def bqh(l:List Fd)(s:Fd):a7 bxr 253 [pP (fdl l),s.pc] (ae [pI (idx (fun x=>decide (x=s)) l)]):=by
 refine hpx (nt:=19) Tryz.func253 ?_;refine dt ?_;refine e9 0 rfl fun hn=>?_;refine gy ?_;refine m9 0 ?_;refine w_2 ?_;refine dp (ι:=Unit) kn km (fun _i=>⟨[],[]⟩) (fun _i=>idx (fun x=>decide (x=s)) l=-1) ?_ ?_
 ·
  refine w_7 ?_;refine am (ι:=Nat) (ka 0 (ka 3 (ka 7 kn))) (kb 0 km) (fun i=>⟨[(8,some (vI i))],[]⟩) (fun i=>i<=l.length/\(∀j,j<i->decide (l.getD j default=s)=false)) (fun i=>l.length-i) (0) (⟨bt6 _,d5⟩) kk ?_;rintro i ⟨hi,hI⟩;refine w_5 ?_;refine hcd ?_ ?_<;>intro h0
  ·
   refine abw ?_;refine hcb ?_ ?_<;>intro h1
   · refine v_5 ?_;exact⟨cci (vd (p:=fun x=>decide (x=s)) (i:=i) bx5 hI (decide_eq_true (by simp_all [Fd.eq_iff,cb]))).symm,trivial⟩
   refine w_5 ?_;refine lpz (i+1) kk ?_;exact⟨by show i+1<=_;omega,c6 hI (decide_eq_false fun e=>by subst e;simp_all)⟩
  refine ek ?_;refine⟨(), ?_, ?_⟩
  · exact vq (p:=fun x=>decide (x=s)) fun j hj=>hI j bx5
  exact⟨trivial,trivial⟩
 rintro _ hj;refine v_4 ?_;exact⟨cci hj.symm,trivial⟩
def bqd (l:List Fd) (s:Fd):a7 bxr 224 [pP (fdl l),s.pc] (ae [pB (l.any fun x=>decide (x=s))]):=by
 refine hpx (nt:=9) Tryz.func224 ?_;refine sx7 ?_;refine m9 0 ?_;refine w_6 ?_;refine qcx (wgx Tryz.func253) (bqh _ _) ?_;refine v_3 ?_;exact⟨ccb a6w,trivial⟩
def b8h(l:List AS)(g k:Nat)(caps:Nat->PV)(V:AS->Bool)(hg:goodFn bxr g)(hV:∀x,a7 bxr g (pA x::ic caps k 0) (ae [pB (V x)])):dv bxr 73 [.one (.ref 900 l.length), .one (.p (.fn g k caps))] [(900, .arr true 1 50 l.length (lf sC l))] (.v (.one (.p (asl (l.filter fun x=>!V x))))) [] []:=by
 refine hfx (nt:=42) Tryz.func73 ?_;refine dt ?_;refine a9d 900 rfl fun hlen=>?_;refine w_7 ?_;refine qcx ai8 (b7q l g k caps V hg hV) ?_;refine w_8 ?_;refine hcd ?_ ?_<;>intro h0
 · refine w_5 ?_;refine bj 4 rfl rfl rfl ?_;refine hrr ?_;exact⟨_,_,rfl,bx7,ba0 (a0k bx6),trivial⟩
 obtain⟨i0,hi0,hi1,hi2,hi3⟩:=uh h0;refine w_9 ?_;refine am (ι:=Nat×Nat×List AS) (ka 0 (ka 1 kn)) km (fun x=>⟨[(5,some (vI x.1)),(6,some (vI x.2.1))],[(900,some (.arr true 1 50 l.length (lf sC x.2.2)))]⟩) (fun x=>DfI V l x.1 x.2.1 x.2.2) (fun x=>l.length-x.2.1) ((i0,i0+1,l)) (DfI.start hi1 hi2 hi3) ⟨⟨⟨_,rfl,(coi hi0)⟩,⟨_,rfl,(coi (by dsimp only;omega))⟩,trivial⟩,uu⟩ ?_;rintro x hC;have hC0:=hC;obtain⟨hml,hkq,hql,_,_⟩:=hC0;refine w_8 ?_;refine hcd ?_ ?_<;>intro h1
 ·
  refine jk ?_;refine rc rfl rfl rfl rfl rfl rfl hg (hV (x.2.2.getD (x.2.1:Int).toNat default)) (CoL.refl _) rfl rfl ?_;refine w_2 ?_;refine hcv ?_ ?_<;>intro h2
  ·
   have hv:=h2;refine abw ?_
   first | (refine lpz (x.1+1, x.2.1+1, x.2.2.set x.1 (x.2.2.getD x.2.1 default)) ⟨⟨⟨_, rfl, (coi bxb)⟩, ⟨_, rfl, (coi bxb)⟩, tt⟩, ⟨⟨_, rfl, (po id hml.symm bx5 bx5 bx5)⟩, trivial⟩⟩ ?_; exact hC.keep bx5 (by simpa using hv))
         |(refine lpz (x.1,x.2.1+1,x.2.2) ⟨⟨⟨_,rfl,(coi bx9)⟩,⟨_,rfl,(coi bx9)⟩,tt⟩,uu⟩ ?_;exact hC.skip bx5 (by simpa using hv))
  have hv:=h2;refine w_6 ?_
  first | (refine lpz (x.1+1, x.2.1+1, x.2.2.set x.1 (x.2.2.getD x.2.1 default)) ⟨⟨⟨_, rfl, (coi bxb)⟩, ⟨_, rfl, (coi bxb)⟩, tt⟩, ⟨⟨_, rfl, (po id hml.symm bx5 bx5 bx5)⟩, trivial⟩⟩ ?_; exact hC.keep bx5 (by simpa using hv))
        |(refine lpz (x.1,x.2.1+1,x.2.2) ⟨⟨⟨_,rfl,(coi bx9)⟩,⟨_,rfl,(coi bx9)⟩,tt⟩,uu⟩ ?_;exact hC.skip bx5 (by simpa using hv))
 have hq:=h1;refine w_6 ?_;refine r9 0 true ?_;refine w_5 ?_;refine avg rfl rfl rfl rfl rfl ?_;refine w_2 ?_;refine hrr ?_;exact⟨_,_,rfl,bx7,bcy hC bx5 (by simp[bv]),trivial⟩
end
section
def en(s:AS)(i:Int):Bool:=decide (0<=i/\i<32)&&s.getLsbD i.toNat
def ou {s:AS} {i:Nat} (h:i<32):en s i=s.getLsbD i:=by
 unfold en;rw[decide_eq_true bx5];simp
def bmg{s:AS}{i:Int}(h0:0<=i)(h1:i<32):decide (bu .and .u32 ((asI s).fdiv (2^(min i.toNat 32))) 1=1)=en s i:=by
 unfold en;rw[a0o,show(1:Int)=asI 1 from rfl,it,decide_eq_true (show 0<=i/\i<32 from ⟨h0,h1⟩),bu0]
 have e:asI (s>>>i.toNat&&&1)=asI 1<->s.getLsbD i.toNat=true:=by
  rw[cb];constructor
  · intro h
    have:=congrArg (fun x:AS=>x.getLsbD 0) h;simpa using this
  intro h;apply bu7;intro k hk;have h1:(1:AS).getLsbD k=decide (k=0):=by have:=er 0 k hk;simpa using this
  rw[bta,bwk,h1];by_cases hk0:k=0
  · subst hk0;simp[h]
  simp[hk0]
 cases hb:s.getLsbD i.toNat with
 |true=>exact decide_eq_true (e.2 hb)
 |false=>exact decide_eq_false fun h=>by rw[e.1 h]at hb;cases hb
def afg {s:AS} {i:Int} (h:¬(0<=i/\i<32)):en s i=false:=by
 unfold en;rw[decide_eq_false h];rfl
def ar2 {n:Nat} (h:n<=32):li n=BitVec.ofNat 32 (2^n-1):=by
 apply bu7;intro k hk;rw[lq n k hk,BitVec.getLsbD_ofNat,Nat.testBit_two_pow_sub_one];simp[hk]
def abc {n:Nat} (h:n<=32):(li n).toNat=2^n-1:=by
 have h2:2^n<=2^32:=bum bx5 h;have h3:0<2^n:=Nat.two_pow_pos n;rw[ar2 h,bw9,bvh bx5]
section
variable {n:Int}
def d9{l:List Fd}(h:aw n l=0):0<=n/\n<=16/\l.length<=64/\l.all (inU n)=true:=by
 unfold aw at h;split at h
 · cases h
 split at h
 · cases h
 split at h
 · rename_i h1 h2 h3
   exact⟨by omega,by omega,by omega,h3⟩
 cases h
def og (h0:0<=n) (h1:n<=16):IntKind.wrap .u32 (1*2^(min n.toNat 32))-1=asI (a6 n):=by
 have h2:2^n.toNat<=2^16:=bum bx5 bx5;have h3:0<2^n.toNat:=Nat.two_pow_pos _;rw[show IntKind.wrap .u32 (1*2^(min n.toNat 32))=asI ((1:AS)<<<n.toNat) from a0j 1 n.toNat];unfold a6 asI;rw[bua bx5,abc bx5,BitVec.toNat_shiftLeft,Nat.shiftLeft_eq];rw[show(1:AS).toNat=1 from rfl,Nat.one_mul,bvh bx5];omega
def avu {s:AS} (h0:0<=n) (h1:n<=16):(asI s).fdiv (2^(min n.toNat 32))=0<->sub s (a6 n):=by
 rw[a0o,show(0:Int)=asI 0 from rfl,cb];unfold a6;rw[bua bx5];exact(s8 bx5).symm
def om(h0:0<=n)(h1:n<=16):0<=IntKind.wrap .u32 (1*2^(min n.toNat 32))-1:=by rw[og h0 h1];exact tj _
def nf(h0:0<=n)(h1:n<=16):IntKind.wrap .u32 (1*2^(min n.toNat 32))-1<=4294967295:=by rw[og h0 h1];have:=a6v (a6 n);omega
def b3g{a b:List AS}(h:a.length=b.length)(hI:∀j,j<a.length->decide (a.getD j default=b.getD j default)=true):a=b:=pl h fun j hj=>of_decide_eq_true (hI j hj)
def b47{a b:List Fd}(h:a.length=b.length)(hI:∀j,j<a.length->decide (a.getD j default=b.getD j default)=true):a=b:=pl h fun j hj=>of_decide_eq_true (hI j hj)
def f0(n:Int)(l:List Fd)(s:AS):Bool:=decide (aw n l=0/\sub s (a6 n)/\clo l s=a6 n)
end
section
variable {n:Int}{l:List Fd}{s:AS}
def aw6(h:¬aw n l=0):f0 n l s=false:=decide_eq_false fun e=>h e.1
def b73 (h:aw n l=0) (h2:(asI s).fdiv (2^(min n.toNat 32))=0):decide (asI (clo l s)=asI (a6 n))=f0 n l s:=by
 have hv:=d9 h;have h3:=(avu hv.1 hv.2.1).1 h2;exact decide_eq_decide.2 ⟨fun e=>⟨h,h3,cb.1 e⟩,fun e=>congrArg asI e.2.2⟩
def awh (h:aw n l=0) (h2:¬(asI s).fdiv (2^(min n.toNat 32))=0):f0 n l s=false:=by
 have hv:=d9 h;exact decide_eq_false fun e=>h2 ((avu hv.1 hv.2.1).2 e.2.1)
end
def fb(n:Int)(l:List Fd)(m:Int):Int:=if aw n l=0 then(if m<n then 3 else 0)else aw n l
structure Dp where
 l:BitVec 8
 r:BitVec 8
deriving Inhabited
def Dp.c (d:Dp):Nat->PV
 |0=>.raw (.int .u8 (d.l.toNat:Int))
 |1=>.raw (.int .u8 (d.r.toNat:Int))
 |_=>.any
abbrev dpl(l:List Dp):PV:=psl 2 Dp.c l
def Dp.fd(n:Int)(d:Dp):Fd:=⟨d.l.setWidth 32&&&a6 n,d.r.setWidth 32&&&a6 n⟩
def b0h (b:BitVec 8) (t:AS):bu .and .u32 (b.toNat:Int) (asI t)=asI (b.setWidth 32&&&t):=by
 have h:=b.isLt
 have e:asI (b.setWidth 32)=(b.toNat:Int):=by
  unfold asI;rw[BitVec.toNat_setWidth,bvh bx5]
 rw[<- it,e]
end
section
open Go.Proofs
def azk (n:Int) (h0:0<=n) (h1:n<=16):a7 bxr 90 [pI n] (ae [pA (a6 n)]):=by
 refine hpx (nt:=6) Tryz.func90 ?_;refine w_8 ?_;refine rq rfl rfl rfl rfl rfl ?_ (hp:=⟨om h0 h1,nf h0 h1⟩);refine v_2 ?_;exact⟨cci (og h0 h1),trivial⟩
def b0i (n:Int) (h0:0<=n) (h1:n<=16):a7 bxr 40 [pI n] (ae [pA (a6 n)]):=by
 refine hpx (nt:=6) Tryz.func40 ?_;refine w_8 ?_;refine rq rfl rfl rfl rfl rfl ?_ (hp:=⟨om h0 h1,nf h0 h1⟩);refine v_2 ?_;exact⟨cci (og h0 h1),trivial⟩
def aq2:goodFn bxr 43:=wgx Tryz.func43
def awd (n:Int) (h0:0<=n) (h1:n<=16):a7 bxr 43 [pI n] (ae [pA (a6 n)]):=by
 refine hpx (nt:=6) Tryz.func43 ?_;refine w_8 ?_;refine rq rfl rfl rfl rfl rfl ?_ (hp:=⟨om h0 h1,nf h0 h1⟩);refine v_2 ?_;exact⟨cci (og h0 h1),trivial⟩
def bxo{p:Prop}(h:p:=by unfold fb;first|(rw[if_neg bx6])|(rw[if_pos bx5,if_pos bx5])|(rw[if_pos bx5,if_neg bx5])):p:=h
def bpf (n:Int) (l:List Fd):a7 bxr 42 [pI n,pP (fdl l)] (ae [pI (fb n l 8)]):=by
 refine hpx (nt:=14) Tryz.func42 ?_;refine w_9 ?_;refine qcx qj (tg n l) ?_;refine w_7 ?_;refine hcn ?_ ?_<;>intro h0
 · refine v_5 ?_;exact⟨cci bxo,trivial⟩
 refine w_7 ?_;refine hcd ?_ ?_<;>intro h1
 · refine v_4 ?_;exact⟨cci bxo,trivial⟩
 refine v_5 ?_;exact⟨cci bxo,trivial⟩
def aew:goodFn bxr 38:=wgx Tryz.func38
def ale(n:Int)(l:List Fd)(s:AS):a7 bxr 38 [pI n,pP (fdl l),pA s] (ae [pB (f0 n l s)]):=by
 refine hpx (nt:=25) Tryz.func38 ?_;refine w_8 ?_;refine qcx qj (tg n l) ?_;refine w_2 ?_;refine al rfl rfl ?_ ?_<;>intro r0
 ·
  have h0:=tz1 r0;obtain⟨hv0,hv1,_,_⟩:=d9 h0;(iterate 4 refine qy ?_ (hg:=(gtt r0)));refine w_2 ?_;refine al rfl rfl ?_ ?_<;>intro r1
  ·
   have h1:=tz1 (br r0 r1);(iterate 2 refine qy ?_ (hg:=(gtt r1)));refine qcx rp (rg l s) ?_ (hg:=(gtt r1));refine qy ?_ (hg:=(gtt r1))
   refine qcx (wgx Tryz.func90) (azk n (d9 bx6).1 (d9 bx6).2.1) ?_ (hg:=(gtt r1));refine qy ?_ (hg:=(gtt r1));refine v_3 ?_;exact⟨ccb (by first|exact rt bx6 (b73 bx6 bx6)|exact(aw6 bx6).symm|exact(awh bx6 bx6).symm),trivial⟩
  have h1:=tz2 (br r0 r1);(iterate 6 refine k9 (gft r1) ?_);refine w_3 ?_
  exact hx8 rfl rfl rfl (⟨ccb (by first|exact rt bx6 (b73 bx6 bx6)|exact(aw6 bx6).symm|exact(awh bx6 bx6).symm),trivial⟩)
 have h0:=tz2 r0;(iterate 4 refine k9 (gft r0) ?_);refine w_2 ?_;(iterate 6 refine k9 rfl ?_);refine w_3 ?_
 exact hx8 rfl rfl rfl (⟨ccb (by first|exact rt bx6 (b73 bx6 bx6)|exact(aw6 bx6).symm|exact(awh bx6 bx6).symm),trivial⟩)
def bjx(a b:List AS):a7 bxr 33 [pP (asl a),pP (asl b)] (ae [pB (decide (a=b))]):=by
 refine hpx (nt:=26) Tryz.func33 ?_;refine dt ?_;refine e9 0 rfl fun hn=>?_;refine gh ?_;refine hcn ?_ ?_<;>intro h0
 · refine v_4 ?_;exact⟨ccb (decide_eq_false fun e=>by subst e;omega).symm,trivial⟩
 refine fk ?_;refine dp (ι:=Unit) kn km (fun _i=>⟨[],[]⟩) (fun _i=>a=b) ?_ ?_
 ·
  refine w_5 ?_;refine am (ι:=Nat) (ka 0 (ka 1 kn)) km (fun i=>⟨[(5,some (vI i))],[]⟩) (fun i=>i<=a.length/\(∀j,j<i->decide (a.getD j default=b.getD j default)=true)) (fun i=>a.length-i) (0) (⟨bt6 _,d5⟩) kk ?_;rintro i ⟨hi,hI⟩;refine w_8 ?_;refine hcd ?_ ?_<;>intro h1
  ·
   refine ss ?_;refine hcn ?_ ?_<;>intro h2
   · refine v_4 ?_;exact⟨ccb (decide_eq_false fun e=>by subst e;simp_all).symm,trivial⟩
   refine w_6 ?_;refine lpz (i+1) kk ?_;exact⟨by show i+1<=_;omega,c6 hI (decide_eq_true (cb.1 h2))⟩
  refine ek ?_;refine⟨(), ?_, ?_⟩
  · exact b3g bx5 fun j hj=>hI j bx5
  exact⟨trivial,trivial⟩
 rintro _ hj;refine v_4 ?_;exact⟨ccb (decide_eq_true hj).symm,trivial⟩
end
section
def bsz(s:AS):Nat:=(List.range 32).countP fun i=>s.getLsbD i
def bef(a b:AS):Bool:=decide (bsz a<bsz b)||(decide (bsz a=bsz b)&&decide (a.toNat<b.toNat))
def a4a(a:AS):bef a a=false:=by simp[bef]
def un{a b:AS}:bef a b=true<->bsz a<bsz b\/(bsz a=bsz b/\a.toNat<b.toNat):=by simp[bef]
def a1z {a b c:AS} (h:bef a b=true) (k:bef b c=true):bef a c=true:=by
 rw[un]at *;omega
def agh {a b:AS} (h:a≠b):bef a b=true\/bef b a=true:=by
 have hn:a.toNat≠b.toNat:=fun e=>h (bu2 e);rw[un,un];omega
def b2h {a b:AS} (h:bef a b=true):bef b a=false:=by
 rw[btf];intro k;have:=a1z h k;rw[a4a]at this;cases this
def yx(l:List AS):Prop:=l.Pairwise fun a b=>bef a b=true
def a2x:∀{l k:List AS},yx l->yx k->(∀x,x∈l<->x∈k)->l=k
 | [],[],_,_,_=>rfl
 | [],y::k,_,_,h=>absurd ((h y).2 (buc ..)) bx8
 |x::l,[],_,_,h=>absurd ((h x).1 (buc ..)) bx8
 | x :: l,y::k,hl,hk,h=>by
  obtain⟨h1,h2⟩:=btz.1 hl;obtain⟨k1,k2⟩:=btz.1 hk
  have e:x=y:=by
   rcases btd.1 ((h x).1 (buc ..))with e|hx
   · exact e
   rcases btd.1 ((h y).2 (buc ..))with e|hy
   · exact e.symm
   have:=b2h (k1 x hx);rw[h1 y hy]at this;cases this
  subst e;congr 1;refine a2x h2 k2 fun z=>?_;constructor
  · intro hz
    rcases btd.1 ((h z).1 (bub _ hz))with e|hz'
    · subst e
      have:=h1 z hz;rw[a4a]at this;cases this
    exact hz'
  intro hz
  rcases btd.1 ((h z).2 (bub _ hz))with e|hz'
  · subst e
    have:=k1 z hz;rw[a4a]at this;cases this
  exact hz'
def py (x:AS):List AS->List AS
 | []=>[x]
 |y::l=>if x=y then y::l else if bef x y=true then x::y::l else y::py x l
def aca{x z:AS}:∀{l:List AS},z∈py x l<->z=x\/z∈l
 | []=>by simp[py]
 | y :: l=>by
  unfold py;split
  · rename_i e
    subst e;simp
  split
  · simp
  rw[btd,aca,btd];constructor
  · rintro(h|h|h)<;>simp[h]
  rintro(h|h|h)<;>simp[h]
def akb{x:AS}:∀{l:List AS},yx l->yx (py x l)
 | [],_=>by simp[py,yx]
 | y :: l,h=>by
  obtain⟨h1,h2⟩:=btz.1 h;unfold py;split
  · exact h
  split
  · rename_i hxy
    refine btz.2 ⟨fun z hz=>?_,h⟩
    rcases btd.1 hz with rfl|hz
    · exact hxy
    exact a1z hxy (h1 z hz)
  rename_i hne hxy;refine btz.2 ⟨fun z hz=>?_,akb h2⟩
  rcases aca.1 hz with rfl|hz
  · exact(agh hne).resolve_left hxy
  exact h1 z hz
def ord(l:List AS):List AS:=l.foldl (fun o x=>py x o) []
def ahh:∀{l o:List AS},yx o->yx (l.foldl (fun o x=>py x o) o)/\∀z,z∈l.foldl (fun o x=>py x o) o<->z∈o\/z∈l
 | [],o,h=>⟨h,fun z=>by simp⟩
 | x::l,o,h=>by
  obtain⟨h1,h2⟩:=ahh (l:=l) (akb (x:=x) h);refine⟨h1,fun z=>?_⟩;show z∈l.foldl (fun o x=>py x o) (py x o)<->_;rw[h2 z,aca,btd];constructor
  · rintro((h|h)|h)<;>simp[h]
  rintro(h|h|h)<;>simp[h]
def a59(l:List AS):yx (ord l):=(ahh (o:=[]) List.Pairwise.nil).1
def ly {l:List AS} {z:AS}:z∈ord l<->z∈l:=by
 show z∈l.foldl (fun o x=>py x o) []<->_;rw[(ahh (l:=l) (o:=[]) List.Pairwise.nil).2 z];simp
def bg7{l k:List AS}(hk:yx k)(h:∀z,z∈k<->z∈l):k=ord l:=a2x hk (a59 l) fun z=>by rw[h z,ly]
end
section
def ak(s:AS):List Nat:=(List.range 32).filter fun i=>s.getLsbD i
def iC:Nat->Nat->PV:=fun n _=>.raw (.int .i64 (n:Int))
abbrev il(l:List Nat):PV:=psl 1 iC l
def yf(s:AS):bsz s=(ak s).length:=by unfold bsz ak;rw[List.countP_eq_length_filter]
section
variable {s:AS}
def io{i:Nat}:i∈ak s<->i<32/\s.getLsbD i=true:=by simp[ak,buw,btg]
def a85{p:Nat->Bool}{t:Nat}:∀{l:List Nat},l.Pairwise (·<·)->t∈l->p t=true->(∀k,k<t->p k=false)->l.filter p=t::l.filter fun k=>decide (k≠t)&&p k
 | [],_,h,_,_=>by cases h
 | a :: l,hp,hm,h1,h2=>by
  obtain⟨q1,q2⟩:=btz.1 hp;by_cases ha:a=t
  · subst ha
    have e:l.filter p=l.filter fun k=>decide (k≠a)&&p k:=by
     apply List.filter_congr;intro k hk;have:=q1 k hk;rw[decide_eq_true bx5,bu0]
    simp[buf,h1,e]
  have hm':t∈l:=by
   rcases btd.1 hm with h|h
   · exact absurd h.symm ha
   exact h
  have:=q1 t hm';have hpa:=h2 a this;simp[buf,hpa,a85 q2 hm' h1 h2]
def gm(s:AS):Nat:=Lib.ctz 32 s.toNat
def b5h (h:s≠0):∃m,s.toNat=2^(gm s+1)*m+2^gm s/\gm s<32:=by
 have h0:s.toNat≠0:=fun e=>h (bu2 e);obtain⟨m,h1,h2⟩:=Lib.ctzFrom_spec 32 s.toNat bx5 s.isLt;have e:gm s=Lib.ctzFrom 32 s.toNat:=by unfold gm Lib.ctz;rw[if_neg h0]
 rw[e];refine⟨m, ?_,h2⟩;rw[Nat.pow_succ];rw[h1]at *;simp only[Nat.mul_add,Nat.mul_assoc,bw2]at *;exact h1
def sb(h:s≠0):gm s<32/\s.getLsbD (gm s)=true/\(∀k,k<gm s->s.getLsbD k=false)/\s&&&(s-1)=s&&&~~~((1:AS)<<<gm s):=by
 obtain⟨m,h1,h2⟩:=b5h h;generalize gm s=t at *;have hp:2^t<2^(t+1):=Nat.pow_lt_pow_right bx5 bx5
 have hb:∀k,s.getLsbD k=if k<t+1 then(2^t).testBit k else m.testBit (k-(t+1)):=fun k=>by
  show s.toNat.testBit k=_;rw[h1,Nat.testBit_two_pow_mul_add _ hp]
 have hq:0<2^t:=Nat.two_pow_pos t
 have e1:(s-1).toNat=2^(t+1)*m+(2^t-1):=by
  have:=s.isLt;rw[BitVec.toNat_sub];show(2^32-1+s.toNat)%2^32=_;omega
 have hd:∀k,(s-1).getLsbD k=if k<t+1 then(2^t-1).testBit k else m.testBit (k-(t+1)):=fun k=>by
  show(s-1).toNat.testBit k=_;rw[e1,Nat.testBit_two_pow_mul_add _ bx5]
 refine⟨h2, ?_,fun k hk=>?_, ?_⟩
 · rw[hb,if_pos bx5,Nat.testBit_two_pow_self]
 · rw [hb,if_pos bx5,Nat.testBit_two_pow]
   simp;omega
 apply bu7;intro k hk;rw[bta,bta,bu9,er _ _ hk,hd k,hb k];by_cases h3:k<t+1
 · rw [if_pos h3,if_pos h3,Nat.testBit_two_pow,Nat.testBit_two_pow_sub_one]
   by_cases h4:k=t
   · subst h4;simp
   have:¬t=k:=fun e=>h4 e.symm;simp[this]
 rw[if_neg h3,if_neg h3];have:¬k=t:=by omega
 simp[hk,this]
def a6u (h:s≠0) (k:Nat) (hk:k<32):(s&&&(s-1)).getLsbD k=(decide (k≠gm s)&&s.getLsbD k):=by
 rw[(sb h).2.2.2,bta,bu9,er _ _ hk];by_cases e:k=gm s<;>simp[e,hk,Bool.and_comm]
def b02 (h:s≠0):ak s=gm s::ak (s&&&(s-1)):=by
 obtain⟨h1,h2,h3,_⟩:=sb h;unfold ak;rw[a85 List.pairwise_lt_range (btg.2 h1) h2 h3];congr 1;apply List.filter_congr;intro k hk;rw[a6u h k (btg.1 hk)]
def awn:ak 0=[]:=by
 unfold ak;rw[bw3];intro k _;simp
def ao6(h:s≠0):(s&&&(s-1)).toNat<s.toNat:=by
 refine vz (ai.2 fun i hi hb=>?_) fun e=>?_
 · rw [a6u h i hi]at hb
   simp only[bt3]at hb;exact hb.2
 have:=a6u h (gm s) (sb h).1;rw[e,(sb h).2.1]at this;simp at this
end
end
end Go.Hx
