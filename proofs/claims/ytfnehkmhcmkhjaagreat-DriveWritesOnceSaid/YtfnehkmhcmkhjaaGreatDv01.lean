/- Parts:XToc XTocOps XTocStep XTocApp XQ -/
set_option maxRecDepth 100000
set_option maxHeartbeats 8000000
set_option linter.unusedVariables false
namespace Go.Proofs.YtfnehkmhcmkhjaaGreat.T
structure az where
 num:Int
 bP:Int
 st:Int
 len:Int
 nx:Int
 cZ:Int
 pk:Int
def z:az:=⟨0,0,0,0,0,0,0⟩
def tr(l:List az)(i:Nat):az:=(l[i]?).getD z
def eB(l:List az)(i:Nat):Int:=if i=0 then 0 else(tr l (i - 1)).st+(tr l (i - 1)).len
def sB(l:List az)(i:Nat):Int:=if i=0 then 1 else(tr l (i - 1)).bP
def okR(cap cl:Int)(l:List az)(i:Nat):Prop:=
 (tr l i).num=i+1/\(tr l i).bP=(if 0<i/\(tr l i).bP=sB l i+1 then sB l i+1 else sB l i)/\(tr l i).bP<=cl+1/\(tr l i).bP<=16/\
 (tr l i).st=(if 0<i/\(tr l i).bP=sB l i+1 then eB l i+16 else eB l i)/\1<=(tr l i).len/\(tr l i).len<=cap - (tr l i).st/\
 0<=(tr l i).pk/\(tr l i).pk<=1024/\(tr l i).st<=(tr l i).nx/\(tr l i).nx<=(tr l i).st+(tr l i).len/\
 (0<(tr l i).pk->(tr l i).len.tmod (tr l i).pk=0/\((tr l i).nx - (tr l i).st).tmod (tr l i).pk=0)/\
 ((tr l i).cZ=2/\(tr l i).nx=(tr l i).st+(tr l i).len\/(tr l i).cZ=0/\(tr l i).nx=(tr l i).st\/(tr l i).cZ=1/\(tr l i).nx≠(tr l i).st)/\
 ((tr l i).bP<=cl->(tr l i).cZ=2)
def okI(cap cl:Int)(fin:Bool)(l:List az)(i:Nat):Prop:=
 (tr l i).num=i+1/\(i=0->(tr l i).bP=1)/\(0<i->(tr l i).bP - sB l i=0\/(tr l i).bP - sB l i=1)/\
 (tr l i).bP<=cl+1/\(tr l i).bP<=16/\(cl<(tr l i).bP\/(tr l i).cZ=2)/\(fin=true->(tr l i).bP<=cl)/\
 (tr l i).st=(if i=0 then 0 else if sB l i<(tr l i).bP then eB l i+16 else eB l i)/\
 1<=(tr l i).len/\(tr l i).len<=cap/\(tr l i).st<=cap - (tr l i).len/\
 ((tr l i).pk=0\/1<=(tr l i).pk/\(tr l i).pk<=1024/\(tr l i).len.tmod (tr l i).pk=0/\((tr l i).nx - (tr l i).st).tmod (tr l i).pk=0)/\
 ((tr l i).cZ=2->(tr l i).nx=(tr l i).st+(tr l i).len)/\
 ((tr l i).cZ≠2->(tr l i).st<=(tr l i).nx/\(tr l i).nx<=(tr l i).st+(tr l i).len/\(tr l i).cZ=if (tr l i).nx=(tr l i).st then 0 else 1)
theorem Uh(cap cl:Int)(fin:Bool)(l:List az)(i:Nat)(h0:0<=eB l i):okI cap cl fin l i↔okR cap cl l i/\(fin=true->(tr l i).bP<=cl):=by
 unfold okI okR;have hz:i=0->sB l i=1/\eB l i=0:=fun h=>by unfold sB eB; rw[if_pos h,if_pos h]; exact⟨rfl,rfl⟩
 generalize (tr l i).num=a1 at *;generalize (tr l i).bP=a2 at *;generalize (tr l i).st=a3 at *;generalize (tr l i).len=a4 at *;generalize (tr l i).nx=a5 at *;generalize (tr l i).cZ=a6 at *;generalize (tr l i).pk=a7 at *;generalize sB l i=s at *;generalize eB l i=e at *;generalize a4.tmod a7=t1;generalize (a5 - a3).tmod a7=t2;by_cases hi:i=0
 ·obtain⟨hs,he⟩:=hz hi;subst hi hs he;constructor
  ·rintro⟨g1,g2,g3,g4,g5,g6,g7,g8,g9,g10,g11,g12,g13,g14⟩;refine⟨⟨g1,?_,g4,g5,?_,g9,by omega,by omega,by omega,?_,?_,fun h=>by omega,?_,by omega⟩,g7⟩
   ·rw[if_neg (by omega)]; exact g2 rfl
   ·rw[if_neg (by omega)]; simpa using g8
   ·by_cases h:a6=2
    ·have:=g13 h; omega
    ·exact(g14 h).1
   ·by_cases h:a6=2
    ·have:=g13 h; omega
    ·exact(g14 h).2.1
   ·by_cases h:a6=2
    ·exact .inl ⟨h,g13 h⟩
    ·have h2:=(g14 h).2.2;split at h2
     ·exact .inr (.inl ⟨h2,by assumption⟩)
     ·exact .inr (.inr ⟨h2,by assumption⟩)
  ·rintro⟨⟨g1,g2,g3,g4,g5,g6,g7,g8,g9,g10,g11,g12,g13,g14⟩,g15⟩;rw[if_neg (by omega)]at g2 g5;refine⟨g1,fun _=>g2,fun h=>by omega,g3,g4,by omega,g15,by simpa using g5,g6,by omega,by omega,?_,by omega,fun h=>⟨g10,g11,?_⟩⟩
   ·by_cases h:a7=0
    ·exact .inl h
    ·have:=g12 (by omega);exact .inr ⟨by omega,by omega,this.1,this.2⟩
   ·split <;> omega
 ·constructor
  ·rintro⟨g1,g2,g3,g4,g5,g6,g7,g8,g9,g10,g11,g12,g13,g14⟩;have h3:=g3 (by omega);rw[if_neg hi]at g8;refine⟨⟨g1,?_,g4,g5,?_,g9,by omega,by omega,by omega,?_,?_,fun h=>by omega,?_,by omega⟩,g7⟩
   ·split <;> omega
   ·split at g8 <;> split <;> omega
   ·by_cases h:a6=2
    ·have:=g13 h; omega
    ·exact(g14 h).1
   ·by_cases h:a6=2
    ·have:=g13 h; omega
    ·exact(g14 h).2.1
   ·by_cases h:a6=2
    ·exact .inl ⟨h,g13 h⟩
    ·have h2:=(g14 h).2.2;split at h2
     ·exact .inr (.inl ⟨h2,by assumption⟩)
     ·exact .inr (.inr ⟨h2,by assumption⟩)
  ·rintro⟨⟨g1,g2,g3,g4,g5,g6,g7,g8,g9,g10,g11,g12,g13,g14⟩,g15⟩;have hst:0<=a3:=by split at g5 <;> omega
   refine⟨g1,fun h=>absurd h hi,fun h=>?_,g3,g4,by omega,g15,?_,g6,by omega,by omega,?_,by omega,fun h=>⟨g10,g11,?_⟩⟩
   ·split at g2 <;> omega
   ·rw[if_neg hi];split at g2 <;> split at g5 <;> split <;> omega
   ·by_cases h:a7=0
    ·exact .inl h
    ·have:=g12 (by omega);exact .inr ⟨by omega,by omega,this.1,this.2⟩
   ·split <;> omega
theorem lK(l:List az)(i:Nat):eB l (i+1)=(tr l i).st+(tr l i).len:=by unfold eB; rw[if_neg (by omega)]; rfl
theorem eQ(l:List az)(i:Nat):sB l (i+1)=(tr l i).bP:=by unfold sB; rw[if_neg (by omega)]; rfl
theorem Dh(l:List az):eB l 0=0:=rfl
theorem uw(l:List az):sB l 0=1:=rfl
theorem okR.next{cap cl:Int}{l:List az}{i:Nat}(h:okR cap cl l i):eB l i<eB l (i+1)/\sB l i<=sB l (i+1)/\sB l (i+1)<=sB l i+1:=by obtain⟨_,g2,_,_,g5,g6,_⟩:=h;rw[lK,eQ];split at g2 <;> split at g5 <;> omega
theorem okI.next{cap cl:Int}{fin:Bool}{l:List az}{i:Nat}(h0:0<=eB l i)(h:okI cap cl fin l i):0<=eB l (i+1):=by
 obtain⟨_,_,_,_,_,_,_,g8,g9,_⟩:=h;rw[lK];split at g8
 ·omega
 ·split at g8 <;> omega
theorem okR.ends{cap cl:Int}{l:List az}{n:Nat}(h:∀i,i<n->okR cap cl l i):∀i,i<=n->0<=eB l i
 | 0,_=>by rw[Dh]; omega
 | i+1,hi=>by have h1:=okR.ends h i (by omega);have h2:=(h i (by omega)).next;omega
theorem okI.ends{cap cl:Int}{fin:Bool}{l:List az}{n:Nat}(h:∀i,i<n->okI cap cl fin l i):∀i,i<=n->0<=eB l i
 | 0,_=>by rw[Dh]; omega
 | i+1,hi=>okI.next (okI.ends h i (by omega)) (h i (by omega))
theorem okR.mono{cap cl:Int}{l:List az}{n:Nat}(h:∀i,i<n->okR cap cl l i)(i:Nat):∀d,i+d<=n->sB l i<=sB l (i+d)
 | 0,_=>by rw[Nat.add_zero]; omega
 | d+1,hd=>by
   have h1:=okR.mono h i d (by omega);have h2:=(h (i+d) (by omega)).next;have e:i+(d+1)=i+d+1:=by omega
   rw[e]; omega
def Le(cap cl:Int)(fin:Bool)(l:List az):Prop:=
 1<=cap/\cap<=449849/\l.length<=99/\0<=cl/\cl<=16/\¬ (fin=true/\cl=0)/\(∀i,i<l.length->okI cap cl fin l i)/\(cl=0\/0<l.length/\cl<=sB l l.length)
def aQ(cap cl:Int)(fin:Bool)(l:List az):Prop:=
 1<=cap/\cap<=449849/\l.length<=99/\0<=cl/\cl<=16/\(∀i,i<l.length->okR cap cl l i)/\cl<=(if 0<l.length then sB l l.length else 0)/\
 (fin=true->1<=cl/\(if 0<l.length then sB l l.length else 0)=cl)
theorem fP(cap cl:Int)(fin:Bool)(l:List az):Le cap cl fin l↔aQ cap cl fin l:=by
 unfold Le aQ;constructor
 ·rintro⟨g1,g2,g3,g4,g5,g6,g7,g8⟩;have he:=okI.ends g7;have hr:∀i,i<l.length->okR cap cl l i/\(fin=true->(tr l i).bP<=cl):=fun i hi=>(Uh cap cl fin l i (he i (by omega))).1 (g7 i hi)
  have hm:=okR.mono (fun i hi=>(hr i hi).1) 0 l.length (by omega);rw[Nat.zero_add,uw]at hm;refine⟨g1,g2,g3,g4,g5,fun i hi=>(hr i hi).1,?_,fun hf=>?_⟩
  ·split <;> omega
  ·have hc:cl≠0:=fun e=>g6 ⟨hf,e⟩
   have h8:=g8.resolve_left hc;rw[if_pos h8.1];obtain⟨m,hm⟩:∃m,l.length=m+1:=⟨l.length - 1,by omega⟩;have h9:=(hr m (by omega)).2 hf;rw[hm,eQ]at h8 ⊢;omega
 ·rintro⟨g1,g2,g3,g4,g5,g6,g7,g8⟩;have he:=okR.ends g6;refine⟨g1,g2,g3,g4,g5,fun⟨h1,h2⟩=>by have:=(g8 h1).1; omega,fun i hi=>(Uh cap cl fin l i (he i (by omega))).2 ⟨g6 i hi,fun hf=>?_⟩,?_⟩
  ·have h1:=(g8 hf).2;rw[if_pos (by omega)]at h1;have h2:=okR.mono g6 (i+1) (l.length - (i+1)) (by omega);have e:i+1+(l.length - (i+1))=l.length:=by omega
   rw[e,eQ]at h2;omega
  ·by_cases h:0<l.length
   ·rw[if_pos h]at g7; exact .inr ⟨h,g7⟩
   ·rw[if_neg h]at g7; exact .inl (by omega)
theorem jg(l m:List az)(i:Nat)(h:i<l.length):tr (l++m) i=tr l i:=by unfold tr; rw[List.getElem?_append_left h]
theorem nV(l:List az)(x:az):tr (l++[x]) l.length=x:=by unfold tr; rw[List.getElem?_append_right (Nat.le_refl _)]; simp
theorem Ov(l m:List az)(i:Nat)(h:i<=l.length):eB (l++m) i=eB l i:=by
 cases i with
 | zero=>rfl
 | succ i=>rw[lK,lK,jg _ _ _ (by omega)]
theorem P7(l m:List az)(i:Nat)(h:i<=l.length):sB (l++m) i=sB l i:=by
 cases i with
 | zero=>rfl
 | succ i=>rw[eQ,eQ,jg _ _ _ (by omega)]
theorem mY(l:List az)(x:az)(i k:Nat)(h:i≠k):tr (l.set k x) i=tr l i:=by unfold tr; rw[List.getElem?_set_ne (fun e=>h e.symm)]
theorem fO(l:List az)(x:az)(k:Nat)(h:k<l.length):tr (l.set k x) k=x:=by unfold tr; rw[List.getElem?_set_self h]; rfl
def pK(count pk:Int):Prop:=1<=count/\0<=pk/\pk<=1024/\(0<pk->count.tmod pk=0)
def qN(cl:Int)(l:List az):Int:=if l.length=0 then 0 else if sB l l.length<=cl then eB l l.length+16 else eB l l.length
def Gx(cl:Int)(l:List az)(count pk:Int):az:=⟨l.length+1,cl+1,qN cl l,count,qN cl l,0,pk⟩
theorem AP{cap cl:Int}{fin:Bool}{l:List az}{count pk:Int}(hv:aQ cap cl fin l)(hf:fin=false)(hp:pK count pk)(hn:l.length<99)(hc:cl<16)(hr:count<=cap - qN cl l):
 aQ cap cl fin (l++[Gx cl l count pk]):=by
 obtain⟨g1,g2,g3,g4,g5,g6,g7,g8⟩:=hv;obtain⟨p1,p2,p3,p4⟩:=hp;have hl:(l++[Gx cl l count pk]).length=l.length+1:=by simp
 have hlast:0<l.length->sB l l.length<=cl+1:=fun h=>by obtain⟨m,hm⟩:∃m,l.length=m+1:=⟨l.length - 1,by omega⟩;have h9:=(g6 m (by omega)).2.2.1;rw[hm,eQ]; exact h9
 refine⟨g1,g2,by omega,g4,g5,fun i hi=>?_,?_,fun h=>by rw[hf]at h; cases h⟩
 ·rw[hl]at hi;unfold okR;rw[Ov _ _ _ (by omega),P7 _ _ _ (by omega)];by_cases h:i<l.length
  ·rw[jg _ _ _ h];exact g6 i h
  ·obtain rfl:i=l.length:=by omega
   rw[nV];have hz:l.length=0->sB l l.length=1/\eB l l.length=0:=fun h=>by rw[h]; exact⟨rfl,rfl⟩
   have hz2:((0:Int)).tmod pk=0:=Int.zero_tmod _;unfold Gx qN at *;simp only;refine⟨trivial,?_,by omega,by omega,?_,p1,hr,p2,p3,by omega,by omega,fun h=>⟨p4 h,?_⟩,.inr (.inl ⟨trivial,trivial⟩),fun h=>by omega⟩
   ·by_cases h0:l.length=0
    ·have:=hz h0;rw[if_neg (by omega)]at g7 ⊢;omega
    ·rw[if_pos (by omega)]at g7;have:=hlast (by omega);split <;> omega
   ·by_cases h0:l.length=0
    ·have:=hz h0;rw[if_pos h0,if_neg (by omega)];omega
    ·rw[if_pos (by omega)]at g7;have:=hlast (by omega);rw[if_neg h0];split <;> split <;> omega
   ·rw[Int.sub_self]; exact hz2
 ·rw[hl,if_pos (by omega),eQ,nV];unfold Gx;simp only;omega
theorem BX{cap cl:Int}{fin:Bool}{l:List az}{k:Nat}(hv:aQ cap cl fin l)(hk:k<l.length)(x:az)(h1:x.num=(tr l k).num)(h2:x.bP=(tr l k).bP)(h3:x.st=(tr l k).st)
 (h4:k+1<l.length->x.len=(tr l k).len)(h5:1<=x.len)(h6:x.len<=cap - x.st)(h7:x.pk=(tr l k).pk)(h8:x.st<=x.nx)(h9:x.nx<=x.st+x.len)
 (h10:0<x.pk->x.len.tmod x.pk=0/\(x.nx - x.st).tmod x.pk=0)(h11:x.cZ=2/\x.nx=x.st+x.len\/x.cZ=0/\x.nx=x.st\/x.cZ=1/\x.nx≠x.st)(h12:x.bP<=cl->x.cZ=2):aQ cap cl fin (l.set k x):=by
 obtain⟨g1,g2,g3,g4,g5,g6,g7,g8⟩:=hv;have hl:(l.set k x).length=l.length:=by simp
 have hs:∀i,i<=l.length->sB (l.set k x) i=sB l i:=fun i hi=>by
  cases i with
  | zero=>rfl
  | succ i=>
    rw[eQ,eQ];by_cases e:i=k
    ·rw[e,fO _ _ _ hk,h2]
    ·rw[mY _ _ _ _ e]
 have he:∀i,i<l.length->eB (l.set k x) i=eB l i:=fun i hi=>by
  cases i with
  | zero=>rfl
  | succ i=>
    rw[lK,lK];by_cases e:i=k
    ·rw[e,fO _ _ _ hk,h3,h4 (by omega)]
    ·rw[mY _ _ _ _ e]
 refine⟨g1,g2,by omega,g4,g5,fun i hi=>?_,by rw[hl,hs _ (Nat.le_refl _)]; exact g7,by rw[hl,hs _ (Nat.le_refl _)]; exact g8⟩;rw[hl]at hi;have ho:=g6 i hi;unfold okR at ho ⊢;rw[he i hi,hs i (by omega)];by_cases e:i=k
 ·subst e;rw[fO _ _ _ hk];obtain⟨o1,o2,o3,o4,o5,o6,o7,o8,o9,JS,QQ,JU,XK,Ue⟩:=ho;rw[<-h1]at o1;rw[<-h2]at o2 o3 o4 o5;rw[<-h3]at o5;rw[<-h7]at o8 o9;exact⟨o1,o2,o3,o4,o5,h5,h6,o8,o9,h8,h9,h10,h11,h12⟩
 ·rw[mY _ _ _ _ e];exact ho
def grown(x:az)(count:Int):az:={ x with nx:=x.nx+count,cZ:=1 }
def lh(x:az):az:={ x with cZ:=2,len:=x.nx - x.st }
theorem AV{a b c:Int}(h1:a.tmod c=0)(h2:b.tmod c=0):(a+b).tmod c=0:=by have e1:=Int.dvd_of_tmod_eq_zero h1;have e2:=Int.dvd_of_tmod_eq_zero h2;exact Int.tmod_eq_zero_of_dvd (Int.dvd_add e1 e2)
theorem CV{cap cl:Int}{fin:Bool}{l:List az}{k:Nat}{count:Int}(hv:aQ cap cl fin l)(hk:k<l.length)(hs:(tr l k).cZ≠2)(hp:pK count (tr l k).pk)(hc:count<=(tr l k).st+(tr l k).len - (tr l k).nx):
 aQ cap cl fin (l.set k (grown (tr l k) count)):=by
 have ho:=hv.2.2.2.2.2.1 k hk;obtain⟨o1,o2,o3,o4,o5,o6,o7,o8,o9,JS,QQ,JU,XK,Ue⟩:=ho;obtain⟨p1,p2,p3,p4⟩:=hp;unfold grown;refine BX hv hk _ rfl rfl rfl (fun _=>rfl) o6 o7 rfl ?_ ?_ (fun h=>⟨(JU h).1,?_⟩) (.inr (.inr ⟨rfl,?_⟩)) (fun h=>absurd (Ue h) hs)
 ·simp only; omega
 ·simp only; omega
 ·have e:(tr l k).nx+count - (tr l k).st=(tr l k).nx - (tr l k).st+count:=by omega
  simp only;rw[e];exact AV (JU h).2 (p4 h)
 ·simp only; omega
theorem KR{cap cl:Int}{fin:Bool}{l:List az}{k:Nat}(hv:aQ cap cl fin l)(hk:k<l.length)(hs:(tr l k).cZ=1)(hc:k+1<l.length->(tr l k).nx=(tr l k).st+(tr l k).len):
 aQ cap cl fin (l.set k (lh (tr l k))):=by
 have ho:=hv.2.2.2.2.2.1 k hk;obtain⟨o1,o2,o3,o4,o5,o6,o7,o8,o9,JS,QQ,JU,XK,Ue⟩:=ho;unfold lh;have hne:(tr l k).nx≠(tr l k).st:=by omega
 refine BX hv hk _ rfl rfl rfl (fun h=>?_) ?_ ?_ rfl JS ?_ (fun h=>⟨(JU h).2,(JU h).2⟩) (.inl ⟨rfl,?_⟩) (fun h=>rfl)
 ·have:=hc h; simp only; omega
 ·simp only; omega
 ·simp only; omega
 ·simp only; omega
 ·simp only; omega
theorem Fg{cap cl:Int}{fin:Bool}{l:List az}(f:Bool)(hv:aQ cap cl fin l)(ha:∀i,i<l.length->(tr l i).cZ=2)(ho:∃i,i<l.length/\cl<(tr l i).bP):aQ cap (cl+1) f l:=by
 obtain⟨g1,g2,g3,g4,g5,g6,g7,g8⟩:=hv;obtain⟨i,hi,hc⟩:=ho;have h1:=okR.mono g6 (i+1) (l.length - (i+1)) (by omega);have e:i+1+(l.length - (i+1))=l.length:=by omega
 rw[e,eQ]at h1;have afE:=(g6 i hi).2.2.2.1;have hlast:sB l l.length<=cl+1:=by obtain⟨m,hm⟩:∃m,l.length=m+1:=⟨l.length - 1,by omega⟩;have h9:=(g6 m (by omega)).2.2.1;rw[hm,eQ]; exact h9
 refine⟨g1,g2,g3,by omega,by omega,fun j hj=>?_,by rw[if_pos (by omega)]; omega,fun _=>⟨by omega,by rw[if_pos (by omega)]; omega⟩⟩;have ho:=g6 j hj;unfold okR at ho ⊢;obtain⟨o1,o2,o3,o4,o5,o6,o7,o8,o9,JS,QQ,JU,XK,Ue⟩:=ho;exact⟨o1,o2,by omega,o4,o5,o6,o7,o8,o9,JS,QQ,JU,XK,fun _=>ha j hj⟩
theorem FT{cap cl:Int}{fin:Bool}{l:List az}(hv:aQ cap cl fin l)(hc:cl≠0)(ho:∀i,i<l.length->(tr l i).bP<=cl):aQ cap cl true l:=by
 obtain⟨g1,g2,g3,g4,g5,g6,g7,g8⟩:=hv;refine⟨g1,g2,g3,g4,g5,g6,g7,fun _=>⟨by omega,?_⟩⟩;by_cases h:0<l.length
 ·rw[if_pos h]at g7 ⊢;obtain⟨m,hm⟩:∃m,l.length=m+1:=⟨l.length - 1,by omega⟩;have h9:=ho m (by omega);rw[hm,eQ]at g7 ⊢;omega
 ·rw[if_neg h]at g7 ⊢; omega
def Step(cap cl:Int)(fin:Bool)(l:List az)(cl':Int)(fin':Bool)(l':List az):Prop:=
 fin=false/\cl'=cl/\fin'=fin/\(∃count pk,pK count pk/\l.length<99/\cl<16/\count<=cap - qN cl l/\l'=l++[Gx cl l count pk])\/
 cl'=cl/\fin'=fin/\(∃k count,k<l.length/\(tr l k).cZ≠2/\pK count (tr l k).pk/\count<=(tr l k).st+(tr l k).len - (tr l k).nx/\l'=l.set k (grown (tr l k) count))\/
 cl'=cl/\fin'=fin/\(∃k,k<l.length/\(tr l k).cZ=1/\(k+1<l.length->(tr l k).nx=(tr l k).st+(tr l k).len)/\l'=l.set k (lh (tr l k)))\/
 fin=false/\cl'=cl+1/\l'=l/\(∀i,i<l.length->(tr l i).cZ=2)/\(∃i,i<l.length/\cl<(tr l i).bP)\/
 fin=false/\cl'=cl/\fin'=true/\l'=l/\cl≠0/\(∀i,i<l.length->(tr l i).cZ=2)/\(∀i,i<l.length->(tr l i).bP<=cl)
theorem Step.valid{cap cl cl':Int}{fin fin':Bool}{l l':List az}(hv:aQ cap cl fin l)(h:Step cap cl fin l cl' fin' l'):aQ cap cl' fin' l':=by
 rcases h with ⟨h0,rfl,rfl,c,pk,h1,h2,h3,h4,rfl⟩ | ⟨rfl,rfl,k,c,h1,h2,h3,h4,rfl⟩ | ⟨rfl,rfl,k,h1,h2,h3,rfl⟩ | ⟨h0,rfl,rfl,h1,h2⟩ | ⟨h0,rfl,rfl,rfl,h1,h2,h3⟩
 ·exact AP hv h0 h1 h2 h3 h4
 ·exact CV hv h1 h2 h3 h4
 ·exact KR hv h1 h2 h3
 ·exact Fg _ hv h1 h2
 ·exact FT hv h1 h3
def Done(l:List az)(k:Int):Prop:=∃i,i<l.length/\(tr l i).st<=k/\k<(tr l i).nx
section
variable {cap cl:Int} {l:List az} {n:Nat}
theorem okR.from{i:Nat}(h:okR cap cl l i):eB l i<=(tr l i).st:=by obtain⟨_,_,_,_,g5,_⟩:=h;split at g5 <;> omega
end
section
variable {cap cl:Int} {fin:Bool} {l:List az}
theorem aQ.at(hv:aQ cap cl fin l){i:Nat}(hi:i<l.length):(tr l i).num=i+1/\0<=(tr l i).st/\(tr l i).st+(tr l i).len<=cap/\(tr l i).st<=(tr l i).nx/\(tr l i).nx<=(tr l i).st+(tr l i).len:=by
 have ho:=hv.2.2.2.2.2.1 i hi;have h1:=ho.from
 have h2:=okR.ends hv.2.2.2.2.2.1 i (by omega);obtain⟨o1,o2,o3,o4,o5,o6,o7,o8,o9,JS,QQ,JU,XK,Ue⟩:=ho;exact⟨o1,by omega,by omega,JS,QQ⟩
theorem Sj{i:Nat}(hi:i<l.length)(x:az)(h1:x.st=(tr l i).st)(h2:x.nx=(tr l i).nx)(k:Int):Done (l.set i x) k↔Done l k:=by
 have key:∀j,(tr (l.set i x) j).st=(tr l j).st/\(tr (l.set i x) j).nx=(tr l j).nx:=fun j=>by
  by_cases e:j=i
  ·subst e; rw[fO _ _ _ hi]; exact⟨h1,h2⟩
  ·rw[mY _ _ _ _ e]; exact⟨rfl,rfl⟩
 unfold Done;constructor
 ·rintro⟨j,hj,g1,g2⟩;rw[(key j).1]at g1; rw[(key j).2]at g2; rw[List.length_set]at hj;exact⟨j,hj,g1,g2⟩
 ·rintro⟨j,hj,g1,g2⟩;refine⟨j,by rw[List.length_set]; exact hj,?_⟩;rw[(key j).1,(key j).2]; exact⟨g1,g2⟩
theorem Si(x:az)(h:x.nx=x.st)(k:Int):Done (l++[x]) k↔Done l k:=by
 constructor
 ·rintro⟨j,hj,g1,g2⟩;rw[List.length_append]at hj;by_cases e:j<l.length
  ·rw[jg _ _ _ e]at g1 g2;exact⟨j,e,g1,g2⟩
  ·obtain rfl:j=l.length:=by simp at hj; omega
   rw[nV]at g1 g2;omega
 ·rintro⟨j,hj,g1,g2⟩;refine⟨j,by simp; omega,?_⟩;rw[jg _ _ _ hj]; exact⟨g1,g2⟩
end
theorem Qv{cap:Int}(h1:1<=cap)(h2:cap<=449849):aQ cap 0 false []:=by refine⟨h1,h2,by simp,by omega,by omega,fun i hi=>by simp at hi,by simp,fun h=>by cases h⟩
end Go.Proofs.YtfnehkmhcmkhjaaGreat.T
namespace Go.Proofs.YtfnehkmhcmkhjaaGreat.Q
open T (az tr eB)
structure Fr where
 ctl:Int
 aN:Int
 pt:Int
 rm:Int
 rs:Int
 rf:Int
 am:Int
 as:Int
 af:Int
 deriving DecidableEq
def mM(n:Int):Int:=n / 4500
def mS(n:Int):Int:=n / 75 % 60
def mF(n:Int):Int:=n % 75
def okS(l:List az)(i:Nat):Prop:=
 1<=(tr l i).num/\(tr l i).num<=99/\(0<i->(tr l i).num=(tr l (i - 1)).num+1)/\eB l i<=(tr l i).st/\(tr l i).st<=449849/\1<=(tr l i).len/\(tr l i).len<=449849 - (tr l i).st
instance (l:List az) (i:Nat):Decidable (okS l i):=by unfold okS; infer_instance
def acE(l:List az):Prop:=1<=l.length/\l.length<=99/\∀i,i<l.length->okS l i
instance (l:List az):Decidable (acE l):=by unfold acE; infer_instance
end Go.Proofs.YtfnehkmhcmkhjaaGreat.Q
