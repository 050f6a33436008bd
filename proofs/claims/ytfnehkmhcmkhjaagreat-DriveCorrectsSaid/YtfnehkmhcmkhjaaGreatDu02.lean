/- Parts -/
import Derived.Test.YtfnehkmhcmkhjaaGreatDu00
set_option maxRecDepth 100000
set_option maxHeartbeats 8000000
set_option linter.unusedVariables false
namespace Go.Proofs.YtfnehkmhcmkhjaaGreat.G
def pw(x:UInt8):Nat->UInt8
 |0=>1
 |n+1=>mul (pw x n) x
theorem aep(x:UInt8)(m n:Nat):pw x (m+n)=mul (pw x m) (pw x n):=by
 induction n with
 |zero=>simp[pw,mul_one]
 |succ n ih=>rw[<-Nat.add_assoc,pw,ih,pw,mul_assoc]
theorem nZ(x:UInt8)(n:Nat):pw x (n+1)=mul x (pw x n):=by rw[pw,mul_comm]
theorem amK{x:UInt8}(h:x≠0)(n:Nat):pw x n≠0:=by
 induction n with
 |zero=>simp[pw]
 |succ n ih=>exact Am ih h
theorem aeq(k n:Nat):pw (exp k) n=exp (k*n):=by
 induction n with
 |zero=>simp[pw,qi]
 |succ n ih=>rw[pw,ih,<-gX,Nat.mul_succ]
theorem acO(x:UInt8)(l:List UInt8):∀s,lY x s l=mul s (pw x l.length)^^^lY x 0 l:=by
 induction l with
 |nil=>intro s;simp[lY,pw,mul_one]
 | cons c l ih=>
   intro s;simp only[lY,List.length_cons];rw[ih,ih (mul 0 x^^^c),zero_mul,zero_xor,dG,nZ,mul_assoc];rw[xor_assoc]
theorem eval_nil(x:UInt8):eval [] x=0:=rfl
theorem eval_cons(x c:UInt8)(l:List UInt8):eval (c::l) x=mul c (pw x l.length)^^^eval l x:=by unfold eval;rw[lY,zero_mul,zero_xor,acO]
theorem eval_append(x:UInt8)(l m:List UInt8):eval (l++m) x=mul (eval l x) (pw x m.length)^^^eval m x:=by
 induction l with
 |nil=>rw[List.nil_append,eval_nil,zero_mul,zero_xor]
 |cons c l ih=>rw[List.cons_append,eval_cons,ih,eval_cons,List.length_append,aep,mul_assoc,dG,xor_assoc]
theorem uK(x c:UInt8)(l:List UInt8):eval (l++[c]) x=mul (eval l x) x^^^c:=by rw[eval_append,eval_cons,eval_nil];simp[pw,one_mul,mul_one]
theorem nK(x:UInt8)(n:Nat):eval (List.replicate n 0) x=0:=by
 induction n with
 |zero=>rfl
 |succ n ih=>rw[List.replicate_succ,eval_cons,zero_mul,zero_xor,ih]
theorem acQ(x:UInt8)(m:Nat)(p:List UInt8):eval (pad m p) x=eval p x:=by unfold pad;rw[eval_append,nK,zero_mul,zero_xor]
theorem jV(c:UInt8)(l:List UInt8):ix (c::l) 0=c:=rfl
theorem jU(c:UInt8)(l:List UInt8)(i:Nat):ix (c::l) (i+1)=ix l i:=by simp[ix]
theorem tq(c:UInt8)(l:List UInt8)(v:UInt8):bump (c::l) 0 v=(c^^^v)::l:=by simp[bump,jV]
theorem sZ(c:UInt8)(l:List UInt8)(j:Nat)(v:UInt8):bump (c::l) (j+1) v=c::bump l j v:=by simp[bump,jU]
theorem Z7(x v:UInt8)(out:List UInt8):∀j,j<out.length->eval (bump out j v) x=eval out x^^^mul v (pw x (out.length-1-j)):=by
 induction out with
 |nil=>intro j h;simp at h
 | cons c l ih=>
   intro j h;cases j with
   | zero=>
     rw[tq,eval_cons,eval_cons,dG,List.length_cons];rw[show l.length+1-1-0=l.length by omega,xor_assoc,xor_assoc,xor_comm (mul v _)]
   | succ j=>
     rw[sZ,eval_cons,eval_cons,bump_length,ih j (by simpa using h),List.length_cons,xor_assoc];rw[show l.length+1-1-(j+1)=l.length-1-j by omega]
theorem jc(l:List UInt8)(k:Nat)(h:k<l.length):l.take (k+1)=l.take k++[ix l k]:=by rw[List.take_succ_eq_append_getElem h];simp[ix,h]
theorem Pz(x a:UInt8)(q:List UInt8)(i:Nat)(out:List UInt8):∀k,k<=q.length->i+k<=out.length->
 eval (addRow i a q k out) x=eval out x^^^mul a (mul (eval (q.take k) x) (pw x (out.length-i-k))):=by
 intro k
 induction k with
 |zero=>intro _ _;simp[addRow,eval_nil,zero_mul,mul_zero]
 | succ k ih=>
   intro hk hi;rw[addRow,Z7 _ _ _ _ (by rw[bI];omega),bI,ih (by omega) (by omega),jc q k (by omega),uK,dG,eU];rw[show out.length-i-k=(out.length-i-(k+1))+1 by omega,nZ,show out.length-1-(i+k)=out.length-i-(k+1) by omega];rw[xor_assoc,mul_assoc (eval (q.take k) x) x,mul_assoc a (ix q k)]
theorem qh(x a:UInt8)(q:List UInt8)(i:Nat)(out:List UInt8)(h:i+q.length<=out.length):
 eval (addRow i a q q.length out) x=eval out x^^^mul (mul a (pw x (out.length-i-q.length))) (eval q x):=by
 rw[Pz x a q i out _ (Nat.le_refl _) h,List.take_length,<-mul_assoc,mul_comm (pw x _)]
theorem Ls(x:UInt8)(p q:List UInt8)(hq:q≠[]):∀i,i<=p.length->eval (aZ p q i) x=mul (mul (eval (p.take i) x) (pw x (p.length-i))) (eval q x):=by
 have hl:0<q.length:=List.length_pos_iff.2 hq;intro i
 induction i with
 |zero=>intro _;simp[aZ,nK,eval_nil,zero_mul]
 | succ i ih=>
   intro h;rw[aZ,qh _ _ _ _ _ (by rw[aY];omega),ih (by omega),aY,jc p i (by omega),uK,
    show p.length-i=(p.length-(i+1))+1 by omega,nZ,mul_assoc (eval _ x) x,show p.length+q.length-1-i-q.length=p.length-(i+1) by omega,<-dG,<-dG]
theorem Z8(p q:List UInt8)(x:UInt8):eval (prod p q) x=mul (eval p x) (eval q x):=by
 by_cases hp:p = []
 ·subst hp;rw[pI,eval_nil,zero_mul]
 ·by_cases hq:q = []
  ·subst hq;rw[nY,eval_nil,mul_zero]
  ·rw[Dt hp hq,Ls x p q hq _ (Nat.le_refl _),List.take_length,Nat.sub_self,pw,mul_one]
/-! ### coefficients -/
theorem jR{l m:List UInt8}(hl:l.length=m.length)(h:∀i,i<l.length->ix l i=ix m i):l=m:=by apply List.ext_getElem hl;intro i h1 h2;have:=h i h1;simpa[ix,h1,h2]using this
theorem agN(out:List UInt8)(j:Nat)(v:UInt8)(t:Nat):ix (bump out j v) t=if t=j/\j<out.length then ix out t^^^v else ix out t:=by
 unfold bump ix;rw[List.getD_eq_getElem?_getD,List.getElem?_set];by_cases h:j=t
 ·subst h;by_cases hl:j<out.length
  ·simp[hl]
  ·simp[hl]
 ·rw[if_neg h,if_neg (by omega),List.getD_eq_getElem?_getD]
theorem qB(i:Nat)(a:UInt8)(q:List UInt8)(out:List UInt8)(t:Nat):∀k,ix (addRow i a q k out) t=if i<=t/\t<i+k/\t<out.length then ix out t^^^mul a (ix q (t-i)) else ix out t:=by
 intro k
 induction k with
 |zero=>rw[addRow,if_neg (by omega)]
 | succ k ih=>
   rw[addRow,agN,bI,ih];by_cases h:t=i+k/\i+k<out.length
   ·obtain⟨rfl,h2⟩:=h;rw[if_pos ⟨rfl,h2⟩,if_neg (by omega),if_pos (by omega),show i+k-i=k by omega]
   ·rw[if_neg h];by_cases h':i<=t/\t<i+k/\t<out.length
    ·rw[if_pos h',if_pos (by omega)]
    ·rw[if_neg h',if_neg (by omega)]
theorem nS(i:Nat)(a:UInt8)(q:List UInt8)(out:List UInt8)(t:Nat)(ht:t<out.length):
 ix (addRow i a q q.length out) t=ix out t^^^(if i<=t then mul a (ix q (t-i)) else 0):=by
 rw[qB];by_cases h:i<=t
 ·by_cases h2:t<i+q.length
  ·rw[if_pos ⟨h,h2,ht⟩,if_pos h]
  ·rw[if_neg (by omega),if_pos h,bW (l:=q) (i:=t-i) (by omega),mul_zero,xor_zero]
 ·rw[if_neg (by omega),if_neg h,xor_zero]
/-! ### akk -/
theorem Ll(q:List UInt8)(r:List UInt8)(h0:ix q 0≠0)(hq:q≠[]):∀i,i+(q.length-1)<=r.length->∀t,t<i->ix (eQ q (inv (ix q 0)) i r) t=0:=by
 have hl:0<q.length:=List.length_pos_iff.2 hq;intro i
 induction i with
 |zero=>intro _ t ht;omega
 | succ i ih=>
   intro hi t ht;rw[eQ,nS _ _ _ _ _ (by rw[iK];omega)];by_cases h:i<=t
   ·obtain rfl:t=i:=by omega
    rw[if_pos h,Nat.sub_self,<-mul_assoc,inv_mul h0,mul_one,xor_self]
   ·rw[if_neg h,xor_zero];exact ih (by omega) t (by omega)
theorem Lt(q:List UInt8)(iv x:UInt8)(r:List UInt8)(hx:eval q x=0)(hq:q≠[]):∀i,i+(q.length-1)<=r.length->eval (eQ q iv i r) x=eval r x:=by
 have hl:0<q.length:=List.length_pos_iff.2 hq;intro i
 induction i with
 |zero=>intro _;rfl
 | succ i ih=>
   intro hi;rw[eQ,qh _ _ _ _ _ (by rw[iK];omega),hx,mul_zero,xor_zero,ih (by omega)]
theorem Ey(x:UInt8)(l:List UInt8)(k:Nat)(hk:k<=l.length)(h:∀t,t<k->ix l t=0):eval (l.drop k) x=eval l x:=by
 conv=>rhs;rw[<-List.take_append_drop k l]
 rw[eval_append];have e:l.take k=List.replicate k 0:=by
  apply jR
  ·simp;omega
  ·intro i hi;simp at hi;rw[lI];have:=h i (by omega);unfold ix at this ⊢;simpa[List.getElem?_take,(by omega:i<k)]using this
 rw[e,nK,zero_mul,zero_xor]
theorem acR(p q:List UInt8)(x:UInt8)(hq:q≠[])(h0:ix q 0≠0)(hx:eval q x=0):eval (rem p q) x=eval p x:=by
 unfold rem;rw[Ey,Lt q _ x _ hx hq,acQ]
 ·rw[nV];omega
 ·rw[iK,nV];omega
 ·exact Ll q _ h0 hq _ (by rw[nV];omega)
def GK(a b:List UInt8):List UInt8:=List.zipWith (· ^^^ ·) a b
theorem Cc{a b:List UInt8}(h:a.length=b.length):(GK a b).length=a.length:=by simp[GK,h]
theorem yA{a b:List UInt8}(h:a.length=b.length)(i:Nat):ix (GK a b) i=ix a i^^^ix b i:=by
 unfold GK ix;by_cases hi:i<a.length
 ·have hb:i<b.length:=by omega
  simp[List.getElem?_zipWith,hi,hb]
 ·have hb:¬ i<b.length:=by omega
  simp[List.getElem?_zipWith,hi,hb]
theorem PI(n:Nat):ix (gen n) 0=1:=by
 induction n with
 |zero=>rfl
 | succ n ih=>
   have hl:=iM n;have h:gen n≠[]:=by intro e;rw[e]at hl;simp at hl
   have key:∀i,ix (aZ (gen n) [1,exp n] (i+1)) 0=1:=by
    intro i
    induction i with
    | zero=>
      rw[aZ,nS _ _ _ _ _ (by rw[aY];simp),aZ,lI,if_pos (Nat.le_refl _),ih];simp[ix,one_mul]
    | succ i ih2=>
      rw[aZ,nS _ _ _ _ _ (by rw[aY];simp),ih2,if_neg (by omega),xor_zero]
   rw[gen,Dt h (by simp),hl];exact key n
theorem acP(n:Nat)(x:UInt8):eval (gen n) x=0↔∃i,i<n/\x=exp i:=by
 induction n with
 | zero=>
   constructor
   ·intro h;simp[gen,eval_cons,eval_nil,pw,mul_one]at h
   ·rintro⟨i,hi,_⟩;omega
 | succ n ih=>
   rw[gen,Z8];have e:eval [1,exp n] x=x^^^exp n:=by rw[eval_cons,eval_cons,eval_nil];simp[pw,one_mul,mul_one]
   rw[e];constructor
   ·intro h;rcases mul_eq_zero h with h|h
    ·obtain⟨i,hi,rfl⟩:=ih.1 h;exact⟨i,by omega,rfl⟩
    ·exact⟨n,by omega,dN h⟩
   ·rintro⟨i,hi,rfl⟩;by_cases h:i=n
    ·subst h;rw[xor_self,mul_zero]
    ·rw[ih.2 ⟨i,by omega,rfl⟩,zero_mul]
def cO(l:List UInt8)(n:Int):Bool:=decide (2<=l.length) && decide (l.length<=255) && decide (1<=n) && decide (n<=16) && decide (n<(l.length:Int))
theorem bU(l:List UInt8)(n:Int):cO l n=true↔2<=l.length/\l.length<=255/\1<=n/\n<=16/\n<(l.length:Int):=by simp[cO,and_assoc]
def dP(l:List UInt8)(n:Nat):List UInt8:=(List.range n).map λi=>eval l (exp i)
theorem dC(l:List UInt8)(n:Nat):(dP l n).length=n:=by simp[dP]
theorem Dn(l:List UInt8)(n i:Nat)(h:i<n):ix (dP l n) i=eval l (exp i):=by simp[dP,ix,h]
def mr(l:List UInt8):Bool:=l.all (· == 0)
def az(l:List UInt8)(n:Int):Bool:=cO l n && mr (dP l n.toNat)
def enc(l:List UInt8)(n:Nat):List UInt8:=l++rem (l++List.replicate n 0) (gen n)
def En(l:List UInt8)(n:Int):Bool:=decide (1<=n) && decide (n<=16) && decide (l≠[]) && decide ((l.length:Int)+n<=255)
theorem qW(l:List UInt8)(n:Nat):(enc l n).length=l.length+n:=by unfold enc;rw[List.length_append,xe,iM];omega
def lS(p:List UInt8):Nat->Int
 |0=>-1
 |n+1=>if ix p n=0 then lS p n else n
def jM(p:List UInt8):Int:=lS p p.length
def plus(p q:List UInt8):List UInt8:=(List.range (max p.length q.length)).map λi=>ix p i^^^ix q i
def val(p:List UInt8)(x:UInt8):UInt8:=eval p.reverse x
def fC(p:List UInt8):List UInt8:=(List.range (p.length-1)).map λi=>if i%2=0 then ix p (i+1) else 0
def kX(q:List UInt8)(n:Nat)(iv:UInt8)(i:Nat)(s:List UInt8×List UInt8):List UInt8×List UInt8:=
 (s.1.set (i-n) (mul (ix s.2 i) iv),addRow (i-n) (mul (ix s.2 i) iv) q (n+1) s.2)
def dQ(q:List UInt8)(n:Nat)(iv:UInt8):Nat->List UInt8×List UInt8->List UInt8×List UInt8
 |0,s=>s
 |k+1,s=>dQ q n iv k (kX q n iv (n+k) s)
def divide(p q:List UInt8):List UInt8×List UInt8:=
 dQ q (jM q).toNat (inv (ix q (jM q).toNat)) (jM p+1-jM q).toNat (List.replicate (max ((p.length:Int)-jM q) 1).toNat 0,p)
end Go.Proofs.YtfnehkmhcmkhjaaGreat.G
namespace Go.Proofs.YtfnehkmhcmkhjaaGreat
def aI(l:List Int)(i:Nat):Int:=l.getD i 0
namespace G
def vK(n:Nat)(l:List Int):Nat->Bool
 |0=>true
 |k+1=>vK n l k && !(decide (aI l k<0) || decide ((n:Int)<=aI l k) || (decide (0<k) && decide (aI l k<=aI l (k-1))))
def lL(n:Nat)(l:List Int):Bool:=vK n l l.length
def dY(n:Nat)(l:List Int):Nat->List UInt8
 |0=>[1]
 |k+1=>prod (dY n l k) [1,exp (n-1-(aI l k).toNat)]
theorem gW(n:Nat)(l:List Int):∀k,(dY n l k).length=k+1
 |0=>rfl
 | k+1=>by
   have h:=gW n l k;have h1:dY n l k≠[]:=by intro e;rw[e]at h;simp at h
   rw[dY,gJ _ _ h1 (by simp),h];simp
theorem JC(n:Nat)(l:List Int):∀(m k:Nat),k<=m->vK n l m=true->vK n l k=true
 | 0,k,h,hp=>by obtain rfl:k=0:=by omega
                exact hp
 | m+1,k,h,hp=>by
   by_cases e:k=m+1
   ·rw[e];exact hp
   ·unfold vK at hp;rw[Bool.and_eq_true]at hp;exact JC n l m k (by omega) hp.1
theorem rH(n:Nat)(l:List Int){m k:Nat}(h:k<m)(hp:vK n l m=true):0<=aI l k/\aI l k<n/\(0<k->aI l (k-1)<aI l k):=by have:=JC n l m (k+1) (by omega) hp;unfold vK at this;simp only[Bool.and_eq_true,Bool.not_eq_true',Bool.or_eq_false_iff,decide_eq_false_iff_not,Bool.and_eq_false_iff]at this;omega
def xi(p:List UInt8)(n:Nat)(l:List Int):List UInt8:=(prod (dP p n) (dY p.length l l.length)).take n
def hp:Nat->UInt8
 |0=>1
 |j+1=>mul (hp j) (inv 2)
def TR(uV om:List UInt8)(j:Nat):UInt8:=
 if val uV (hp j)=0 then mul (exp j) (mul (val om (hp j)) (inv (val (fC uV) (hp j)))) else 0
def repair(p uV om:List UInt8):List UInt8:=(List.range p.length).map λi=>ix p i^^^TR uV om (p.length-1-i)
theorem jq(p uV om:List UInt8):(repair p uV om).length=p.length:=by simp[repair]
theorem Jr(p uV om:List UInt8)(i:Nat)(h:i<p.length):ix (repair p uV om) i=ix p i^^^TR uV om (p.length-1-i):=by simp[repair,ix,h]
def cont(l:List Int)(x:Int):Bool:=l.contains x
theorem xQ(l:List Int)(x:Int):cont l x=true↔x∈l:=by unfold cont;exact List.contains_iff_mem
def iF(a b:List UInt8):Nat->Nat
 |0=>0
 |k+1=>iF a b k+if ix a k=ix b k then 0 else 1
def kH(a b:List UInt8)(l:List Int):Nat->Nat
 |0=>0
 |k+1=>kH a b l k+if ix a k=ix b k then 0 else if cont l (k:Int) then 0 else 1
theorem KN(a b:List UInt8):∀k,iF a b k<=k
 |0=>by simp[iF]
 |k+1=>by have:=KN a b k;unfold iF;split <;> omega
theorem MO(a b:List UInt8)(l:List Int):∀k,kH a b l k<=k
 |0=>by simp[kH]
 |k+1=>by have:=MO a b l k;unfold kH;(repeat' split) <;> omega
end G
end Go.Proofs.YtfnehkmhcmkhjaaGreat
namespace Go.Proofs.YtfnehkmhcmkhjaaGreat.G
theorem fZ(x:UInt8):val [] x=0:=rfl
theorem bM(c:UInt8)(l:List UInt8)(x:UInt8):val (c::l) x=mul (val l x) x^^^c:=by unfold val;rw[List.reverse_cons,uK]
theorem val_append(l m:List UInt8)(x:UInt8):val (l++m) x=val l x^^^mul (val m x) (pw x l.length):=by unfold val;rw[List.reverse_append,eval_append,List.length_reverse,xor_comm]
theorem vz(n:Nat)(x:UInt8):val (List.replicate n 0) x=0:=by unfold val;rw[List.reverse_replicate,nK]
theorem Gt(x v:UInt8):∀(out:List UInt8)(j:Nat),j<out.length->val (bump out j v) x=val out x^^^mul v (pw x j)
 | [],j,h=>by simp at h
 |c::l,0,_=>by rw[tq,bM,bM,pw,mul_one,xor_assoc]
 | c :: l,j+1,h=>by
   rw[sZ,bM,bM,Gt x v l j (by simpa using h),dG,pw,<-mul_assoc,xor_assoc,xor_assoc]
   congr 1
   exact xor_comm _ _
theorem vW(q:List UInt8)(k:Nat)(h:k<q.length)(x:UInt8):val (q.take (k+1)) x=val (q.take k) x^^^mul (ix q k) (pw x k):=by
 rw[jc q k h,val_append,List.length_take,Nat.min_eq_left (by omega)]
 congr 2
 rw[bM,fZ,zero_mul,zero_xor]
theorem xn(x a:UInt8)(q:List UInt8)(i:Nat)(out:List UInt8):∀k,k<=q.length->i+k<=out.length->
 val (addRow i a q k out) x=val out x^^^mul (mul a (pw x i)) (val (q.take k) x)
 |0,_,_=>by rw[addRow,List.take_zero,fZ,mul_zero,xor_zero]
 | k+1,h1,h2=>by
   rw[addRow,Gt _ _ _ _ (by rw[bI];omega),xn x a q i out k (by omega) (by omega),vW q k (by omega),eU,xor_assoc]
   congr 2
   rw[aep,mul_assoc,mul_assoc]
   congr 1
   rw[<-mul_assoc,<-mul_assoc,mul_comm (ix q k)]
theorem pY(p:List UInt8):∀n,(∀i,i<n->(lS p n<(i:Int)->ix p i=0))/\(0<=lS p n->ix p (lS p n).toNat≠0)/\ -1<=lS p n/\lS p n<n
 |0=>⟨λi h=>by omega,λh=>by simp[lS]at h,by simp[lS],by simp[lS]⟩
 | n+1=>by
   obtain⟨h1,h2,h3,h4⟩:=pY p n;unfold lS;by_cases h:ix p n=0
   ·rw[if_pos h];refine⟨λi hi hd=>?_,h2,h3,by omega⟩;by_cases e:i=n
    ·rw[e];exact h
    ·exact h1 i (by omega) hd
   ·rw[if_neg h];exact⟨λi hi hd=>by omega,λ_=>by simpa using h,by omega,by omega⟩
theorem Aj{p:List UInt8}{i:Nat}(h:jM p<(i:Int)):ix p i=0:=by
 by_cases hi:i<p.length
 ·exact(pY p p.length).1 i hi h
 ·exact bW (by omega)
theorem gV(p:List UInt8):-1<=jM p/\jM p<p.length:=⟨(pY p _).2.2.1,(pY p _).2.2.2⟩
theorem adB{p:List UInt8}{n:Nat}(h:jM p=(n:Int)):ix p n≠0:=by
 have:=(pY p p.length).2.1 (by show 0<=jM p;omega);have e:(lS p p.length).toNat=n:=by show(jM p).toNat=n;omega
 rwa[e]at this
theorem ajj{p:List UInt8}{n:Nat}(h:∀i,n<=i->ix p i=0):jM p<(n:Int):=by
 by_cases hd:jM p<(n:Int)
 ·exact hd
 ·have hb:=gV p;exact absurd (h (jM p).toNat (by omega)) (adB (by omega))
theorem xW(q:List UInt8)(n:Nat)(h0:ix q n≠0):∀(k:Nat)(S1 S2:List UInt8),(∀i,n+k<=i->ix S2 i=0)->∀i,n<=i->ix (dQ q n (inv (ix q n)) k (S1,S2)).2 i=0
 |0,S1,S2,h,i,hi=>h i (by omega)
 | k+1,S1,S2,h,i,hi=>by
   rw[dQ,kX];refine xW q n h0 k _ _ (λt ht=>?_) i hi;rw[qB];by_cases e:t=n+k
   ·subst e;simp only[Nat.add_sub_cancel_left];split
    ·rw[Nat.add_sub_cancel,<-mul_assoc,inv_mul h0,mul_one,xor_self]
    ·next hh=>
      by_cases hl:n+k<S2.length
      ·exact absurd ⟨by omega,by omega,hl⟩ hh
      ·exact bW (by omega)
   ·rw[if_neg (by omega)];exact h t (by omega)
theorem Af{p q:List UInt8}{n:Nat}(hn:jM q=(n:Int)):divide p q=dQ q n (inv (ix q n)) (jM p+1-n).toNat (List.replicate (max ((p.length:Int)-n) 1).toNat 0,p):=by unfold divide;rw[hn];simp only[Int.toNat_natCast]
theorem Ei(p q:List UInt8)(h:0<=jM q):jM (divide p q).2<jM q:=by obtain⟨n,hn⟩:∃n:Nat,jM q=(n:Int):=⟨(jM q).toNat,by omega⟩;rw[hn,Af hn];refine ajj λi hi=>xW q n (adB hn) _ _ _ (λt ht=>Aj (by omega)) i hi
theorem Bh(q:List UInt8)(n:Nat)(iv:UInt8):∀(k:Nat)(s:List UInt8×List UInt8),(dQ q n iv k s).1.length=s.1.length/\(dQ q n iv k s).2.length=s.2.length
 |0,s=>⟨rfl,rfl⟩
 |k+1,s=>by rw[dQ];obtain⟨h1,h2⟩:=Bh q n iv k (kX q n iv (n+k) s);rw[h1,h2];simp[kX,bI]
theorem Tq(p q:List UInt8):(divide p q).1.length=(max ((p.length:Int)-jM q) 1).toNat/\(divide p q).2.length=p.length:=by have:=Bh q (jM q).toNat (inv (ix q (jM q).toNat)) (jM p+1-jM q).toNat (List.replicate (max ((p.length:Int)-jM q) 1).toNat 0,p);unfold divide;exact⟨by rw[this.1];simp,this.2⟩
def Ob(t:Int):Nat->List UInt8->List UInt8->List UInt8->List UInt8->List UInt8×List UInt8
 |0,_,b,_,v=>(b,v)
 |f+1,a,b,u,v=>if t<=2*jM b then Ob t f b (divide a b).2 v (plus u (prod (divide a b).1 v)) else(b,v)
theorem qI(p q:List UInt8):(plus p q).length=max p.length q.length:=by simp[plus]
def nH(p:List UInt8)(n:Nat)(l:List Int):List UInt8:=
 repair p (prod (Ob ((n:Int)+l.length) n (List.replicate n 0++[1]) (xi p n l) [0] [1]).2 (dY p.length l l.length)) (Ob ((n:Int)+l.length) n (List.replicate n 0++[1]) (xi p n l) [0] [1]).1
def decode(p:List UInt8)(n:Int)(l:List Int):List UInt8×Int×Int:=
 if cO p n=false then([],0,1) else if lL p.length l=false then([],0,1) else if n<l.length then([],0,11)
 else if l = []/\mr (xi p n.toNat l)=true then(p,0,0)
 else if az (nH p n.toNat l) n=true/\2*kH p (nH p n.toNat l) l p.length+l.length<=n.toNat then(nH p n.toNat l,(iF p (nH p n.toNat l) p.length:Int),0) else([],0,11)
theorem abK(p:List UInt8)(n:Nat)(l:List Int)(hn:1<=n):(xi p n l).length=n:=by unfold xi;have e1:=dC p n;have e2:=gW p.length l l.length;rw[List.length_take,gJ _ _ (by intro e;rw[e]at e1;simp at e1;omega) (by intro e;rw[e]at e2;simp at e2),e1,e2];omega
end Go.Proofs.YtfnehkmhcmkhjaaGreat.G
namespace Go.Proofs.YtfnehkmhcmkhjaaGreat.T
structure ax where
 num:Int
 dm:Int
 st:Int
 len:Int
 nx:Int
 dZ:Int
 pk:Int
def z:ax:=⟨0,0,0,0,0,0,0⟩
def tr(l:List ax)(i:Nat):ax:=(l[i]?).getD z
def eB(l:List ax)(i:Nat):Int:=if i=0 then 0 else(tr l (i-1)).st+(tr l (i-1)).len
def sB(l:List ax)(i:Nat):Int:=if i=0 then 1 else(tr l (i-1)).dm
def okR(cap cl:Int)(l:List ax)(i:Nat):Prop:=
 (tr l i).num=i+1/\(tr l i).dm=(if 0<i/\(tr l i).dm=sB l i+1 then sB l i+1 else sB l i)/\(tr l i).dm<=cl+1/\(tr l i).dm<=16/\
 (tr l i).st=(if 0<i/\(tr l i).dm=sB l i+1 then eB l i+16 else eB l i)/\1<=(tr l i).len/\(tr l i).len<=cap-(tr l i).st/\
 0<=(tr l i).pk/\(tr l i).pk<=1024/\(tr l i).st<=(tr l i).nx/\(tr l i).nx<=(tr l i).st+(tr l i).len/\
 (0<(tr l i).pk->(tr l i).len.tmod (tr l i).pk=0/\((tr l i).nx-(tr l i).st).tmod (tr l i).pk=0)/\
 ((tr l i).dZ=2/\(tr l i).nx=(tr l i).st+(tr l i).len\/(tr l i).dZ=0/\(tr l i).nx=(tr l i).st\/(tr l i).dZ=1/\(tr l i).nx≠(tr l i).st)/\
 ((tr l i).dm<=cl->(tr l i).dZ=2)
def okI(cap cl:Int)(fin:Bool)(l:List ax)(i:Nat):Prop:=
 (tr l i).num=i+1/\(i=0->(tr l i).dm=1)/\(0<i->(tr l i).dm-sB l i=0\/(tr l i).dm-sB l i=1)/\
 (tr l i).dm<=cl+1/\(tr l i).dm<=16/\(cl<(tr l i).dm\/(tr l i).dZ=2)/\(fin=true->(tr l i).dm<=cl)/\
 (tr l i).st=(if i=0 then 0 else if sB l i<(tr l i).dm then eB l i+16 else eB l i)/\
 1<=(tr l i).len/\(tr l i).len<=cap/\(tr l i).st<=cap-(tr l i).len/\
 ((tr l i).pk=0\/1<=(tr l i).pk/\(tr l i).pk<=1024/\(tr l i).len.tmod (tr l i).pk=0/\((tr l i).nx-(tr l i).st).tmod (tr l i).pk=0)/\
 ((tr l i).dZ=2->(tr l i).nx=(tr l i).st+(tr l i).len)/\
 ((tr l i).dZ≠2->(tr l i).st<=(tr l i).nx/\(tr l i).nx<=(tr l i).st+(tr l i).len/\(tr l i).dZ=if (tr l i).nx=(tr l i).st then 0 else 1)
theorem ad1(cap cl:Int)(fin:Bool)(l:List ax)(i:Nat)(h0:0<=eB l i):okI cap cl fin l i↔okR cap cl l i/\(fin=true->(tr l i).dm<=cl):=by
 unfold okI okR;have hz:i=0->sB l i=1/\eB l i=0:=λh=>by unfold sB eB;rw[if_pos h,if_pos h];exact⟨rfl,rfl⟩
 generalize (tr l i).num=a1 at *;generalize (tr l i).dm=a2 at *;generalize (tr l i).st=a3 at *;generalize (tr l i).len=a4 at *;generalize (tr l i).nx=a5 at *;generalize (tr l i).dZ=a6 at *;generalize (tr l i).pk=a7 at *;generalize sB l i=s at *;generalize eB l i=e at *;generalize a4.tmod a7=t1;generalize (a5-a3).tmod a7=t2;by_cases hi:i=0
 ·obtain⟨hs,he⟩:=hz hi;subst hi hs he;constructor
  ·rintro⟨g1,g2,g3,g4,g5,g6,g7,g8,g9,g10,g11,g12,g13,g14⟩;refine⟨⟨g1,?_,g4,g5,?_,g9,by omega,by omega,by omega,?_,?_,λh=>by omega,?_,by omega⟩,g7⟩
   ·rw[if_neg (by omega)];exact g2 rfl
   ·rw[if_neg (by omega)];simpa using g8
   ·by_cases h:a6=2
    ·have:=g13 h;omega
    ·exact(g14 h).1
   ·by_cases h:a6=2
    ·have:=g13 h;omega
    ·exact(g14 h).2.1
   ·by_cases h:a6=2
    ·exact .inl ⟨h,g13 h⟩
    ·have h2:=(g14 h).2.2;split at h2
     ·exact .inr (.inl ⟨h2,by assumption⟩)
     ·exact .inr (.inr ⟨h2,by assumption⟩)
  ·rintro⟨⟨g1,g2,g3,g4,g5,g6,g7,g8,g9,g10,g11,g12,g13,g14⟩,g15⟩;rw[if_neg (by omega)]at g2 g5;refine⟨g1,λ_=>g2,λh=>by omega,g3,g4,by omega,g15,by simpa using g5,g6,by omega,by omega,?_,by omega,λh=>⟨g10,g11,?_⟩⟩
   ·by_cases h:a7=0
    ·exact .inl h
    ·have:=g12 (by omega);exact .inr ⟨by omega,by omega,this.1,this.2⟩
   ·split <;> omega
 ·constructor
  ·rintro⟨g1,g2,g3,g4,g5,g6,g7,g8,g9,g10,g11,g12,g13,g14⟩;have h3:=g3 (by omega);rw[if_neg hi]at g8;refine⟨⟨g1,?_,g4,g5,?_,g9,by omega,by omega,by omega,?_,?_,λh=>by omega,?_,by omega⟩,g7⟩
   ·split <;> omega
   ·split at g8 <;> split <;> omega
   ·by_cases h:a6=2
    ·have:=g13 h;omega
    ·exact(g14 h).1
   ·by_cases h:a6=2
    ·have:=g13 h;omega
    ·exact(g14 h).2.1
   ·by_cases h:a6=2
    ·exact .inl ⟨h,g13 h⟩
    ·have h2:=(g14 h).2.2;split at h2
     ·exact .inr (.inl ⟨h2,by assumption⟩)
     ·exact .inr (.inr ⟨h2,by assumption⟩)
  ·rintro⟨⟨g1,g2,g3,g4,g5,g6,g7,g8,g9,g10,g11,g12,g13,g14⟩,g15⟩;have hst:0<=a3:=by split at g5 <;> omega
   refine⟨g1,λh=>absurd h hi,λh=>?_,g3,g4,by omega,g15,?_,g6,by omega,by omega,?_,by omega,λh=>⟨g10,g11,?_⟩⟩
   ·split at g2 <;> omega
   ·rw[if_neg hi];split at g2 <;> split at g5 <;> split <;> omega
   ·by_cases h:a7=0
    ·exact .inl h
    ·have:=g12 (by omega);exact .inr ⟨by omega,by omega,this.1,this.2⟩
   ·split <;> omega
theorem kY(l:List ax)(i:Nat):eB l (i+1)=(tr l i).st+(tr l i).len:=by unfold eB;rw[if_neg (by omega)];rfl
theorem fV(l:List ax)(i:Nat):sB l (i+1)=(tr l i).dm:=by unfold sB;rw[if_neg (by omega)];rfl
theorem Df(l:List ax):eB l 0=0:=rfl
theorem yV(l:List ax):sB l 0=1:=rfl
theorem okR.next{cap cl:Int}{l:List ax}{i:Nat}(h:okR cap cl l i):eB l i<eB l (i+1)/\sB l i<=sB l (i+1)/\sB l (i+1)<=sB l i+1:=by obtain⟨_,g2,_,_,g5,g6,_⟩:=h;rw[kY,fV];split at g2 <;> split at g5 <;> omega
theorem okI.next{cap cl:Int}{fin:Bool}{l:List ax}{i:Nat}(h0:0<=eB l i)(h:okI cap cl fin l i):0<=eB l (i+1):=by
 obtain⟨_,_,_,_,_,_,_,g8,g9,_⟩:=h;rw[kY];split at g8
 ·omega
 ·split at g8 <;> omega
theorem okR.ends{cap cl:Int}{l:List ax}{n:Nat}(h:∀i,i<n->okR cap cl l i):∀i,i<=n->0<=eB l i
 |0,_=>by rw[Df];omega
 |i+1,hi=>by have h1:=okR.ends h i (by omega);have h2:=(h i (by omega)).next;omega
theorem okI.ends{cap cl:Int}{fin:Bool}{l:List ax}{n:Nat}(h:∀i,i<n->okI cap cl fin l i):∀i,i<=n->0<=eB l i
 |0,_=>by rw[Df];omega
 |i+1,hi=>okI.next (okI.ends h i (by omega)) (h i (by omega))
theorem okR.mono{cap cl:Int}{l:List ax}{n:Nat}(h:∀i,i<n->okR cap cl l i)(i:Nat):∀d,i+d<=n->sB l i<=sB l (i+d)
 |0,_=>by rw[Nat.add_zero];omega
 | d+1,hd=>by
   have h1:=okR.mono h i d (by omega);have h2:=(h (i+d) (by omega)).next;have e:i+(d+1)=i+d+1:=by omega
   rw[e];omega
def Vw(cap cl:Int)(fin:Bool)(l:List ax):Prop:=
 1<=cap/\cap<=449849/\l.length<=99/\0<=cl/\cl<=16/\¬ (fin=true/\cl=0)/\(∀i,i<l.length->okI cap cl fin l i)/\(cl=0\/0<l.length/\cl<=sB l l.length)
def aK(cap cl:Int)(fin:Bool)(l:List ax):Prop:=
 1<=cap/\cap<=449849/\l.length<=99/\0<=cl/\cl<=16/\(∀i,i<l.length->okR cap cl l i)/\cl<=(if 0<l.length then sB l l.length else 0)/\
 (fin=true->1<=cl/\(if 0<l.length then sB l l.length else 0)=cl)
theorem iC(cap cl:Int)(fin:Bool)(l:List ax):Vw cap cl fin l↔aK cap cl fin l:=by
 unfold Vw aK;constructor
 ·rintro⟨g1,g2,g3,g4,g5,g6,g7,g8⟩;have he:=okI.ends g7;have hr:∀i,i<l.length->okR cap cl l i/\(fin=true->(tr l i).dm<=cl):=λi hi=>(ad1 cap cl fin l i (he i (by omega))).1 (g7 i hi)
  have hm:=okR.mono (λi hi=>(hr i hi).1) 0 l.length (by omega);rw[Nat.zero_add,yV]at hm;refine⟨g1,g2,g3,g4,g5,λi hi=>(hr i hi).1,?_,λhf=>?_⟩
  ·split <;> omega
  ·have hc:cl≠0:=λe=>g6 ⟨hf,e⟩
   have h8:=g8.resolve_left hc;rw[if_pos h8.1];obtain⟨m,hm⟩:∃m,l.length=m+1:=⟨l.length-1,by omega⟩;have h9:=(hr m (by omega)).2 hf;rw[hm,fV]at h8 ⊢;omega
 ·rintro⟨g1,g2,g3,g4,g5,g6,g7,g8⟩;have he:=okR.ends g6;refine⟨g1,g2,g3,g4,g5,λ⟨h1,h2⟩=>by have:=(g8 h1).1;omega,λi hi=>(ad1 cap cl fin l i (he i (by omega))).2 ⟨g6 i hi,λhf=>?_⟩,?_⟩
  ·have h1:=(g8 hf).2;rw[if_pos (by omega)]at h1;have h2:=okR.mono g6 (i+1) (l.length-(i+1)) (by omega);have e:i+1+(l.length-(i+1))=l.length:=by omega
   rw[e,fV]at h2;omega
  ·by_cases h:0<l.length
   ·rw[if_pos h]at g7;exact .inr ⟨h,g7⟩
   ·rw[if_neg h]at g7;exact .inl (by omega)
theorem jd(l m:List ax)(i:Nat)(h:i<l.length):tr (l++m) i=tr l i:=by unfold tr;rw[List.getElem?_append_left h]
theorem rV(l:List ax)(x:ax):tr (l++[x]) l.length=x:=by unfold tr;rw[List.getElem?_append_right (Nat.le_refl _)];simp
theorem ZZ(l m:List ax)(i:Nat)(h:i<=l.length):eB (l++m) i=eB l i:=by
 cases i with
 |zero=>rfl
 |succ i=>rw[kY,kY,jd _ _ _ (by omega)]
theorem aa8(l m:List ax)(i:Nat)(h:i<=l.length):sB (l++m) i=sB l i:=by
 cases i with
 |zero=>rfl
 |succ i=>rw[fV,fV,jd _ _ _ (by omega)]
theorem kW(l:List ax)(x:ax)(i k:Nat)(h:i≠k):tr (l.set k x) i=tr l i:=by unfold tr;rw[List.getElem?_set_ne (λe=>h e.symm)]
theorem gy(l:List ax)(x:ax)(k:Nat)(h:k<l.length):tr (l.set k x) k=x:=by unfold tr;rw[List.getElem?_set_self h];rfl
def um(count pk:Int):Prop:=1<=count/\0<=pk/\pk<=1024/\(0<pk->count.tmod pk=0)
def AY(cl:Int)(l:List ax):Int:=if l.length=0 then 0 else if sB l l.length<=cl then eB l l.length+16 else eB l l.length
def Qq(cl:Int)(l:List ax)(count pk:Int):ax:=⟨l.length+1,cl+1,AY cl l,count,AY cl l,0,pk⟩
theorem II{cap cl:Int}{fin:Bool}{l:List ax}{count pk:Int}(hv:aK cap cl fin l)(hf:fin=false)(hp:um count pk)(hn:l.length<99)(hc:cl<16)(hr:count<=cap-AY cl l):
 aK cap cl fin (l++[Qq cl l count pk]):=by
 obtain⟨g1,g2,g3,g4,g5,g6,g7,g8⟩:=hv;obtain⟨p1,p2,p3,p4⟩:=hp;have hl:(l++[Qq cl l count pk]).length=l.length+1:=by simp
 have hlast:0<l.length->sB l l.length<=cl+1:=λh=>by obtain⟨m,hm⟩:∃m,l.length=m+1:=⟨l.length-1,by omega⟩;have h9:=(g6 m (by omega)).2.2.1;rw[hm,fV];exact h9
 refine⟨g1,g2,by omega,g4,g5,λi hi=>?_,?_,λh=>by rw[hf]at h;cases h⟩
 ·rw[hl]at hi;unfold okR;rw[ZZ _ _ _ (by omega),aa8 _ _ _ (by omega)];by_cases h:i<l.length
  ·rw[jd _ _ _ h];exact g6 i h
  ·obtain rfl:i=l.length:=by omega
   rw[rV];have hz:l.length=0->sB l l.length=1/\eB l l.length=0:=λh=>by rw[h];exact⟨rfl,rfl⟩
   have hz2:((0:Int)).tmod pk=0:=Int.zero_tmod _;unfold Qq AY at *;simp only;refine⟨trivial,?_,by omega,by omega,?_,p1,hr,p2,p3,by omega,by omega,λh=>⟨p4 h,?_⟩,.inr (.inl ⟨trivial,trivial⟩),λh=>by omega⟩
   ·by_cases h0:l.length=0
    ·have:=hz h0;rw[if_neg (by omega)]at g7 ⊢;omega
    ·rw[if_pos (by omega)]at g7;have:=hlast (by omega);split <;> omega
   ·by_cases h0:l.length=0
    ·have:=hz h0;rw[if_pos h0,if_neg (by omega)];omega
    ·rw[if_pos (by omega)]at g7;have:=hlast (by omega);rw[if_neg h0];split <;> split <;> omega
   ·rw[Int.sub_self];exact hz2
 ·rw[hl,if_pos (by omega),fV,rV];unfold Qq;simp only;omega
theorem JU{cap cl:Int}{fin:Bool}{l:List ax}{k:Nat}(hv:aK cap cl fin l)(hk:k<l.length)(x:ax)(h1:x.num=(tr l k).num)(h2:x.dm=(tr l k).dm)(h3:x.st=(tr l k).st)
 (h4:k+1<l.length->x.len=(tr l k).len)(h5:1<=x.len)(h6:x.len<=cap-x.st)(h7:x.pk=(tr l k).pk)(h8:x.st<=x.nx)(h9:x.nx<=x.st+x.len)
 (h10:0<x.pk->x.len.tmod x.pk=0/\(x.nx-x.st).tmod x.pk=0)(h11:x.dZ=2/\x.nx=x.st+x.len\/x.dZ=0/\x.nx=x.st\/x.dZ=1/\x.nx≠x.st)(h12:x.dm<=cl->x.dZ=2):aK cap cl fin (l.set k x):=by
 obtain⟨g1,g2,g3,g4,g5,g6,g7,g8⟩:=hv;have hl:(l.set k x).length=l.length:=by simp
 have hs:∀i,i<=l.length->sB (l.set k x) i=sB l i:=λi hi=>by
  cases i with
  |zero=>rfl
  | succ i=>
    rw[fV,fV];by_cases e:i=k
    ·rw[e,gy _ _ _ hk,h2]
    ·rw[kW _ _ _ _ e]
 have he:∀i,i<l.length->eB (l.set k x) i=eB l i:=λi hi=>by
  cases i with
  |zero=>rfl
  | succ i=>
    rw[kY,kY];by_cases e:i=k
    ·rw[e,gy _ _ _ hk,h3,h4 (by omega)]
    ·rw[kW _ _ _ _ e]
 refine⟨g1,g2,by omega,g4,g5,λi hi=>?_,by rw[hl,hs _ (Nat.le_refl _)];exact g7,by rw[hl,hs _ (Nat.le_refl _)];exact g8⟩;rw[hl]at hi;have ho:=g6 i hi;unfold okR at ho ⊢;rw[he i hi,hs i (by omega)];by_cases e:i=k
 ·subst e;rw[gy _ _ _ hk];obtain⟨o1,o2,o3,o4,o5,o6,o7,o8,o9,Og,o11,Qs,o13,o14⟩:=ho;rw[<-h1]at o1;rw[<-h2]at o2 o3 o4 o5;rw[<-h3]at o5;rw[<-h7]at o8 o9;exact⟨o1,o2,o3,o4,o5,h5,h6,o8,o9,h8,h9,h10,h11,h12⟩
 ·rw[kW _ _ _ _ e];exact ho
def grown(x:ax)(count:Int):ax:={x with nx:=x.nx+count,dZ:=1}
def JV(x:ax):ax:={x with dZ:=2,len:=x.nx-x.st}
theorem IL{a b c:Int}(h1:a.tmod c=0)(h2:b.tmod c=0):(a+b).tmod c=0:=by have e1:=Int.dvd_of_tmod_eq_zero h1;have e2:=Int.dvd_of_tmod_eq_zero h2;exact Int.tmod_eq_zero_of_dvd (Int.dvd_add e1 e2)
theorem KQ{cap cl:Int}{fin:Bool}{l:List ax}{k:Nat}{count:Int}(hv:aK cap cl fin l)(hk:k<l.length)(hs:(tr l k).dZ≠2)(hp:um count (tr l k).pk)(hc:count<=(tr l k).st+(tr l k).len-(tr l k).nx):
 aK cap cl fin (l.set k (grown (tr l k) count)):=by
 have ho:=hv.2.2.2.2.2.1 k hk;obtain⟨o1,o2,o3,o4,o5,o6,o7,o8,o9,Og,o11,Qs,o13,o14⟩:=ho;obtain⟨p1,p2,p3,p4⟩:=hp;unfold grown;refine JU hv hk _ rfl rfl rfl (λ_=>rfl) o6 o7 rfl ?_ ?_ (λh=>⟨(Qs h).1,?_⟩) (.inr (.inr ⟨rfl,?_⟩)) (λh=>absurd (o14 h) hs)
 ·simp only;omega
 ·simp only;omega
 ·have e:(tr l k).nx+count-(tr l k).st=(tr l k).nx-(tr l k).st+count:=by omega
  simp only;rw[e];exact IL (Qs h).2 (p4 h)
 ·simp only;omega
theorem U9{cap cl:Int}{fin:Bool}{l:List ax}{k:Nat}(hv:aK cap cl fin l)(hk:k<l.length)(hs:(tr l k).dZ=1)(hc:k+1<l.length->(tr l k).nx=(tr l k).st+(tr l k).len):
 aK cap cl fin (l.set k (JV (tr l k))):=by
 have ho:=hv.2.2.2.2.2.1 k hk;obtain⟨o1,o2,o3,o4,o5,o6,o7,o8,o9,Og,o11,Qs,o13,o14⟩:=ho;unfold JV;have hne:(tr l k).nx≠(tr l k).st:=by omega
 refine JU hv hk _ rfl rfl rfl (λh=>?_) ?_ ?_ rfl Og ?_ (λh=>⟨(Qs h).2,(Qs h).2⟩) (.inl ⟨rfl,?_⟩) (λh=>rfl)
 ·have:=hc h;simp only;omega
 ·simp only;omega
 ·simp only;omega
 ·simp only;omega
 ·simp only;omega
theorem OX{cap cl:Int}{fin:Bool}{l:List ax}(f:Bool)(hv:aK cap cl fin l)(ha:∀i,i<l.length->(tr l i).dZ=2)(ho:∃i,i<l.length/\cl<(tr l i).dm):aK cap (cl+1) f l:=by
 obtain⟨g1,g2,g3,g4,g5,g6,g7,g8⟩:=hv;obtain⟨i,hi,hc⟩:=ho;have h1:=okR.mono g6 (i+1) (l.length-(i+1)) (by omega);have e:i+1+(l.length-(i+1))=l.length:=by omega
 rw[e,fV]at h1;have apg:=(g6 i hi).2.2.2.1;have hlast:sB l l.length<=cl+1:=by obtain⟨m,hm⟩:∃m,l.length=m+1:=⟨l.length-1,by omega⟩;have h9:=(g6 m (by omega)).2.2.1;rw[hm,fV];exact h9
 refine⟨g1,g2,g3,by omega,by omega,λj hj=>?_,by rw[if_pos (by omega)];omega,λ_=>⟨by omega,by rw[if_pos (by omega)];omega⟩⟩;have ho:=g6 j hj;unfold okR at ho ⊢;obtain⟨o1,o2,o3,o4,o5,o6,o7,o8,o9,Og,o11,Qs,o13,o14⟩:=ho;exact⟨o1,o2,by omega,o4,o5,o6,o7,o8,o9,Og,o11,Qs,o13,λ_=>ha j hj⟩
theorem PG{cap cl:Int}{fin:Bool}{l:List ax}(hv:aK cap cl fin l)(hc:cl≠0)(ho:∀i,i<l.length->(tr l i).dm<=cl):aK cap cl true l:=by
 obtain⟨g1,g2,g3,g4,g5,g6,g7,g8⟩:=hv;refine⟨g1,g2,g3,g4,g5,g6,g7,λ_=>⟨by omega,?_⟩⟩;by_cases h:0<l.length
 ·rw[if_pos h]at g7 ⊢;obtain⟨m,hm⟩:∃m,l.length=m+1:=⟨l.length-1,by omega⟩;have h9:=ho m (by omega);rw[hm,fV]at g7 ⊢;omega
 ·rw[if_neg h]at g7 ⊢;omega
def Step(cap cl:Int)(fin:Bool)(l:List ax)(cl':Int)(fin':Bool)(l':List ax):Prop:=
 fin=false/\cl'=cl/\fin'=fin/\(∃count pk,um count pk/\l.length<99/\cl<16/\count<=cap-AY cl l/\l'=l++[Qq cl l count pk])\/
 cl'=cl/\fin'=fin/\(∃k count,k<l.length/\(tr l k).dZ≠2/\um count (tr l k).pk/\count<=(tr l k).st+(tr l k).len-(tr l k).nx/\l'=l.set k (grown (tr l k) count))\/
 cl'=cl/\fin'=fin/\(∃k,k<l.length/\(tr l k).dZ=1/\(k+1<l.length->(tr l k).nx=(tr l k).st+(tr l k).len)/\l'=l.set k (JV (tr l k)))\/
 fin=false/\cl'=cl+1/\l'=l/\(∀i,i<l.length->(tr l i).dZ=2)/\(∃i,i<l.length/\cl<(tr l i).dm)\/
 fin=false/\cl'=cl/\fin'=true/\l'=l/\cl≠0/\(∀i,i<l.length->(tr l i).dZ=2)/\(∀i,i<l.length->(tr l i).dm<=cl)
theorem Step.valid{cap cl cl':Int}{fin fin':Bool}{l l':List ax}(hv:aK cap cl fin l)(h:Step cap cl fin l cl' fin' l'):aK cap cl' fin' l':=by
 rcases h with ⟨h0,rfl,rfl,c,pk,h1,h2,h3,h4,rfl⟩|⟨rfl,rfl,k,c,h1,h2,h3,h4,rfl⟩|⟨rfl,rfl,k,h1,h2,h3,rfl⟩|⟨h0,rfl,rfl,h1,h2⟩|⟨h0,rfl,rfl,rfl,h1,h2,h3⟩
 ·exact II hv h0 h1 h2 h3 h4
 ·exact KQ hv h1 h2 h3 h4
 ·exact U9 hv h1 h2 h3
 ·exact OX _ hv h1 h2
 ·exact PG hv h1 h3
def Kept(x y:ax):Prop:=(x.dZ=2->y=x)/\x.nx<=y.nx/\y.st=x.st/\y.dm=x.dm/\y.len<=x.len
theorem Kept.refl(x:ax):Kept x x:=⟨λ_=>rfl,Int.le_refl _,rfl,rfl,Int.le_refl _⟩
theorem Step.kept{cap cl cl':Int}{fin fin':Bool}{l l':List ax}(hv:aK cap cl fin l)(h:Step cap cl fin l cl' fin' l'):l.length<=l'.length/\cl<=cl'/\cl'<=cl+1/\∀i,i<l.length->Kept (tr l i) (tr l' i):=by
 rcases h with ⟨h0,rfl,rfl,c,pk,h1,h2,h3,h4,rfl⟩|⟨rfl,rfl,k,c,h1,h2,h3,h4,rfl⟩|⟨rfl,rfl,k,h1,h2,h3,rfl⟩|⟨h0,rfl,rfl,h1,h2⟩|⟨h0,rfl,rfl,rfl,h1,h2,h3⟩
 ·refine⟨by simp,by omega,by omega,λi hi=>?_⟩;rw[jd _ _ _ hi];exact Kept.refl _
 ·refine⟨by simp,by omega,by omega,λi hi=>?_⟩;by_cases e:i=k
  ·subst e;rw[gy _ _ _ h1];have hp:=h3.1;refine⟨λe2=>absurd e2 h2,?_,rfl,rfl,Int.le_refl _⟩;unfold grown;simp only;omega
  ·rw[kW _ _ _ _ e];exact Kept.refl _
 ·refine⟨by simp,by omega,by omega,λi hi=>?_⟩;by_cases e:i=k
  ·subst e;rw[gy _ _ _ h1];have ho:=hv.2.2.2.2.2.1 i h1;obtain⟨o1,o2,o3,o4,o5,o6,o7,o8,o9,Og,o11,Qs,o13,o14⟩:=ho;refine⟨λe2=>by omega,Int.le_refl _,rfl,rfl,?_⟩;unfold JV;simp only;omega
  ·rw[kW _ _ _ _ e];exact Kept.refl _
 ·exact⟨Nat.le_refl _,by omega,by omega,λi _=>Kept.refl _⟩
 ·exact⟨Nat.le_refl _,by omega,by omega,λi _=>Kept.refl _⟩
def Done(l:List ax)(k:Int):Prop:=∃i,i<l.length/\(tr l i).st<=k/\k<(tr l i).nx
section
variable {cap cl:Int} {l:List ax} {n:Nat}
theorem Ji(h:∀i,i<n->okR cap cl l i)(i:Nat):∀d,i+d<=n->eB l i<=eB l (i+d)
 |0,_=>by rw[Nat.add_zero];omega
 | d+1,hd=>by
   have h1:=Ji h i d (by omega);have h2:=(h (i+d) (by omega)).next;have e:i+(d+1)=i+d+1:=by omega
   rw[e];omega
theorem okR.from{i:Nat}(h:okR cap cl l i):eB l i<=(tr l i).st:=by obtain⟨_,_,_,_,g5,_⟩:=h;split at g5 <;> omega
theorem apart(h:∀i,i<n->okR cap cl l i){i j:Nat}(hij:i<j)(hj:j<n):(tr l i).st+(tr l i).len<=(tr l j).st:=by
 have h1:=Ji h (i+1) (j-(i+1)) (by omega);have e:i+1+(j-(i+1))=j:=by omega
 rw[e,kY]at h1;have h2:=(h j hj).from
 omega
theorem only(h:∀i,i<n->okR cap cl l i){i j:Nat}(hi:i<n)(hj:j<n){k:Int}(h1:(tr l i).st<=k)(h2:k<(tr l i).st+(tr l i).len)(h3:(tr l j).st<=k)(h4:k<(tr l j).st+(tr l j).len):i=j:=by
 rcases Nat.lt_trichotomy i j with g|g|g
 ·have:=apart h g hj;omega
 ·exact g
 ·have:=apart h g hi;omega
end
section
variable {cap cl:Int} {fin:Bool} {l:List ax}
theorem aK.at(hv:aK cap cl fin l){i:Nat}(hi:i<l.length):(tr l i).num=i+1/\0<=(tr l i).st/\(tr l i).st+(tr l i).len<=cap/\(tr l i).st<=(tr l i).nx/\(tr l i).nx<=(tr l i).st+(tr l i).len:=by
 have ho:=hv.2.2.2.2.2.1 i hi;have h1:=ho.from
 have h2:=okR.ends hv.2.2.2.2.2.1 i (by omega);obtain⟨o1,o2,o3,o4,o5,o6,o7,o8,o9,Og,o11,Qs,o13,o14⟩:=ho;exact⟨o1,by omega,by omega,Og,o11⟩
theorem acy{i:Nat}(hi:i<l.length)(x:ax)(h1:x.st=(tr l i).st)(h2:x.nx=(tr l i).nx)(k:Int):Done (l.set i x) k↔Done l k:=by
 have key:∀j,(tr (l.set i x) j).st=(tr l j).st/\(tr (l.set i x) j).nx=(tr l j).nx:=λj=>by
  by_cases e:j=i
  ·subst e;rw[gy _ _ _ hi];exact⟨h1,h2⟩
  ·rw[kW _ _ _ _ e];exact⟨rfl,rfl⟩
 unfold Done;constructor
 ·rintro⟨j,hj,g1,g2⟩;rw[(key j).1]at g1;rw[(key j).2]at g2;rw[List.length_set]at hj;exact⟨j,hj,g1,g2⟩
 ·rintro⟨j,hj,g1,g2⟩;refine⟨j,by rw[List.length_set];exact hj,?_⟩;rw[(key j).1,(key j).2];exact⟨g1,g2⟩
theorem acx(x:ax)(h:x.nx=x.st)(k:Int):Done (l++[x]) k↔Done l k:=by
 constructor
 ·rintro⟨j,hj,g1,g2⟩;rw[List.length_append]at hj;by_cases e:j<l.length
  ·rw[jd _ _ _ e]at g1 g2;exact⟨j,e,g1,g2⟩
  ·obtain rfl:j=l.length:=by simp at hj;omega
   rw[rV]at g1 g2;omega
 ·rintro⟨j,hj,g1,g2⟩;refine⟨j,by simp;omega,?_⟩;rw[jd _ _ _ hj];exact⟨g1,g2⟩
end
theorem abI{cap:Int}(h1:1<=cap)(h2:cap<=449849):aK cap 0 false []:=by refine⟨h1,h2,by simp,by omega,by omega,λi hi=>by simp at hi,by simp,λh=>by cases h⟩
end Go.Proofs.YtfnehkmhcmkhjaaGreat.T
namespace Go.Proofs.YtfnehkmhcmkhjaaGreat.Q
open T (ax tr eB)
structure Fr where
 ctl:Int
 bP:Int
 pt:Int
 rm:Int
 rs:Int
 rf:Int
 am:Int
 as:Int
 af:Int
 deriving DecidableEq
def z:Fr:=⟨0,0,0,0,0,0,0,0,0⟩
def mM(n:Int):Int:=n/4500
def mS(n:Int):Int:=n/75%60
def mF(n:Int):Int:=n%75
def okS(l:List ax)(i:Nat):Prop:=
 1<=(tr l i).num/\(tr l i).num<=99/\(0<i->(tr l i).num=(tr l (i-1)).num+1)/\eB l i<=(tr l i).st/\(tr l i).st<=449849/\1<=(tr l i).len/\(tr l i).len<=449849-(tr l i).st
instance (l:List ax) (i:Nat):Decidable (okS l i):=by unfold okS;infer_instance
def KH(l:List ax):Prop:=1<=l.length/\l.length<=99/\∀i,i<l.length->okS l i
instance (l:List ax):Decidable (KH l):=by unfold KH;infer_instance
def en(l:List ax)(i:Nat):Int:=(tr l i).st+(tr l i).len
def aly(l:List ax):Int:=en l (l.length-1)
theorem okS.ends{l:List ax}{n:Nat}(h:∀i,i<n->okS l i):∀i,i<=n->0<=eB l i/\eB l i<=449849
 |0,_=>by rw[T.Df];omega
 |i+1,hi=>by obtain⟨h0,_⟩:=okS.ends h i (by omega);obtain⟨_,_,_,h4,h5,h6,h7⟩:=h i (by omega);rw[T.kY];omega
theorem KH.at{l:List ax}(h:KH l){i:Nat}(hi:i<l.length):1<=(tr l i).num/\(tr l i).num<=99/\0<=(tr l i).st/\(tr l i).st<=449848/\1<=(tr l i).len/\(tr l i).st+(tr l i).len<=449849:=by obtain⟨h1,h2,_,h4,h5,h6,h7⟩:=h.2.2 i hi;have:=okS.ends h.2.2 i (by omega);omega
theorem KH.mono{l:List ax}(h:KH l)(i:Nat):∀d,i+d<l.length->(tr l (i+d)).num=(tr l i).num+d/\(0<d->en l i<=(tr l (i+d)).st)
 |0,_=>by rw[Nat.add_zero];exact⟨by simp,λh=>by omega⟩
 | d+1,hd=>by
   obtain⟨h1,h2⟩:=KH.mono h i d (by omega);obtain⟨_,_,g3,g4,_⟩:=h.2.2 (i+d+1) (by omega);obtain⟨_,_,_,_,_,g6,_⟩:=h.2.2 (i+d) (by omega);rw[T.kY]at g4;have g3':=g3 (by omega);rw[Nat.add_sub_cancel]at g3';have e:i+(d+1)=i+d+1:=by omega
   rw[e,g3',h1];refine⟨by omega,λ_=>?_⟩;by_cases h0:d=0
   ·subst h0;unfold en;simp only[Nat.add_zero]at *;omega
   ·have:=h2 (by omega);omega
theorem KH.ends{l:List ax}(h:KH l){i:Nat}(hi:i<l.length):en l i<=aly l:=by
 unfold aly;by_cases e:i=l.length-1
 ·rw[<-e];omega
 ·have h1:=(h.mono i (l.length-1-i) (by omega)).2 (by omega);have e2:i+(l.length-1-i)=l.length-1:=by omega
  rw[e2]at h1;have:=(h.at (i:=l.length-1) (by omega));unfold en at h1 ⊢;omega
end Go.Proofs.YtfnehkmhcmkhjaaGreat.Q
