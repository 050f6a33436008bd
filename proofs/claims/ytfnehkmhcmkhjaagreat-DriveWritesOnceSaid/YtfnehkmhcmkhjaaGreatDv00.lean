/- Parts:XGf XG8 -/
import Init.Data.Nat.Bitwise.Lemmas
import Init.Data.List.Lemmas
set_option maxRecDepth 100000
set_option maxHeartbeats 8000000
set_option linter.unusedVariables false
namespace Go.Proofs.YtfnehkmhcmkhjaaGreat.Gf
def yC(a:Nat):Nat:=if 128<=a then(2 * a - 256) ^^^ 29 else 2 * a
def mulN:Nat->Nat->Nat->Nat
 | 0,_,_=>0
 | k+1,a,b=>(if b % 2=1 then a else 0) ^^^ mulN k (yC a) (b / 2)
def mul(a b:Nat):Nat:=mulN 8 a b
def iter:Nat->Nat->Nat
 | 0,a=>a
 | n+1,a=>iter n (yC a)
def exp(n:Nat):Nat:=iter n 1
theorem Ls{a b:Nat}(ha:a<256)(hb:b<256):a ^^^ b<256:=Nat.xor_lt_two_pow (n:=8) ha hb
theorem rX{a:Nat}(h:a<256):yC a<256:=by
 unfold yC;split
 ·exact Ls (by omega) (by omega)
 ·omega
theorem Na(k:Nat):∀{a b:Nat},a<256->mulN k a b<256:=by
 induction k with
 | zero=>intro a b _; simp[mulN]
 | succ k ih=>
   intro a b h;simp only[mulN];refine Ls ?_ (ih (rX h));split
   ·exact h
   ·omega
theorem mul_lt{a b:Nat}(h:a<256):mul a b<256:=Na 8 h
theorem MM(n:Nat):∀{a:Nat},a<256->iter n a<256:=by
 induction n with
 | zero=>exact fun h=>h
 | succ n ih=>exact fun h=>ih (rX h)
theorem vw(n:Nat):exp n<256:=MM n (by omega)
def allB(n:Nat)(p:Nat->Bool):Bool:=Nat.rec true (fun k r=>r && p k) n
theorem kG{n:Nat}{p:Nat->Bool}(h:allB n p=true):∀i,i<n->p i=true:=by
 induction n with
 | zero=>intro i hi; omega
 | succ n ih=>
   have h':(allB n p && p n)=true:=h;rw[Bool.and_eq_true]at h';intro i hi;rcases Nat.lt_or_ge i n with hl | hg
   ·exact ih h'.1 i hl
   ·obtain rfl:i=n:=by omega
    exact h'.2
theorem WI{a b:Nat}(ha:a<256)(hb:b<256):yC (a ^^^ b)=yC a ^^^ yC b:=by
 have h:allB 256 (fun a=>allB 256 fun b=>yC (a ^^^ b) == (yC a ^^^ yC b))=true:=by decide+kernel
 exact beq_iff_eq.1 (kG (kG h a ha) b hb)
theorem yD:yC 0=0:=by decide
theorem yV(k:Nat):∀b,mulN k 0 b=0:=by
 induction k with
 | zero=>intro b; rfl
 | succ k ih=>intro b; simp[mulN,yD,ih]
theorem og(k:Nat):∀a,mulN k a 0=0:=by
 induction k with
 | zero=>intro b; rfl
 | succ k ih=>intro b; simp[mulN,ih]
theorem Uc(k:Nat):∀{a b:Nat},a<256->mulN k (yC a) b=yC (mulN k a b):=by
 induction k with
 | zero=>intro a b _; simp[mulN,yD]
 | succ k ih=>
   intro a b h;simp only[mulN];rw[ih (rX h),WI (by split <;> omega) (Na k (rX h)),]
   congr 1
   split
   ·rfl
   ·exact yD.symm
theorem Ud(n:Nat):∀{a b:Nat},a<256->mul (iter n a) b=iter n (mul a b):=by
 induction n with
 | zero=>intro a b _; rfl
 | succ n ih=>
   intro a b h;simp only[iter];rw[ih (rX h)];unfold mul;rw[Uc 8 h]
theorem one_mul{b:Nat}(h:b<256):mul 1 b=b:=by
 have h':allB 256 (fun b=>mul 1 b == b)=true:=by decide+kernel
 exact beq_iff_eq.1 (kG h' b h)
theorem TN(m n:Nat):∀a,iter m (iter n a)=iter (m+n) a:=by
 induction n with
 | zero=>intro a; rfl
 | succ n ih=>intro a; exact ih (yC a)
theorem Dn(m n:Nat):exp (m+n)=mul (exp m) (exp n):=by unfold exp;rw[Ud m (by omega),one_mul (MM n (by omega)),TN]
theorem WZ:exp 255=1:=by decide+kernel
theorem FO(n:Nat):exp (n+255)=exp n:=by
 rw[Dn,WZ];have h:∀a,a<256->mul a 1=a:=by
  have h':allB 256 (fun a=>mul a 1 == a)=true:=by decide+kernel
  exact fun a h=>beq_iff_eq.1 (kG h' a h)
 exact h _ (vw n)
theorem FP(n k:Nat):exp (n+255 * k)=exp n:=by
 induction k with
 | zero=>rfl
 | succ k ih=>rw[show n+255 * (k+1)=(n+255 * k)+255 by omega,FO,ih]
theorem Xa(n:Nat):exp (n % 255)=exp n:=by
 conv=>rhs; rw[<-Nat.mod_add_div n 255]
 rw[FP]
def TY(a:Nat):Nat->Nat->Nat->Nat
 | 0,_,_=>255
 | f+1,n,x=>if x=a then n else TY a f (n+1) (yC x)
def log(a:Nat):Nat:=TY a 255 0 1
theorem O0:allB 256 (fun a=>a == 0 || (decide (log a<255) && exp (log a) == a))=true:=by decide+kernel
theorem xE{a:Nat}(h:a<256)(h0:a≠0):log a<255/\exp (log a)=a:=by have:=kG O0 a h;simp only[Bool.or_eq_true,beq_iff_eq,Bool.and_eq_true,decide_eq_true_eq]at this;exact this.resolve_left h0
theorem Au:allB 255 (fun n=>log (exp n) == n)=true:=by decide+kernel
theorem MX{n:Nat}(h:n<255):log (exp n)=n:=beq_iff_eq.1 (kG Au n h)
theorem Ua:log 0=255:=by decide+kernel
theorem FQ(n:Nat):exp n≠0:=by intro h;have h1:=MX (Nat.mod_lt n (by omega):n % 255<255);rw[Xa,h,Ua]at h1;have:=Nat.mod_lt n (show 255 > 0 by omega);omega
theorem mul_zero(a:Nat):mul a 0=0:=og 8 a
theorem zero_mul(b:Nat):mul 0 b=0:=yV 8 b
theorem mul_comm{a b:Nat}(ha:a<256)(hb:b<256):mul a b=mul b a:=by
 by_cases h0:a=0
 ·subst h0; rw[zero_mul,mul_zero]
 ·by_cases h1:b=0
  ·subst h1; rw[zero_mul,mul_zero]
  ·rw[<-(xE ha h0).2,<-(xE hb h1).2,<-Dn,<-Dn,Nat.add_comm]
def inv(a:Nat):Nat:=if a=0 then 0 else exp ((255 - log a) % 255)
theorem abb(a:Nat):inv a<256:=by
 unfold inv; split
 ·omega
 ·exact vw _
end Go.Proofs.YtfnehkmhcmkhjaaGreat.Gf
namespace Go.Proofs.YtfnehkmhcmkhjaaGreat.G
def mul(a b:UInt8):UInt8:=UInt8.ofNat (Gf.mul a.toNat b.toNat)
def inv(a:UInt8):UInt8:=UInt8.ofNat (Gf.inv a.toNat)
def exp(n:Nat):UInt8:=UInt8.ofNat (Gf.exp n)
theorem lt(a:UInt8):a.toNat<256:=UInt8.toNat_lt a
theorem zX{n:Nat}(h:n<256):(UInt8.ofNat n).toNat=n:=by simp; omega
theorem toNat_mul(a b:UInt8):(mul a b).toNat=Gf.mul a.toNat b.toNat:=zX (Gf.mul_lt (lt a))
theorem Qo(a:UInt8):(inv a).toNat=Gf.inv a.toNat:=zX (Gf.abb _)
theorem Qn(n:Nat):(exp n).toNat=Gf.exp n:=zX (Gf.vw n)
theorem ext{a b:UInt8}(h:a.toNat=b.toNat):a=b:=UInt8.toNat_inj.1 h
theorem toNat_ne{a:UInt8}(h:a≠0):a.toNat≠0:=fun e=>h (ext (by simpa using e))
theorem mul_comm(a b:UInt8):mul a b=mul b a:=ext (by rw[toNat_mul,toNat_mul,Gf.mul_comm (lt a) (lt b)])
theorem zero_mul(a:UInt8):mul 0 a=0:=ext (by rw[toNat_mul]; exact Gf.zero_mul _)
theorem mul_zero(a:UInt8):mul a 0=0:=by rw[mul_comm,zero_mul]
theorem one_mul(a:UInt8):mul 1 a=a:=ext (by rw[toNat_mul]; exact Gf.one_mul (lt a))
theorem xor_zero(a:UInt8):a ^^^ 0=a:=UInt8.xor_zero
def ix(l:List UInt8)(i:Nat):UInt8:=l.getD i 0
def bump(out:List UInt8)(j:Nat)(v:UInt8):List UInt8:=out.set j (ix out j ^^^ v)
def addRow(i:Nat)(a:UInt8)(q:List UInt8):Nat->List UInt8->List UInt8
 | 0,out=>out
 | k+1,out=>bump (addRow i a q k out) (i+k) (mul a (ix q k))
def eF(p q:List UInt8):Nat->List UInt8
 | 0=>List.replicate (p.length+q.length - 1) 0
 | i+1=>addRow i (ix p i) q q.length (eF p q i)
def prod(p q:List UInt8):List UInt8:=if p = []\/q = [] then [] else eF p q p.length
theorem bump_length(out:List UInt8)(j:Nat)(v:UInt8):(bump out j v).length=out.length:=by simp[bump]
theorem iy(i:Nat)(a:UInt8)(q:List UInt8)(k:Nat)(out:List UInt8):(addRow i a q k out).length=out.length:=by
 induction k with
 | zero=>rfl
 | succ k ih=>rw[addRow,bump_length,ih]
theorem iW(p q:List UInt8)(i:Nat):(eF p q i).length=p.length+q.length - 1:=by
 induction i with
 | zero=>simp[eF]
 | succ i ih=>rw[eF,iy,ih]
theorem wL(p q:List UInt8)(hp:p≠[])(hq:q≠[]):(prod p q).length=p.length+q.length - 1:=by unfold prod; rw[if_neg (by simp[hp,hq]),iW]
theorem Nj{p q:List UInt8}(hp:p≠[])(hq:q≠[]):prod p q=eF p q p.length:=by unfold prod; rw[if_neg (by simp[hp,hq])]
theorem Az(q:List UInt8):prod [] q = []:=by simp[prod]
theorem zy(p:List UInt8):prod p [] = []:=by simp[prod]
def fZ(q:List UInt8)(iv:UInt8):Nat->List UInt8->List UInt8
 | 0,r=>r
 | i+1,r=>addRow i (mul (ix (fZ q iv i r) i) iv) q q.length (fZ q iv i r)
theorem oV(q:List UInt8)(iv:UInt8)(i:Nat)(r:List UInt8):(fZ q iv i r).length=r.length:=by
 induction i with
 | zero=>rfl
 | succ i ih=>rw[fZ,iy,ih]
def pad(m:Nat)(p:List UInt8):List UInt8:=List.replicate m 0++p
theorem zg(m:Nat)(p:List UInt8):(pad m p).length=m+p.length:=by simp[pad]
def rem(p q:List UInt8):List UInt8:=(fZ q (inv (ix q 0)) p.length (pad (q.length - 1) p)).drop p.length
theorem zJ(p q:List UInt8):(rem p q).length=q.length - 1:=by unfold rem; rw[List.length_drop,oV,zg]; omega
theorem TR(n i:Nat):ix (List.replicate n 0) i=0:=by
 unfold ix;by_cases h:i<n
 ·simp[h]
 ·simp[h]
theorem TP{l:List UInt8}{i:Nat}(h:l.length<=i):ix l i=0:=by unfold ix; rw[List.getD_eq_getElem?_getD,List.getElem?_eq_none h]; rfl
def gen:Nat->List UInt8
 | 0=>[1]
 | n+1=>prod (gen n) [1,exp n]
theorem jo(n:Nat):(gen n).length=n+1:=by
 induction n with
 | zero=>rfl
 | succ n ih=>
   have h:gen n≠[]:=by intro e; rw[e]at ih; simp at ih
   rw[gen,wL _ _ h (by simp),ih]; rfl
end Go.Proofs.YtfnehkmhcmkhjaaGreat.G
