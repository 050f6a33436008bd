/- Parts -/
import Init.Data.Nat.Bitwise.Lemmas
import Init.Data.List.Lemmas
set_option maxRecDepth 100000
set_option maxHeartbeats 8000000
set_option linter.unusedVariables false
namespace Go.Proofs.YtfnehkmhcmkhjaaGreat.Gf
def Ef(a:Nat):Nat:=if 128<=a then(2*a-256)^^^29 else 2*a
def mulN:Nat->Nat->Nat->Nat
 |0,_,_=>0
 |k+1,a,b=>(if b%2=1 then a else 0)^^^mulN k (Ef a) (b/2)
def mul(a b:Nat):Nat:=mulN 8 a b
def iter:Nat->Nat->Nat
 |0,a=>a
 |n+1,a=>iter n (Ef a)
def exp(n:Nat):Nat:=iter n 1
theorem NV{a b:Nat}(ha:a<256)(hb:b<256):a^^^b<256:=Nat.xor_lt_two_pow (n:=8) ha hb
theorem qU{a:Nat}(h:a<256):Ef a<256:=by
 unfold Ef;split
 ·exact NV (by omega) (by omega)
 ·omega
theorem WR(k:Nat):∀{a b:Nat},a<256->mulN k a b<256:=by
 induction k with
 |zero=>intro a b _;simp[mulN]
 | succ k ih=>
   intro a b h;simp only[mulN];refine NV ?_ (ih (qU h));split
   ·exact h
   ·omega
theorem mul_lt{a b:Nat}(h:a<256):mul a b<256:=WR 8 h
theorem Wy(n:Nat):∀{a:Nat},a<256->iter n a<256:=by
 induction n with
 |zero=>exact λh=>h
 |succ n ih=>exact λh=>ih (qU h)
theorem Ag(n:Nat):exp n<256:=Wy n (by omega)
def allB(n:Nat)(p:Nat->Bool):Bool:=Nat.rec true (λk r=>r && p k) n
theorem mX{n:Nat}{p:Nat->Bool}(h:allB n p=true):∀i,i<n->p i=true:=by
 induction n with
 |zero=>intro i hi;omega
 | succ n ih=>
   have h':(allB n p && p n)=true:=h;rw[Bool.and_eq_true]at h';intro i hi;rcases Nat.lt_or_ge i n with hl|hg
   ·exact ih h'.1 i hl
   ·obtain rfl:i=n:=by omega
    exact h'.2
theorem VO{a b:Nat}(ha:a<256)(hb:b<256):Ef (a^^^b)=Ef a^^^Ef b:=by
 have h:allB 256 (λa=>allB 256 λb=>Ef (a^^^b) == (Ef a^^^Ef b))=true:=by decide+kernel
 exact beq_iff_eq.1 (mX (mX h a ha) b hb)
theorem Eg:Ef 0=0:=by decide
theorem afk(a b c d:Nat):(a^^^b)^^^(c^^^d)=(a^^^c)^^^(b^^^d):=by rw[Nat.xor_assoc,Nat.xor_assoc,<-Nat.xor_assoc b,Nat.xor_comm b c,Nat.xor_assoc c]
theorem Fp(k:Nat):∀b,mulN k 0 b=0:=by
 induction k with
 |zero=>intro b;rfl
 |succ k ih=>intro b;simp[mulN,Eg,ih]
theorem sF(k:Nat):∀a,mulN k a 0=0:=by
 induction k with
 |zero=>intro b;rfl
 |succ k ih=>intro b;simp[mulN,ih]
theorem adW(k:Nat):∀{a a' b:Nat},a<256->a'<256->mulN k (a^^^a') b=mulN k a b^^^mulN k a' b:=by
 induction k with
 |zero=>intro a a' b _ _;simp[mulN]
 | succ k ih=>
   intro a a' b h h';simp only[mulN];rw[VO h h',ih (qU h) (qU h'),afk]
   congr 1
   split <;> simp
theorem adV(k:Nat):∀{a b:Nat},a<256->mulN k (Ef a) b=Ef (mulN k a b):=by
 induction k with
 |zero=>intro a b _;simp[mulN,Eg]
 | succ k ih=>
   intro a b h;simp only[mulN];rw[ih (qU h),VO (by split <;> omega) (WR k (qU h)),]
   congr 1
   split
   ·rfl
   ·exact Eg.symm
theorem adX(n:Nat):∀{a b:Nat},a<256->mul (iter n a) b=iter n (mul a b):=by
 induction n with
 |zero=>intro a b _;rfl
 | succ n ih=>
   intro a b h;simp only[iter];rw[ih (qU h)];unfold mul;rw[adV 8 h]
theorem one_mul{b:Nat}(h:b<256):mul 1 b=b:=by
 have h':allB 256 (λb=>mul 1 b == b)=true:=by decide+kernel
 exact beq_iff_eq.1 (mX h' b h)
theorem ady(m n:Nat):∀a,iter m (iter n a)=iter (m+n) a:=by
 induction n with
 |zero=>intro a;rfl
 |succ n ih=>intro a;exact ih (Ef a)
theorem gX(m n:Nat):exp (m+n)=mul (exp m) (exp n):=by unfold exp;rw[adX m (by omega),one_mul (Wy n (by omega)),ady]
theorem agj:exp 255=1:=by decide+kernel
theorem qi:exp 0=1:=rfl
theorem Bj(n:Nat):exp (n+255)=exp n:=by
 rw[gX,agj];have h:∀a,a<256->mul a 1=a:=by
  have h':allB 256 (λa=>mul a 1 == a)=true:=by decide+kernel
  exact λa h=>beq_iff_eq.1 (mX h' a h)
 exact h _ (Ag n)
theorem PE(n k:Nat):exp (n+255*k)=exp n:=by
 induction k with
 |zero=>rfl
 |succ k ih=>rw[show n+255*(k+1)=(n+255*k)+255 by omega,Bj,ih]
theorem V8(n:Nat):exp (n%255)=exp n:=by
 conv=>rhs;rw[<-Nat.mod_add_div n 255]
 rw[PE]
def adJ(a:Nat):Nat->Nat->Nat->Nat
 |0,_,_=>255
 |f+1,n,x=>if x=a then n else adJ a f (n+1) (Ef x)
def log(a:Nat):Nat:=adJ a 255 0 1
theorem aat:allB 256 (λa=>a == 0 || (decide (log a<255) && exp (log a) == a))=true:=by decide+kernel
theorem kZ{a:Nat}(h:a<256)(h0:a≠0):log a<255/\exp (log a)=a:=by have:=mX aat a h;simp only[Bool.or_eq_true,beq_iff_eq,Bool.and_eq_true,decide_eq_true_eq]at this;exact this.resolve_left h0
theorem IA:allB 255 (λn=>log (exp n) == n)=true:=by decide+kernel
theorem uU{n:Nat}(h:n<255):log (exp n)=n:=beq_iff_eq.1 (mX IA n h)
theorem adL:log 0=255:=by decide+kernel
theorem oO(n:Nat):exp n≠0:=by intro h;have h1:=uU (Nat.mod_lt n (by omega):n%255<255);rw[V8,h,adL]at h1;have:=Nat.mod_lt n (show 255 > 0 by omega);omega
theorem mul_zero(a:Nat):mul a 0=0:=sF 8 a
theorem zero_mul(b:Nat):mul 0 b=0:=Fp 8 b
theorem mul_comm{a b:Nat}(ha:a<256)(hb:b<256):mul a b=mul b a:=by
 by_cases h0:a=0
 ·subst h0;rw[zero_mul,mul_zero]
 ·by_cases h1:b=0
  ·subst h1;rw[zero_mul,mul_zero]
  ·rw[<-(kZ ha h0).2,<-(kZ hb h1).2,<-gX,<-gX,Nat.add_comm]
theorem mul_assoc{a b c:Nat}(ha:a<256)(hb:b<256)(hc:c<256):mul a (mul b c)=mul (mul a b) c:=by
 by_cases h0:a=0
 ·subst h0;simp[zero_mul]
 ·by_cases h1:b=0
  ·subst h1;simp[zero_mul,mul_zero]
  ·by_cases h2:c=0
   ·subst h2;simp[mul_zero]
   ·rw[<-(kZ ha h0).2,<-(kZ hb h1).2,<-(kZ hc h2).2,<-gX,<-gX,<-gX,<-gX,Nat.add_assoc]
theorem dG{a b c:Nat}(ha:a<256)(hb:b<256):mul (a^^^b) c=mul a c^^^mul b c:=adW 8 ha hb
theorem eU{a b c:Nat}(ha:a<256)(hb:b<256)(hc:c<256):mul a (b^^^c)=mul a b^^^mul a c:=by rw[mul_comm ha (NV hb hc),dG hb hc,mul_comm hb ha,mul_comm hc ha]
theorem mul_one{a:Nat}(h:a<256):mul a 1=a:=by rw[mul_comm h (by omega),one_mul h]
theorem mul_eq_zero{a b:Nat}(ha:a<256)(hb:b<256)(h:mul a b=0):a=0\/b=0:=by
 by_cases h0:a=0
 ·exact .inl h0
 ·by_cases h1:b=0
  ·exact .inr h1
  ·rw[<-(kZ ha h0).2,<-(kZ hb h1).2,<-gX]at h;exact(oO _ h).elim
def inv(a:Nat):Nat:=if a=0 then 0 else exp ((255-log a)%255)
theorem ajZ(a:Nat):inv a<256:=by
 unfold inv;split
 ·omega
 ·exact Ag _
theorem mJ{a:Nat}(h:a<256)(h0:a≠0):mul a (inv a)=1:=by
 unfold inv;rw[if_neg h0];obtain⟨hl,he⟩:=kZ h h0;rw[V8];have e:mul (exp (log a)) (exp (255-log a))=1:=by rw[<-gX,show log a+(255-log a)=0+255 by omega,Bj,qi]
 rwa[he]at e
theorem P8{a:Nat}(h0:a≠0):inv a≠0:=by unfold inv;rw[if_neg h0];exact oO _
end Go.Proofs.YtfnehkmhcmkhjaaGreat.Gf
namespace Go.Proofs.YtfnehkmhcmkhjaaGreat.G
def mul(a b:UInt8):UInt8:=UInt8.ofNat (Gf.mul a.toNat b.toNat)
def inv(a:UInt8):UInt8:=UInt8.ofNat (Gf.inv a.toNat)
def exp(n:Nat):UInt8:=UInt8.ofNat (Gf.exp n)
def log(a:UInt8):Nat:=Gf.log a.toNat
theorem lt(a:UInt8):a.toNat<256:=UInt8.toNat_lt a
theorem Gq{n:Nat}(h:n<256):(UInt8.ofNat n).toNat=n:=by simp;omega
theorem toNat_mul(a b:UInt8):(mul a b).toNat=Gf.mul a.toNat b.toNat:=Gq (Gf.mul_lt (lt a))
theorem vw(a:UInt8):(inv a).toNat=Gf.inv a.toNat:=Gq (Gf.ajZ _)
theorem kV(n:Nat):(exp n).toNat=Gf.exp n:=Gq (Gf.Ag n)
theorem ext{a b:UInt8}(h:a.toNat=b.toNat):a=b:=UInt8.toNat_inj.1 h
theorem toNat_ne{a:UInt8}(h:a≠0):a.toNat≠0:=λe=>h (ext (by simpa using e))
theorem mul_comm(a b:UInt8):mul a b=mul b a:=ext (by rw[toNat_mul,toNat_mul,Gf.mul_comm (lt a) (lt b)])
theorem mul_assoc(a b c:UInt8):mul a (mul b c)=mul (mul a b) c:=ext (by simp only[toNat_mul];exact Gf.mul_assoc (lt a) (lt b) (lt c))
theorem eU(a b c:UInt8):mul a (b^^^c)=mul a b^^^mul a c:=ext (by simp only[toNat_mul,UInt8.toNat_xor];exact Gf.eU (lt a) (lt b) (lt c))
theorem dG(a b c:UInt8):mul (a^^^b) c=mul a c^^^mul b c:=by rw[mul_comm,eU,mul_comm c,mul_comm c]
theorem zero_mul(a:UInt8):mul 0 a=0:=ext (by rw[toNat_mul];exact Gf.zero_mul _)
theorem mul_zero(a:UInt8):mul a 0=0:=by rw[mul_comm,zero_mul]
theorem one_mul(a:UInt8):mul 1 a=a:=ext (by rw[toNat_mul];exact Gf.one_mul (lt a))
theorem mul_one(a:UInt8):mul a 1=a:=by rw[mul_comm,one_mul]
theorem mJ{a:UInt8}(h:a≠0):mul a (inv a)=1:=ext (by rw[toNat_mul,vw,Gf.mJ (lt a) (toNat_ne h)];rfl)
theorem inv_mul{a:UInt8}(h:a≠0):mul (inv a) a=1:=by rw[mul_comm,mJ h]
theorem aj0{a:UInt8}(h:a≠0):inv a≠0:=λe=>Gf.P8 (toNat_ne h) (by rw[<-vw,e];rfl)
theorem mul_eq_zero{a b:UInt8}(h:mul a b=0):a=0\/b=0:=by
 have h':(mul a b).toNat=0:=by rw[h];rfl
 rw[toNat_mul]at h';rcases Gf.mul_eq_zero (lt a) (lt b) h' with h|h
 ·exact .inl (ext (by simpa using h))
 ·exact .inr (ext (by simpa using h))
theorem Am{a b:UInt8}(ha:a≠0)(hb:b≠0):mul a b≠0:=λh=>(mul_eq_zero h).elim ha hb
theorem rC{a b c:UInt8}(ha:a≠0)(h:mul a b=mul a c):b=c:=by have e:=congrArg (mul (inv a)) h;rwa[mul_assoc,mul_assoc,inv_mul ha,one_mul,one_mul]at e
theorem gX(m n:Nat):exp (m+n)=mul (exp m) (exp n):=ext (by rw[toNat_mul,kV,kV,kV,Gf.gX])
theorem qi:exp 0=1:=by decide+kernel
theorem Lu:exp 1=2:=by decide+kernel
theorem acS(n:Nat):exp n≠0:=λh=>Gf.oO n (by rw[<-kV,h];rfl)
theorem uU{n:Nat}(h:n<255):log (exp n)=n:=by unfold log;rw[kV,Gf.uU h]
theorem agl{m n:Nat}(hm:m<255)(hn:n<255)(h:exp m=exp n):m=n:=by rw[<-uU hm,h,uU hn]
theorem xor_assoc(a b c:UInt8):(a^^^b)^^^c=a^^^(b^^^c):=UInt8.xor_assoc a b c
theorem xor_comm(a b:UInt8):a^^^b=b^^^a:=UInt8.xor_comm a b
theorem xor_self(a:UInt8):a^^^a=0:=UInt8.xor_self
theorem xor_zero(a:UInt8):a^^^0=a:=UInt8.xor_zero
theorem zero_xor(a:UInt8):0^^^a=a:=UInt8.zero_xor
theorem afk(a b c d:UInt8):(a^^^b)^^^(c^^^d)=(a^^^c)^^^(b^^^d):=by rw[xor_assoc,xor_assoc,<-xor_assoc b,xor_comm b c,xor_assoc c]
theorem dN{a b:UInt8}(h:a^^^b=0):a=b:=by
 have:(a^^^b)^^^b=b:=by rw[h,zero_xor]
 rwa[xor_assoc,xor_self,xor_zero]at this
theorem GM(a b:UInt8):a^^^(a^^^b)=b:=by rw[<-xor_assoc,xor_self,zero_xor]
def ix(l:List UInt8)(i:Nat):UInt8:=l.getD i 0
def lY(x:UInt8):UInt8->List UInt8->UInt8
 |s,[]=>s
 |s,c::p=>lY x (mul s x^^^c) p
def eval(p:List UInt8)(x:UInt8):UInt8:=lY x 0 p
def bump(out:List UInt8)(j:Nat)(v:UInt8):List UInt8:=out.set j (ix out j^^^v)
def addRow(i:Nat)(a:UInt8)(q:List UInt8):Nat->List UInt8->List UInt8
 |0,out=>out
 |k+1,out=>bump (addRow i a q k out) (i+k) (mul a (ix q k))
def aZ(p q:List UInt8):Nat->List UInt8
 |0=>List.replicate (p.length+q.length-1) 0
 |i+1=>addRow i (ix p i) q q.length (aZ p q i)
def prod(p q:List UInt8):List UInt8:=if p = []\/q = [] then [] else aZ p q p.length
theorem bump_length(out:List UInt8)(j:Nat)(v:UInt8):(bump out j v).length=out.length:=by simp[bump]
theorem bI(i:Nat)(a:UInt8)(q:List UInt8)(k:Nat)(out:List UInt8):(addRow i a q k out).length=out.length:=by
 induction k with
 |zero=>rfl
 |succ k ih=>rw[addRow,bump_length,ih]
theorem aY(p q:List UInt8)(i:Nat):(aZ p q i).length=p.length+q.length-1:=by
 induction i with
 |zero=>simp[aZ]
 |succ i ih=>rw[aZ,bI,ih]
theorem gJ(p q:List UInt8)(hp:p≠[])(hq:q≠[]):(prod p q).length=p.length+q.length-1:=by unfold prod;rw[if_neg (by simp[hp,hq]),aY]
theorem Dt{p q:List UInt8}(hp:p≠[])(hq:q≠[]):prod p q=aZ p q p.length:=by unfold prod;rw[if_neg (by simp[hp,hq])]
theorem pI(q:List UInt8):prod [] q = []:=by simp[prod]
theorem nY(p:List UInt8):prod p [] = []:=by simp[prod]
def eQ(q:List UInt8)(iv:UInt8):Nat->List UInt8->List UInt8
 |0,r=>r
 |i+1,r=>addRow i (mul (ix (eQ q iv i r) i) iv) q q.length (eQ q iv i r)
theorem iK(q:List UInt8)(iv:UInt8)(i:Nat)(r:List UInt8):(eQ q iv i r).length=r.length:=by
 induction i with
 |zero=>rfl
 |succ i ih=>rw[eQ,bI,ih]
def pad(m:Nat)(p:List UInt8):List UInt8:=List.replicate m 0++p
theorem nV(m:Nat)(p:List UInt8):(pad m p).length=m+p.length:=by simp[pad]
def rem(p q:List UInt8):List UInt8:=(eQ q (inv (ix q 0)) p.length (pad (q.length-1) p)).drop p.length
theorem xe(p q:List UInt8):(rem p q).length=q.length-1:=by unfold rem;rw[List.length_drop,iK,nV];omega
theorem iO{l m:List UInt8}{i:Nat}(h:i<l.length):ix (l++m) i=ix l i:=by unfold ix;rw[List.getD_eq_getElem?_getD,List.getD_eq_getElem?_getD,List.getElem?_append_left h]
theorem jv{l m:List UInt8}{i:Nat}(h:l.length<=i):ix (l++m) i=ix m (i-l.length):=by unfold ix;rw[List.getD_eq_getElem?_getD,List.getD_eq_getElem?_getD,List.getElem?_append_right h]
theorem lI(n i:Nat):ix (List.replicate n 0) i=0:=by
 unfold ix;by_cases h:i<n
 ·simp[h]
 ·simp[h]
theorem bW{l:List UInt8}{i:Nat}(h:l.length<=i):ix l i=0:=by unfold ix;rw[List.getD_eq_getElem?_getD,List.getElem?_eq_none h];rfl
def gen:Nat->List UInt8
 |0=>[1]
 |n+1=>prod (gen n) [1,exp n]
theorem iM(n:Nat):(gen n).length=n+1:=by
 induction n with
 |zero=>rfl
 | succ n ih=>
   have h:gen n≠[]:=by intro e;rw[e]at ih;simp at ih
   rw[gen,gJ _ _ h (by simp),ih];rfl
end Go.Proofs.YtfnehkmhcmkhjaaGreat.G
