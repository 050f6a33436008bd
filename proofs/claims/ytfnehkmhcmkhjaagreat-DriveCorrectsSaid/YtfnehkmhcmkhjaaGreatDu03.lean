/- Parts -/
import Derived.Test.YtfnehkmhcmkhjaaGreatDu02
import Derived.Test.YtfnehkmhcmkhjaaGreatDu01
set_option maxRecDepth 100000
set_option maxHeartbeats 8000000
set_option linter.unusedVariables false
namespace Go.Proofs.YtfnehkmhcmkhjaaGreat.G
def bV(f:Nat->UInt8):Nat->UInt8
 |0=>0
 |n+1=>bV f n^^^f n
theorem aT{f g:Nat->UInt8}:∀n,(∀i,i<n->f i=g i)->bV f n=bV g n
 |0,_=>rfl
 |n+1,h=>by rw[bV,bV,aT n (λi hi=>h i (by omega)),h n (by omega)]
theorem ng:∀n,bV (λ_=>0) n=0
 |0=>rfl
 |n+1=>by rw[bV,ng n,xor_self]
theorem lM(f g:Nat->UInt8):∀n,bV (λi=>f i^^^g i) n=bV f n^^^bV g n
 |0=>by simp[bV]
 |n+1=>by rw[bV,bV,bV,lM f g n,afk]
theorem iW(a:UInt8)(f:Nat->UInt8):∀n,bV (λi=>mul a (f i)) n=mul a (bV f n)
 |0=>by rw[bV,bV,mul_zero]
 |n+1=>by rw[bV,bV,iW a f n,eU]
theorem Rj{f:Nat->UInt8}{n j:Nat}(hj:j<n)(h:∀i,i<n->i≠j->f i=0):bV f n=f j:=by
 induction n with
 |zero=>omega
 | succ n ih=>
   rw[bV];by_cases e:j=n
   ·subst e;rw[aT j (g:=λ_=>0) (λi hi=>h i (by omega) (by omega)),ng,zero_xor]
   ·rw[ih (by omega) (λi hi=>h i (by omega)),h n (by omega) (by omega),xor_zero]
def loc(N j:Nat):UInt8:=exp (N-1-j)
theorem MJ(N j:Nat):loc N j≠0:=acS _
theorem WM{N i j:Nat}(hN:N<=255)(hi:i<N)(hj:j<N)(h:loc N i=loc N j):i=j:=by have:=agl (m:=N-1-i) (n:=N-1-j) (by omega) (by omega) h;omega
theorem yh(l:List UInt8)(x:UInt8):eval l x=bV (λj=>mul (ix l j) (pw x (l.length-1-j))) l.length:=by
 suffices h:∀n,n<=l.length->eval (l.take n) x=bV (λj=>mul (ix l j) (pw x (n-1-j))) n by
  have:=h l.length (Nat.le_refl _);rwa[List.take_length]at this
 intro n
 induction n with
 |zero=>intro _;rfl
 | succ n ih=>
   intro hn;rw[jc l n (by omega),uK,ih (by omega),bV,show n+1-1-n=0 by omega,pw,mul_one]
   congr 1
   rw[mul_comm,<-iW];apply aT;intro i hi;rw[mul_assoc,mul_comm x,<-mul_assoc,show n+1-1-i=(n-1-i)+1 by omega,nZ]
theorem akg(N j k:Nat):pw (exp k) (N-1-j)=pw (loc N j) k:=by unfold loc;rw[aeq,aeq,Nat.mul_comm]
theorem Zb(l:List UInt8)(k:Nat):eval l (exp k)=bV (λj=>mul (ix l j) (pw (loc l.length j) k)) l.length:=by rw[yh];exact aT _ λi hi=>by rw[akg]
theorem alx(c:List UInt8)(n:Nat)(h:∀k,k<n->eval c (exp k)=0):∀(m:Nat)(f:List UInt8),f.length=m->m<=n->bV (λj=>mul (ix c j) (val f (loc c.length j))) c.length=0
 |0,f,hf,_=>by obtain rfl:=List.eq_nil_of_length_eq_zero hf;rw[aT _ (g:=λ_=>0) (λi _=>by rw[fZ,mul_zero]),ng]
 | m+1,f,hf,hm=>by
   obtain⟨g,a,rfl⟩:∃g a,f=g++[a]:=⟨f.dropLast,f.getLast (by intro e;rw[e]at hf;simp at hf),(List.dropLast_concat_getLast _).symm⟩;have hg:g.length=m:=by simpa using hf
   have h1:=alx c n h m g hg (by omega);have h2:=Zb c m;rw[h m (by omega)]at h2;rw[aT _ (g:=λj=>mul (ix c j) (val g (loc c.length j))^^^mul a (mul (ix c j) (pw (loc c.length j) m))) (λi _=>by
    rw[val_append,bM,fZ,zero_mul,zero_xor,hg,eU]
    congr 1
    rw[mul_assoc,mul_comm (ix c i),<-mul_assoc]),lM,h1,iW,<-h2,mul_zero,xor_self]
theorem BU(x:UInt8)(p q:List UInt8)(hq:q≠[]):∀i,i<=p.length->val (aZ p q i) x=mul (val (p.take i) x) (val q x)
 |0,_=>by rw[aZ,vz,List.take_zero,fZ,zero_mul]
 |i+1,h=>by have hl:0<q.length:=List.length_pos_iff.2 hq;rw[aZ,xn _ _ _ _ _ _ (Nat.le_refl _) (by rw[aY];omega),BU x p q hq i (by omega),List.take_length,vW _ _ (by omega),dG]
theorem kE(p q:List UInt8)(x:UInt8):val (prod p q) x=mul (val p x) (val q x):=by
 by_cases hp:p = []
 ·subst hp;rw[pI,fZ,zero_mul]
 by_cases hq:q = []
 ·subst hq;rw[nY,fZ,mul_zero]
 rw[Dt hp hq,BU x p q hq _ (Nat.le_refl _),List.take_length]
def F5(N:Nat):List Nat->List UInt8
 | []=>[1]
 |j::L=>prod [loc N j,1] (F5 N L)
theorem yT(N:Nat):∀L,(F5 N L).length=L.length+1
 | []=>rfl
 |j::L=>by have h:=yT N L;rw[F5,gJ _ _ (by simp) (by intro e;rw[e]at h;simp at h),h];simp;omega
theorem J6(N:Nat)(x:UInt8)(L:List Nat):val (F5 N L) x=0↔∃j∈L,x=loc N j:=by
 induction L with
 |nil=>simp[F5,bM,fZ,zero_mul]
 | cons j L ih=>
   rw[F5,kE];have e:val [loc N j,1] x=x^^^loc N j:=by rw[bM,bM,fZ,zero_mul,zero_xor,one_mul]
   rw[e];constructor
   ·intro h;rcases mul_eq_zero h with h|h
    ·exact⟨j,by simp,dN h⟩
    ·obtain⟨i,hi,e⟩:=ih.1 h;exact⟨i,by simp[hi],e⟩
   ·rintro⟨i,hi,hx⟩;rcases List.mem_cons.1 hi with rfl|hi
    ·rw[hx,xor_self,zero_mul]
    ·rw[ih.2 ⟨i,hi,hx⟩,mul_zero]
def IK(c:List UInt8)(k:Nat):List Nat:=(List.range k).filter λj=>ix c j != 0
theorem Fj(c:List UInt8)(k j:Nat):j∈IK c k↔j<k/\ix c j≠0:=by simp[IK]
theorem acT(c:List UInt8)(n:Nat)(hN:c.length<=255)(h:∀k,k<n->eval c (exp k)=0)(hs:(IK c c.length).length<=n):∀j,ix c j=0:=by
 intro j;by_cases hj:j<c.length
 ·by_cases h0:ix c j=0
  ·exact h0
  ·exfalso;have hmem:j∈IK c c.length:=(Fj c _ j).2 ⟨hj,h0⟩;obtain⟨L,hL⟩:∃L,L=(IK c c.length).filter λi=>i != j:=⟨_,rfl⟩
   have hlen:L.length<(IK c c.length).length:=by rw[hL];exact List.length_filter_lt_length_iff_exists.2 ⟨j,hmem,by simp⟩
   have hd:=alx c n h _ (F5 c.length L) rfl (by rw[yT];omega);rw[Rj hj (λi hi hne=>?_)]at hd
   ·rcases mul_eq_zero hd with h1|h1
    ·exact h0 h1
    ·obtain⟨i,hi,e⟩:=(J6 c.length _ L).1 h1;rw[hL,List.mem_filter]at hi;have hi1:=(Fj c _ i).1 hi.1;have:=WM hN hj hi1.1 e;subst this;simp at hi
   ·by_cases hi0:ix c i=0
    ·rw[hi0,zero_mul]
    ·rw[(J6 c.length _ L).2 ⟨i,by rw[hL,List.mem_filter];exact⟨(Fj c _ i).2 ⟨hi,hi0⟩,by simpa using hne⟩,rfl⟩,mul_zero]
 ·exact bW (by omega)
theorem agt(n:Nat):gen n≠[]:=by have:=iM n;intro e;rw[e]at this;simp at this
theorem aga(l:List UInt8)(n k:Nat)(hk:k<n):eval (enc l n) (exp k)=0:=by
 unfold enc;have hr:=acR (l++List.replicate n 0) (gen n) (exp k) (agt n) (by rw[PI];decide) ((acP n _).2 ⟨k,hk,rfl⟩);have hl:(rem (l++List.replicate n 0) (gen n)).length=n:=by rw[xe,iM];rfl
 rw[eval_append,hr,hl,eval_append,nK,List.length_replicate,xor_zero,xor_self]
theorem GV(l:List UInt8)(n:Nat):mr (dP l n)=true↔∀k,k<n->eval l (exp k)=0:=by unfold mr dP;simp
theorem Z4(l:List UInt8)(n:Int)(h:En l n=true):az (enc l n.toNat) n=true:=by
 have h1:1<=n/\n<=16/\l≠[]/\(l.length:Int)+n<=255:=by simpa[En,and_assoc]using h
 have hl:=List.length_pos_iff.2 h1.2.2.1;unfold az;rw[Bool.and_eq_true];exact⟨(bU _ _).2 ⟨by rw[qW];omega,by rw[qW];omega,by omega,by omega,by rw[qW];omega⟩,(GV _ _).2 λk hk=>aga l _ k hk⟩
theorem abx(c:List UInt8)(k:Nat):(IK c (k+1)).length=(IK c k).length+if ix c k=0 then 0 else 1:=by
 unfold IK;rw[List.range_succ,List.filter_append,List.length_append]
 congr 1
 by_cases h:ix c k=0 <;> simp[h]
def quo(r:UInt8):List UInt8->List UInt8
 | []=>[]
 | [_]=>[]
 |_::l=>val l r::quo r l
theorem JH(r c d:UInt8)(l:List UInt8):quo r (c::d::l)=val (d::l) r::quo r (d::l):=by rw[quo];simp
theorem wZ(r:UInt8):∀p,(quo r p).length=p.length-1
 | []=>rfl
 | [_]=>rfl
 |_::d::l=>by have:=wZ r (d::l);rw[JH,List.length_cons,this];simp
theorem val_one(c x:UInt8):val [c] x=c:=by rw[bM,fZ,zero_mul,zero_xor]
theorem Ze(r x:UInt8):∀p,val p x=mul (x^^^r) (val (quo r p) x)^^^val p r
 | []=>by rw[quo,fZ,fZ,mul_zero,xor_zero]
 | [c]=>by rw[quo,fZ,mul_zero,zero_xor,val_one,val_one]
 | c :: d :: l=>by
   have ih:=Ze r x (d::l);rw[bM,bM c,ih,JH,bM (val (d::l) r)]
   ·generalize val (d::l) r=R;generalize val (quo r (d::l)) x=Q;rw[dG,eU,mul_assoc,dG x r R];rw[mul_comm R x,mul_comm R r];rw[xor_assoc,xor_assoc,xor_assoc,<-xor_assoc (mul r R) (mul r R) c,xor_self,zero_xor]
theorem Gu{p:List UInt8}{r:UInt8}(h:val p r=0)(x:UInt8):val p x=mul (x^^^r) (val (quo r p) x):=by rw[Ze r x p,h,xor_zero]
theorem F6:∀(p R:List UInt8),R.Nodup->(∀r∈R,val p r=0)->p.length<=R.length->∀x,val p x=0
 |p,[],_,_,hl,x=>by obtain rfl:=List.eq_nil_of_length_eq_zero (Nat.le_zero.1 hl);rfl
 | p,r :: R,hn,h,hl,x=>by
   have hf:=Gu (h r (by simp));have hz:=F6 (quo r p) R (List.nodup_cons.1 hn).2 (λs hs=>by
    have h1:=h s (by simp[hs]);rw[hf]at h1;rcases mul_eq_zero h1 with h2|h2
    ·exact absurd (dN h2) (λe=>(List.nodup_cons.1 hn).1 (e ▸ hs))
    ·exact h2) (by rw[wZ];simp at hl;omega)
   rw[hf,hz,mul_zero]
def allB:List UInt8:=(List.range 256).map UInt8.ofNat
theorem Oy:allB.length=256:=by simp[allB]
theorem adR(x:UInt8):x∈allB:=by rw[allB,List.mem_map];exact⟨x.toNat,by rw[List.mem_range];exact lt x,by simp⟩
theorem DW:allB.Nodup:=by decide+kernel
theorem zM(p:List UInt8)(z:UInt8)(hl:p.length<=255)(h:∀x,x≠z->val p x=0)(x:UInt8):val p x=0:=by
 refine F6 p (allB.erase z) (DW.erase z) (λr hr=>h r ?_) ?_ x
 ·exact((DW.mem_erase_iff).1 hr).1
 ·rw[List.length_erase_of_mem (adR z),Oy];exact hl
theorem Ja:∀(p:List UInt8),p.length<=256->(∀x,val p x=0)->∀i,ix p i=0
 | [],_,_,i=>by simp[ix]
 | c :: l,hl,h,i=>by
   have h0:=h 0;rw[bM,mul_zero,zero_xor]at h0;have hz:∀x,val l x=0:=zM l 0 (by simpa using hl) (λx hx=>by
    have h1:=h x;rw[bM,h0,xor_zero]at h1;rcases mul_eq_zero h1 with h2|h2
    ·exact h2
    ·exact absurd h2 hx)
   cases i with
   |zero=>rw[jV,h0]
   |succ i=>rw[jU];exact Ja l (by simp at hl;omega) hz i
theorem uB(p q:List UInt8)(x:UInt8):val (plus p q) x=val p x^^^val q x:=by
 have hs:∀(l:List UInt8)(m:Nat),l.length<=m->val l x=bV (λi=>mul (ix l i) (pw x i)) m:=by
  intro l
  induction l with
  |nil=>intro m _;rw[aT m (g:=λ_=>0) (λi _=>by rw[show ix [] i=0 by simp[ix],zero_mul]),ng];rfl
  | cons c l ih=>
    intro m hm;obtain⟨k,rfl⟩:∃k,m=k+1:=⟨m-1,by simp at hm;omega⟩;have hshift:∀(f:Nat->UInt8)(n:Nat),bV f (n+1)=f 0^^^bV (λi=>f (i+1)) n:=by
     intro f n
     induction n with
     |zero=>rw[bV,bV,bV,xor_zero,zero_xor]
     |succ n ihn=>rw[bV,ihn,bV,xor_assoc]
    rw[hshift,bM,ih k (by simpa using hm),jV,pw,mul_one,xor_comm]
    congr 1
    rw[mul_comm,<-iW];exact aT _ λi _=>by rw[jU,nZ,mul_assoc,mul_comm x,<-mul_assoc]
 have hi:∀i,i<max p.length q.length->ix (plus p q) i=ix p i^^^ix q i:=by
  intro i h;unfold plus
  conv=>lhs;unfold ix
  rw[List.getD_eq_getElem?_getD,List.getElem?_map,List.getElem?_range h];rfl
 rw[hs _ (max p.length q.length) (by rw[qI];omega),hs p (max p.length q.length) (by omega),hs q (max p.length q.length) (by omega),<-lM];exact aT _ λi h=>by rw[hi i h,dG]
theorem Gn(f:Nat->UInt8)(n:Nat):bV f (n+1)=f 0^^^bV (λi=>f (i+1)) n:=by
 induction n with
 |zero=>rw[bV,bV,bV,xor_zero,zero_xor]
 |succ n ihn=>rw[bV,ihn,bV,xor_assoc]
theorem oV(x:UInt8):∀(l:List UInt8)(m:Nat),l.length<=m->val l x=bV (λi=>mul (ix l i) (pw x i)) m
 | [],m,_=>by rw[aT m (g:=λ_=>0) (λi _=>by rw[show ix [] i=0 by simp[ix],zero_mul]),ng];rfl
 | c :: l,m,hm=>by
   obtain⟨k,rfl⟩:∃k,m=k+1:=⟨m-1,by simp at hm;omega⟩;rw[Gn,bM,oV x l k (by simpa using hm),jV,pw,mul_one,xor_comm]
   congr 1
   rw[mul_comm,<-iW];exact aT _ λi _=>by rw[jU,nZ,mul_assoc,mul_comm x,<-mul_assoc]
theorem yB(p q:List UInt8)(i:Nat):ix (plus p q) i=ix p i^^^ix q i:=by
 by_cases h:i<max p.length q.length
 ·unfold plus
  conv=>lhs;unfold ix
  rw[List.getD_eq_getElem?_getD,List.getElem?_map,List.getElem?_range h];rfl
 ·rw[bW (by rw[qI];omega),bW (by omega),bW (by omega),xor_self]
theorem Dc(p q:List UInt8)(hp:p.length<=256)(hq:q.length<=256)(h:∀x,val p x=val q x)(i:Nat):ix p i=ix q i:=by have:=Ja (plus p q) (by rw[qI];omega) (λx=>by rw[uB,h,xor_self]) i;rw[yB]at this;exact dN this
theorem jG(p q:List UInt8)(h:∀i,ix p i=ix q i)(x:UInt8):val p x=val q x:=by rw[oV x p (max p.length q.length) (by omega),oV x q (max p.length q.length) (by omega)];exact aT _ λi _=>by rw[h]
def scale(a:UInt8)(p:List UInt8):List UInt8:=p.map (mul a)
theorem yY(a:UInt8)(p:List UInt8):(scale a p).length=p.length:=by simp[scale]
theorem adD(a:UInt8)(p:List UInt8)(i:Nat):ix (scale a p) i=mul a (ix p i):=by
 unfold scale ix;by_cases h:i<p.length
 ·simp[h]
 ·simp[h,mul_zero]
theorem Bd(a:UInt8)(x:UInt8):∀p,val (scale a p) x=mul a (val p x)
 | []=>by rw[scale,List.map_nil,fZ,mul_zero]
 |c::l=>by have:=Bd a x l;unfold scale at this ⊢;rw[List.map_cons,bM,bM,this,eU,mul_assoc]
theorem qC(p:List UInt8)(i:Nat):ix (fC p) i=if i%2=0 then ix p (i+1) else 0:=by
 by_cases h:i<p.length-1
 ·unfold fC
  conv=>lhs;unfold ix
  rw[List.getD_eq_getElem?_getD,List.getElem?_map,List.getElem?_range h];rfl
 ·rw[bW (by simp[fC];omega)];split
  ·rw[bW (by omega)]
  ·rfl
theorem Lj(p q:List UInt8)(a:UInt8)(hp:p.length<=256)(hq:q.length<=255)(h:∀x,val p x=mul (1^^^mul a x) (val q x))(x:UInt8):
 val (fC p) x=mul a (val q x)^^^mul (1^^^mul a x) (val (fC q) x):=by
 have hc:=Dc p (plus q (0::scale a q)) hp (by rw[qI,List.length_cons,yY];omega) (λx=>by
  rw[h,uB,bM,Bd,xor_zero,dG,one_mul]
  congr 1
  rw[<-mul_assoc,<-mul_assoc,mul_comm x])
 have h0:ix p 0=ix q 0:=by rw[hc,yB,jV,xor_zero]
 have hs:∀i,ix p (i+1)=ix q (i+1)^^^mul a (ix q i):=λi=>by rw[hc,yB,jU,adD]
 obtain⟨M,hM⟩:∃M,M=p.length+q.length+2:=⟨_,rfl⟩;have he:val q x=bV (λi=>if i%2=0 then mul (ix q i) (pw x i) else 0) M^^^mul x (val (fC q) x):=by
  rw[oV x q M (by omega),oV x (fC q) (M-1) (by simp[fC];omega),<-iW];have e1:bV (λi=>mul (ix q i) (pw x i)) M=bV (λi=>(if i%2=0 then mul (ix q i) (pw x i) else 0)^^^(if i%2=0 then 0 else mul (ix q i) (pw x i))) M:=
   aT _ λi _=>by split <;> simp
  rw[e1,lM]
  congr 1
  obtain⟨m,rfl⟩:∃m,M=m+1:=⟨M-1,by omega⟩;rw[Gn,Nat.add_sub_cancel];simp only[Nat.zero_mod,if_true,zero_xor];refine aT _ λi _=>?_
  rw[qC];by_cases hi:i%2=0
  ·rw[if_pos hi,if_neg (by omega),nZ,mul_assoc,mul_comm (ix q (i+1)),<-mul_assoc]
  ·rw[if_neg hi,if_pos (by omega),zero_mul,mul_zero]
 have hd:val (fC p) x=val (fC q) x^^^mul a (bV (λi=>if i%2=0 then mul (ix q i) (pw x i) else 0) M):=by
  rw[oV x (fC p) M (by simp[fC];omega),oV x (fC q) M (by simp[fC];omega),<-iW,<-lM];refine aT _ λi _=>?_
  rw[qC,qC];by_cases hi:i%2=0
  ·rw[if_pos hi,if_pos hi,if_pos hi,hs,dG,mul_assoc]
  ·rw[if_neg hi,if_neg hi,if_neg hi,mul_zero,zero_mul,xor_self]
 rw[hd];obtain⟨Ev,hEv⟩:∃Ev,Ev=bV (λi=>if i%2=0 then mul (ix q i) (pw x i) else 0) M:=⟨_,rfl⟩;rw[<-hEv]at he ⊢;rw[he];generalize val (fC q) x=D;rw[eU,dG,one_mul,mul_assoc,xor_assoc,xor_comm D (mul (mul a x) D),<-xor_assoc (mul (mul a x) D),xor_self,zero_xor,xor_comm]
theorem mas(a b c:UInt8):mul (mul a b) c=mul a (mul b c):=(mul_assoc a b c).symm
theorem WQ(a b c:UInt8):mul a (mul b c)=mul b (mul a c):=by rw[mul_assoc,mul_comm a b,mas]
theorem xlc(a b c:UInt8):a^^^(b^^^c)=b^^^(a^^^c):=by rw[<-xor_assoc,xor_comm a b,xor_assoc]
def Dg(p:List UInt8)(d:Nat):Prop:=∀i,d<=i->ix p i=0
theorem Dg.mono{p:List UInt8}{d e:Nat}(h:Dg p d)(hd:d<=e):Dg p e:=λi hi=>h i (by omega)
theorem Dg.len(p:List UInt8):Dg p p.length:=λi hi=>bW hi
theorem Dg.plus{p q:List UInt8}{d:Nat}(h:Dg p d)(h':Dg q d):Dg (plus p q) d:=λi hi=>by rw[yB,h i hi,h' i hi,xor_self]
theorem Dg.aZ{p q:List UInt8}{d e:Nat}(hp:Dg p d)(hq:Dg q e)(t:Nat)(ht:d+e<=t+1):∀k,ix (aZ p q k) t=0
 |0=>by rw[G.aZ,lI]
 | k+1=>by
   rw[G.aZ,qB];have ih:=Dg.aZ hp hq t ht k;split
   ·next h=>
    rw[ih,zero_xor];by_cases hk:d<=k
    ·rw[hp k hk,zero_mul]
    ·rw[hq (t-k) (by omega),mul_zero]
   ·exact ih
theorem Dg.prod{p q:List UInt8}{d e:Nat}(hp:Dg p d)(hq:Dg q e){f:Nat}(hf:d+e<=f+1):Dg (prod p q) f:=λi hi=>by
 unfold G.prod;split
 ·simp[ix]
 ·exact Dg.aZ hp hq i (by omega) _
def Poly(d:Nat)(f:UInt8->UInt8):Prop:=∃p:List UInt8,p.length<=d/\∀z,f z=val p z
theorem Dg.poly{p:List UInt8}{d:Nat}(h:Dg p d):Poly d (val p):=
 ⟨p.take d,by rw[List.length_take];omega,λz=>jG _ _ (λi=>by
  by_cases hi:i<d
  ·unfold ix;simp[hi]
  ·rw[h i (by omega),bW (by rw[List.length_take];omega)]) z⟩
theorem Poly.mono{d e:Nat}{f:UInt8->UInt8}(h:Poly d f)(hd:d<=e):Poly e f:=by obtain⟨p,hp,h⟩:=h;exact⟨p,by omega,h⟩
theorem Poly.congr{d:Nat}{f g:UInt8->UInt8}(h:Poly d f)(hg:∀z,g z=f z):Poly d g:=by obtain⟨p,hp,h⟩:=h;exact⟨p,hp,λz=>by rw[hg,h]⟩
theorem Poly.xor{d:Nat}{f g:UInt8->UInt8}(h:Poly d f)(h':Poly d g):Poly d (λz=>f z^^^g z):=by obtain⟨p,hp,h⟩:=h;obtain⟨q,hq,h'⟩:=h';exact⟨G.plus p q,by rw[qI];omega,λz=>by simp only[uB,h,h']⟩
theorem Poly.mul{d e k:Nat}{f g:UInt8->UInt8}(h:Poly d f)(h':Poly e g)(hk:d+e<=k+1):Poly k (λz=>G.mul (f z) (g z)):=by
 obtain⟨p,hp,h⟩:=h;obtain⟨q,hq,h'⟩:=h';refine⟨G.prod p q,?_,λz=>by simp only[kE,h,h']⟩;unfold G.prod;split
 ·simp
 ·rw[aY];omega
theorem Poly.const(a:UInt8):Poly 1 (λ_=>a):=⟨[a],by simp,λz=>(val_one a z).symm⟩
theorem Poly.zero:Poly 0 (λ_=>0):=⟨[],by simp,λz=>rfl⟩
theorem Poly.smul{d:Nat}{f:UInt8->UInt8}(h:Poly d f)(a:UInt8):Poly d (λz=>G.mul a (f z)):=by obtain⟨p,hp,h⟩:=h;exact⟨scale a p,by rw[yY];exact hp,λz=>by simp only[Bd,h]⟩
theorem Poly.lin(a:UInt8):Poly 2 (λz=>1^^^G.mul a z):=⟨[1,a],by simp,λz=>by simp only[bM,fZ,zero_mul,zero_xor];exact xor_comm _ _⟩
theorem Poly.sum{d:Nat}{f:Nat->UInt8->UInt8}(h:∀j,Poly d (f j)):∀n,Poly d (λz=>bV (λj=>f j z) n)
 |0=>(Poly.zero.mono (Nat.zero_le _)).congr λz=>rfl
 |n+1=>((Poly.sum h n).xor (h n)).congr λz=>rfl
theorem Poly.low{n m:Nat}{f g:UInt8->UInt8}(hf:Poly n f)(hg:Poly m g)(hn:n+m<=256)(h:∀z,f z=G.mul (pw z n) (g z))(z:UInt8):f z=0:=by
 obtain⟨p,hp,hfp⟩:=hf;obtain⟨q,hq,hgq⟩:=hg;have hc:=Dc p (List.replicate n 0++q) (by omega) (by simp;omega) (λx=>by
  rw[<-hfp,h,val_append,vz,zero_xor,List.length_replicate,hgq,mul_comm])
 rw[hfp];have:∀i,ix p i=ix [] i:=λi=>by
  rw[show ix [] i=0 by simp[ix]];by_cases hi:i<n
  ·rw[hc,iO (by simpa using hi),lI]
  ·exact bW (by omega)
 rw[jG p [] this];rfl
theorem Poly.zM{d:Nat}{f:UInt8->UInt8}(hf:Poly d f)(hd:d<=255)(z:UInt8)(h:∀x,x≠z->f x=0)(x:UInt8):f x=0:=by obtain⟨p,hp,hfp⟩:=hf;rw[hfp];exact G.zM p z (by omega) (λy hy=>by rw[<-hfp];exact h y hy) x
theorem Poly.factor{d:Nat}{f:UInt8->UInt8}(hf:Poly (d+1) f){r:UInt8}(h:f r=0):∃g,Poly d g/\∀x,f x=G.mul (x^^^r) (g x):=by obtain⟨p,hp,hfp⟩:=hf;exact⟨val (quo r p),⟨quo r p,by rw[wZ];omega,λz=>rfl⟩,λx=>by rw[hfp,Gu (by rw[<-hfp];exact h)]⟩
theorem xY(q:List UInt8)(n:Nat)(iv x:UInt8)(hq:Dg q (n+1)):∀(k:Nat)(S1 S2:List UInt8),k<=S1.length->n+k<=S2.length->(∀i,i<k->ix S1 i=0)->
 val (dQ q n iv k (S1,S2)).2 x^^^mul (val (dQ q n iv k (S1,S2)).1 x) (val q x)=val S2 x^^^mul (val S1 x) (val q x)
 |0,S1,S2,_,_,_=>rfl
 | k+1,S1,S2,h1,h2,h3=>by
   rw[dQ];have e0:kX q n iv (n+k) (S1,S2)=(S1.set k (mul (ix S2 (n+k)) iv),addRow k (mul (ix S2 (n+k)) iv) q (n+1) S2):=by unfold kX;simp only[Nat.add_sub_cancel_left]
   rw[e0];obtain⟨f,hf⟩:∃f,f=mul (ix S2 (n+k)) iv:=⟨_,rfl⟩;rw[<-hf];rw[xY q n iv x hq k _ _ (by rw[List.length_set];omega) (by rw[bI];omega) (λi hi=>by
    have:ix (S1.set k f) i=ix S1 i:=by unfold ix;rw[List.getD_eq_getElem?_getD,List.getElem?_set_ne (by omega),<-List.getD_eq_getElem?_getD]
    rw[this];exact h3 i (by omega))]
   have e1:S1.set k f=bump S1 k f:=by unfold bump;rw[h3 k (by omega),zero_xor]
   have e2:val (addRow k f q (n+1) S2) x=val S2 x^^^mul (mul f (pw x k)) (val q x):=by
    have hz:val (addRow k f q (n+1) S2) x=val (addRow k f (q++List.replicate (n+1) 0) (n+1) S2) x:=by
     apply jG;intro i;rw[qB,qB];have:∀t,ix (q++List.replicate (n+1) 0) t=ix q t:=λt=>by
      by_cases ht:t<q.length
      ·exact iO ht
      ·rw[jv (by omega),lI,bW (by omega)]
     rw[this]
    rw[hz,xn _ _ _ _ _ _ (by simp) (by omega)]
    congr 2
    apply jG;intro i;by_cases hi:i<n+1
    ·have:ix ((q++List.replicate (n+1) 0).take (n+1)) i=ix (q++List.replicate (n+1) 0) i:=by unfold ix;rw[List.getD_eq_getElem?_getD,List.getD_eq_getElem?_getD,List.getElem?_take,if_pos hi]
     rw[this];by_cases ht:i<q.length
     ·exact iO ht
     ·rw[jv (by omega),lI,bW (by omega)]
    ·rw[hq i (by omega),bW (by rw[List.length_take];omega)]
   rw[e1,e2,Gt _ _ _ _ (by omega),dG,xor_assoc]
   congr 1
   rw[<-xor_assoc,xor_comm (mul (mul f (pw x k)) (val q x)),xor_assoc,xor_self,xor_zero]
theorem xX(q:List UInt8)(n:Nat)(iv:UInt8):∀(k:Nat)(s:List UInt8×List UInt8)(i:Nat),k<=i->ix (dQ q n iv k s).1 i=ix s.1 i
 |0,s,i,_=>rfl
 |k+1,s,i,h=>by rw[dQ,xX q n iv k _ i (by omega),kX];simp only[Nat.add_sub_cancel_left];unfold ix;rw[List.getD_eq_getElem?_getD,List.getElem?_set_ne (by omega),<-List.getD_eq_getElem?_getD]
theorem Pj(p q:List UInt8)(n m:Nat)(hn:jM q=(n:Int))(hm:jM p=(m:Int))(hnm:n<=m)(x:UInt8):
 val p x=mul (val (divide p q).1 x) (val q x)^^^val (divide p q).2 x:=by
 have hb:=gV p;have hs:=xY q n (inv (ix q n)) x (λi hi=>Aj (by omega)) (m+1-n) (List.replicate (p.length-n) 0) p (by simp;omega) (by omega) (λi _=>lI _ _);have e:divide p q=dQ q n (inv (ix q n)) (m+1-n) (List.replicate (p.length-n) 0,p):=by rw[Af hn,hm,show((m:Int)+1-n).toNat=m+1-n by omega,show(max ((p.length:Int)-n) 1).toNat=p.length-n by omega]
 rw[<-e,vz,zero_mul,xor_zero]at hs;rw[<-hs,xor_comm]
theorem Ph(p q:List UInt8)(n m:Nat)(hn:jM q=(n:Int))(hm:jM p=(m:Int))(hnm:n<=m):Dg (divide p q).1 (m-n+1):=λi hi=>by rw[Af hn,hm,xX _ _ _ _ _ _ (by omega),lI]
structure Euc (n:Nat) (w:UInt8->UInt8) (a b u v:List UInt8) (d:Nat):Prop where
 alq:jM a=(d:Int)
 dn:d<=n
 alr:jM b<(d:Int)
 pu:Dg u (n-d+1)
 pv:Dg v (n-d+1)
 alo:∃Ua Ub:UInt8->UInt8,Poly (n-d+1) Ua/\Poly (n-d+1) Ub/\(∀z,mul (val u z) (w z)=val a z^^^mul (pw z n) (Ua z))/\(∀z,mul (val v z) (w z)=val b z^^^mul (pw z n) (Ub z))
 det:∀z,mul (val u z) (val b z)^^^mul (val v z) (val a z)=pw z n
theorem Euc.step{n d e:Nat}{w:UInt8->UInt8}{a b u v:List UInt8}(h:Euc n w a b u v d)(hb:jM b=(e:Int)):Euc n w b (divide a b).2 v (plus u (prod (divide a b).1 v)) e:=by
 have hed:e<d:=by have:=h.alr;omega
 have hdn:=h.dn;have hdiv:=Pj a b e d hb h.alq (by omega);have hq:=Ph a b e d hb h.alq (by omega);obtain⟨Ua,Ub,pa,pb,ca,cb⟩:=h.alo;refine⟨hb,by omega,?_,h.pv.mono (by omega),(h.pu.mono (by omega)).plus (hq.prod h.pv (by omega)),⟨Ub,λz=>Ua z^^^mul (val (divide a b).1 z) (Ub z),pb.mono (by omega),(pa.mono (by omega)).xor (hq.poly.mul pb (by omega)),cb,λz=>?_⟩,λz=>?_⟩
 ·have:=Ei a b (by omega);rwa[hb]at this
 ·rw[uB,kE,dG,ca,<-mul_assoc,cb,hdiv z];simp only[eU,dG,mas,mul_comm,WQ,xor_assoc,xor_comm,xlc,GM]
 ·have hd:=h.det z;rw[hdiv z]at hd;rw[uB,kE,<-hd];generalize val (divide a b).1 z=Q;generalize val (divide a b).2 z=R;generalize val b z=Bz;generalize val v z=V;generalize val u z=U;simp only[eU,mul_comm,WQ,xor_assoc,xor_comm]
theorem Euc.loop{n:Nat}{w:UInt8->UInt8}(t:Int)(ht:0<t):∀(f:Nat)(a b u v:List UInt8)(d:Nat),Euc n w a b u v d->t<=2*(d:Int)->jM b+1<=(f:Int)->
 ∃a' u' d',Euc n w a' (Ob t f a b u v).1 u' (Ob t f a b u v).2 d'/\t<=2*(d':Int)/\2*jM (Ob t f a b u v).1<t
 |0,a,b,u,v,d,h,h1,h2=>⟨a,u,d,h,h1,by rw[Ob];simp only;have:=gV b;omega⟩
 | f+1,a,b,u,v,d,h,h1,h2=>by
   rw[Ob];by_cases hc:t<=2*jM b
   ·rw[if_pos hc];obtain⟨e,he⟩:∃e:Nat,jM b=(e:Int):=⟨(jM b).toNat,by omega⟩;have hs:=h.step he;exact Euc.loop t ht f b (divide a b).2 v (plus u (prod (divide a b).1 v)) e hs (by omega) (by have:=hs.alr;omega)
   ·rw[if_neg hc];exact⟨a,u,d,h,h1,by simp only;omega⟩
theorem afX(n:Nat):jM (List.replicate n 0++[1])=n:=by
 have e:(List.replicate n (0:UInt8)++[1]).length=n+1:=by simp
 unfold jM;rw[e,lS,if_neg];rw[jv (by simp)];simp[ix]
theorem Euc.start{n:Nat}{w:List UInt8}(hw:w.length<=n):Euc n (val w) (List.replicate n 0++[1]) w [0] [1] n:=by
 have hd:Dg [0] (n-n+1):=λi hi=>bW (by simp;omega)
 have hd1:Dg [1] (n-n+1):=λi hi=>bW (by simp;omega)
 have hv:∀z,val (List.replicate n 0++[1]) z=pw z n:=λz=>by rw[val_append,vz,zero_xor,List.length_replicate,val_one,one_mul]
 refine⟨afX n,Nat.le_refl _,by have:=gV w;omega,hd,hd1,⟨λ_=>1,λ_=>0,(Poly.const 1).mono (by omega),(Poly.const 0).mono (by omega),λz=>?_,λz=>?_⟩,λz=>?_⟩
 ·rw[val_one,zero_mul,hv,mul_one,xor_self]
 ·rw[val_one,one_mul,mul_zero,xor_zero]
 ·rw[val_one,val_one,zero_mul,one_mul,hv,zero_xor]
theorem JZ(f:Nat->Nat->UInt8)(m:Nat):∀n,bV (λk=>bV (λj=>f j k) m) n=bV (λj=>bV (λk=>f j k) n) m
 |0=>by rw[bV,aT (f:=λj=>bV (λk=>f j k) 0) m (g:=λ_=>0) (λi _=>rfl),ng]
 |n+1=>by rw[bV,JZ f m n,<-lM];rfl
theorem UX(a b:UInt8):∀k,pw (mul a b) k=mul (pw a k) (pw b k)
 |0=>by rw[pw,pw,pw,mul_one]
 |k+1=>by rw[pw,pw,pw,UX a b k];simp only[mas,mul_comm,WQ]
theorem geo(y:UInt8):∀n,mul (1^^^y) (bV (λk=>pw y k) n)=1^^^pw y n
 |0=>by rw[bV,mul_zero,pw,xor_self]
 |n+1=>by rw[bV,eU,geo y n,dG,one_mul,pw,mul_comm y,xor_assoc,<-xor_assoc (pw y n),xor_self,zero_xor]
def vg(N:Nat):List Nat->UInt8->UInt8
 | [],_=>1
 |j::L,z=>mul (1^^^mul (loc N j) z) (vg N L z)
theorem rX(N:Nat):∀L,Poly (L.length+1) (vg N L)
 | []=>(Poly.const 1).congr λz=>rfl
 |j::L=>((Poly.lin (loc N j)).mul (rX N L) (by simp;omega)).congr λz=>rfl
theorem vF(N:Nat)(z:UInt8)(M:List Nat):∀L,vg N (L++M) z=mul (vg N L z) (vg N M z)
 | []=>by rw[List.nil_append,vg,one_mul]
 |j::L=>by rw[List.cons_append,vg,vg,vF N z M L,mas]
theorem Gw(N:Nat)(z:UInt8)(i:Nat):∀L,i∈L->vg N L z=mul (1^^^mul (loc N i) z) (vg N (L.erase i) z)
 | [],h=>by simp at h
 | j :: L,h=>by
   by_cases e:j=i
   ·subst e;rw[List.erase_cons_head,vg]
   ·rw[List.erase_cons_tail (by simpa using e),vg,vg,Gw N z i L (by simpa[Ne.symm e]using h),WQ]
theorem NM(N:Nat)(z:UInt8):∀L,vg N L z=0↔∃j∈L,mul (loc N j) z=1
 | []=>by simp[vg]
 | j :: L=>by
   rw[vg];constructor
   ·intro h;rcases mul_eq_zero h with h|h
    ·exact⟨j,by simp,(dN h).symm⟩
    ·obtain⟨i,hi,e⟩:=(NM N z L).1 h;exact⟨i,by simp[hi],e⟩
   ·rintro⟨i,hi,e⟩;rcases List.mem_cons.1 hi with rfl|hi
    ·rw[e,xor_self,zero_mul]
    ·rw[(NM N z L).2 ⟨i,hi,e⟩,mul_zero]
def zi(N i:Nat):UInt8:=inv (loc N i)
theorem aiB(N i:Nat):zi N i≠0:=aj0 (MJ N i)
theorem wR(N i:Nat):mul (loc N i) (zi N i)=1:=mJ (MJ N i)
theorem Ux{N i j:Nat}(hN:N<=255)(hi:i<N)(hj:j<N):mul (loc N j) (zi N i)=1↔j=i:=by
 constructor
 ·intro h;apply WM hN hj hi;have h2:=wR N i;have:mul (zi N i) (loc N j)=mul (zi N i) (loc N i):=by rw[mul_comm,h,mul_comm,h2]
  exact rC (aiB N i) this
 ·rintro rfl;exact wR N j
theorem Zf{N i:Nat}(hN:N<=255)(hi:i<N){L:List Nat}(hL:∀j∈L,j<N):vg N L (zi N i)=0↔i∈L:=by
 rw[NM];constructor
 ·rintro⟨j,hj,e⟩;rw[Ux hN hi (hL j hj)]at e;exact e ▸ hj
 ·intro h;exact⟨i,h,wR N i⟩
def om(e:List UInt8)(L:List Nat)(z:UInt8):UInt8:=bV (λj=>mul (ix e j) (vg e.length (L.erase j) z)) e.length
def tau(e:List UInt8)(L:List Nat)(n:Nat)(z:UInt8):UInt8:=bV (λj=>mul (mul (ix e j) (pw (loc e.length j) n)) (vg e.length (L.erase j) z)) e.length
theorem J3(e:List UInt8)(L:List Nat)(hL:∀j,ix e j≠0->j∈L)(a:Nat->UInt8)(j:Nat):Poly L.length (λz=>mul (mul (ix e j) (a j)) (vg e.length (L.erase j) z)):=by
 by_cases h:ix e j=0
 ·exact(Poly.zero.mono (Nat.zero_le _)).congr λz=>by rw[h,zero_mul,zero_mul]
 ·have hj:=hL j h;have hlen:=List.length_erase_of_mem hj;have hpos:0<L.length:=List.length_pos_of_mem hj;exact((rX e.length (L.erase j)).smul _).mono (by omega)
theorem ae2(e:List UInt8)(L:List Nat)(n:Nat)(hL:∀j,ix e j≠0->j∈L):Poly L.length (tau e L n):=
 (Poly.sum (λj=>J3 e L hL (λj=>pw (loc e.length j) n) j) e.length).congr λz=>rfl
theorem ag4(e:List UInt8)(L:List Nat)(hL:∀j,ix e j≠0->j∈L):Poly L.length (om e L):=
 (Poly.sum (λj=>J3 e L hL (λj=>1) j) e.length).congr λz=>by unfold om;exact aT _ λj _=>by rw[mul_one]
theorem ae8(e:List UInt8)(n:Nat)(z:UInt8):val (dP e n) z=bV (λj=>mul (ix e j) (bV (λk=>pw (mul (loc e.length j) z) k) n)) e.length:=by
 rw[oV z (dP e n) n (by rw[dC];exact Nat.le_refl _)];rw[aT n (g:=λk=>bV (λj=>mul (ix e j) (pw (mul (loc e.length j) z) k)) e.length) (λk hk=>by
  rw[Dn _ _ _ hk,Zb,mul_comm,<-iW];exact aT _ λj _=>by rw[UX];simp only[mul_comm,WQ])]
 rw[JZ (λj k=>mul (ix e j) (pw (mul (loc e.length j) z) k))];exact aT _ λj _=>by rw[iW]
theorem key(e:List UInt8)(L:List Nat)(n:Nat)(hL:∀j,ix e j≠0->j∈L)(z:UInt8):
 mul (val (dP e n) z) (vg e.length L z)=om e L z^^^mul (pw z n) (tau e L n z):=by
 unfold om tau;rw[ae8,mul_comm,<-iW,<-iW,<-lM];refine aT _ λj _=>?_
 by_cases h:ix e j=0
 ·rw[h];simp only[zero_mul,mul_zero,xor_zero]
 ·rw[Gw e.length z j L (hL j h)];have hg:=geo (mul (loc e.length j) z) n;rw[UX]at hg;generalize bV (λk=>pw (mul (loc e.length j) z) k) n=S at hg ⊢;generalize vg e.length (L.erase j) z=V;have e1:mul (mul (1^^^mul (loc e.length j) z) V) (mul (ix e j) S)=mul (mul V (ix e j)) (mul (1^^^mul (loc e.length j) z) S):=by generalize (1^^^mul (loc e.length j) z)=T;simp only[mul_comm,WQ]
  rw[e1,hg];generalize pw (loc e.length j) n=P;generalize pw z n=Q;simp only[eU,one_mul,mul_comm,WQ]
theorem aiu(e:List UInt8)(L:List Nat)(hN:e.length<=255)(hL:∀j,ix e j≠0->j∈L)(hn:L.Nodup)(hb:∀j∈L,j<e.length)(i:Nat)(hi:i∈L):
 om e L (zi e.length i)=mul (ix e i) (vg e.length (L.erase i) (zi e.length i)):=by
 unfold om;rw[Rj (hb i hi) (λj hj hne=>?_)];by_cases h:ix e j=0
 ·rw[h,zero_mul]
 ·have:i∈L.erase j:=(hn.mem_erase_iff).2 ⟨λh=>hne h.symm,hi⟩;rw[(Zf hN (hb i hi) (λk hk=>hb k (List.mem_of_mem_erase hk))).2 this,mul_zero]
theorem BX{N:Nat}{L:List Nat}(hN:N<=255)(hn:L.Nodup)(hb:∀j∈L,j<N){i:Nat}(hi:i∈L):vg N (L.erase i) (zi N i)≠0:=λh=>by have:=(Zf hN (hb i hi) (λk hk=>hb k (List.mem_of_mem_erase hk))).1 h;exact((hn.mem_erase_iff).1 this).1 rfl
theorem P7{a b:UInt8}(ha:a≠0)(hb:b≠0):inv (mul a b)=mul (inv a) (inv b):=by
 apply rC (Am ha hb);rw[mJ (Am ha hb)];have h1:=mJ ha;have h2:=mJ hb;have e:mul (mul a b) (mul (inv a) (inv b))=mul (mul a (inv a)) (mul b (inv b)):=by simp only[mul_comm,WQ]
 rw[e,h1,h2,mul_one]
theorem ain:∀j,hp j=inv (exp j)
 |0=>by rw[hp,qi];decide+kernel
 |j+1=>by rw[hp,ain j,gX,Lu,P7 (acS j) (by decide)]
theorem acv{p q:List UInt8}{a:UInt8}(hp:Dg p 256)(hq:q.length<=255)(h:∀x,val p x=mul (1^^^mul a x) (val q x))(x:UInt8):
 val (fC p) x=mul a (val q x)^^^mul (1^^^mul a x) (val (fC q) x):=by
 have hi:∀i,ix (p.take 256) i=ix p i:=λi=>by
  by_cases hi:i<256
  ·unfold ix;rw[List.getD_eq_getElem?_getD,List.getD_eq_getElem?_getD,List.getElem?_take,if_pos hi]
  ·rw[hp i (by omega),bW (by rw[List.length_take];omega)]
 rw[<-Lj (p.take 256) q a (by rw[List.length_take];omega) hq (λx=>by rw[jG _ _ hi,h]) x];exact jG _ _ (λi=>by rw[qC,qC,hi]) x
theorem aaW(p c e:List UInt8)(L:List Nat)(uV w:List UInt8)(m:UInt8->UInt8)(d:Nat)(hpc:p.length=c.length)(hpe:p.length=e.length)(he:∀i,ix e i=ix p i^^^ix c i)(hN:e.length<=255)
 (hL:∀j,ix e j≠0->j∈L)(hn:L.Nodup)(hb:∀j∈L,j<e.length)(hm:Poly d m)(hm0:∀z,z≠0->m z≠0)(ajT:∀z,val uV z=mul (m z) (vg e.length L z))
 (hw:∀z,val w z=mul (m z) (om e L z))(hd:Dg uV 256)(hdl:d+L.length<=255):repair p uV w=c:=by
 apply jR (by rw[jq,hpc]);intro i hi;rw[jq]at hi;rw[Jr p uV w i hi]
 suffices hf:TR uV w (p.length-1-i)=ix e i by rw[hf,he,GM]
 have hi':i<e.length:=by omega
 have hz:hp (p.length-1-i)=zi e.length i:=by rw[ain,hpe];rfl
 unfold TR;rw[hz];have hmz:=hm0 _ (aiB e.length i);by_cases hiL:i∈L
 ·rw[if_pos (by rw[ajT,(Zf hN hi' hb).2 hiL,mul_zero])];have hlen:=List.length_erase_of_mem hiL;have hpos:0<L.length:=List.length_pos_of_mem hiL;obtain⟨q,hq,hqv⟩:=hm.mul (rX e.length (L.erase i)) (k:=255) (by omega);have hdv:=acv (p:=uV) (q:=q) (a:=loc e.length i) hd hq (λx=>by rw[ajT,<-hqv,Gw e.length x i L hiL];simp only[mul_comm,WQ]) (zi e.length i);rw[wR,xor_self,zero_mul,xor_zero,<-hqv]at hdv;dsimp only at hdv;have hV:=BX hN hn hb hiL;rw[hdv,hw,aiu e L hN hL hn hb i hiL];have hexp:exp (p.length-1-i)=loc e.length i:=by rw[hpe];rfl
  rw[hexp];have hQ:=Am hmz hV;have hX:=MJ e.length i;generalize loc e.length i=X at *;generalize hVV:vg e.length (L.erase i) (zi e.length i)=V at *;generalize m (zi e.length i)=M at *;rw[P7 hX hQ];have e1:mul X (mul (mul M (mul (ix e i) V)) (mul (inv X) (inv (mul M V))))=mul (ix e i) (mul (mul X (inv X)) (mul (mul M V) (inv (mul M V)))):=by generalize inv (mul M V)=W;generalize inv X=Y;simp only[mul_comm,WQ]
  rw[e1,mJ hX,mJ hQ,mul_one,mul_one]
 ·rw[if_neg (by rw[ajT];exact Am hmz (λh=>hiL ((Zf hN hi' hb).1 h)))];by_cases h0:ix e i=0
  ·exact h0.symm
  ·exact absurd (hL i h0) hiL
theorem akw(e:List UInt8)(n:Nat)(Gm:List UInt8)(s:Nat)(hs:Gm.length<=s+1)(hn:1<=n):∃A:UInt8->UInt8,Poly s A/\∀z,mul (val (dP e n) z) (val Gm z)=val ((prod (dP e n) Gm).take n) z^^^mul (pw z n) (A z):=by
 refine⟨val ((prod (dP e n) Gm).drop n),⟨_,?_,λz=>rfl⟩,λz=>?_⟩
 ·rw[List.length_drop];unfold prod;split
  ·simp
  ·rw[aY,dC];omega
 ·rw[<-kE];have h:=val_append ((prod (dP e n) Gm).take n) ((prod (dP e n) Gm).drop n) z;rw[List.take_append_drop]at h;rw[h]
  congr 1
  by_cases hl:n<=(prod (dP e n) Gm).length
  ·rw[List.length_take,Nat.min_eq_left hl,mul_comm]
  ·rw[List.drop_of_length_le (by omega),fZ,zero_mul,mul_zero]
theorem common(N:Nat)(w:UInt8->UInt8)(dw:Nat)(hw:Poly dw w)(b:UInt8->UInt8)(db:Nat)(hb:Poly db b)(hN:N<=255):∀(R:List Nat)(v:UInt8->UInt8)(dv:Nat),R.Nodup->(∀j∈R,j<N)->(∀j∈R,w (zi N j)≠0)->
 Poly dv v->R.length+db+dw+dv<=255->(∀z,mul (vg N R z) (b z)=mul (v z) (w z))->∃m,Poly dv m/\(∀z,v z=mul (vg N R z) (m z))/\∀z,b z=mul (m z) (w z)
 | [],v,dv,_,_,_,hv,_,h=>⟨v,hv,λz=>by rw[vg,one_mul],λz=>by rw[<-h z,vg,one_mul]⟩
 | i :: R,v,dv,hnd,hR,hwz,hv,hd,h=>by
   have hiR:i ∉ R:=(List.nodup_cons.1 hnd).1;have h0:v (zi N i)=0:=by
    have:=h (zi N i);rw[vg,wR,xor_self,zero_mul,zero_mul]at this;rcases mul_eq_zero this.symm with h1|h1
    ·exact h1
    ·exact absurd h1 (hwz i (by simp))
   have hdv:∃k,dv<=k+1/\k<=dv:=⟨dv-1,by omega,by omega⟩;obtain⟨k,hk1,hk2⟩:=hdv;obtain⟨g,hg,hgv⟩:=(hv.mono hk1).factor h0;have hlin:∀x,x^^^zi N i=mul (zi N i) (1^^^mul (loc N i) x):=λx=>by rw[eU,mul_one,mul_assoc,mul_comm (zi N i) (loc N i),wR,one_mul,xor_comm]
   have hv':∀x,v x=mul (1^^^mul (loc N i) x) (mul (zi N i) (g x)):=λx=>by rw[hgv,hlin];simp only[mul_comm,WQ]
   have hP1:=(rX N R).mul hb (k:=255) (by simp at hd;omega);have hP2:=(hg.smul (zi N i)).mul hw (k:=255) (by simp at hd;omega);have hz:=(hP1.xor hP2).zM (by omega) (zi N i) (λx hx=>by
    have hx':=h x;rw[vg,hv',mas,mas]at hx';have hne:(1^^^mul (loc N i) x)≠0:=λe=>hx (by
     have e1:=dN e;have e2:=wR N i;exact rC (MJ N i) (by rw[<-e1,e2]))
    have:=rC hne hx';simp only[this,xor_self])
   obtain⟨m,hm,h1,h2⟩:=common N w dw hw b db hb hN R (λx=>mul (zi N i) (g x)) dv (List.nodup_cons.1 hnd).2 (λj hj=>hR j (by simp[hj])) (λj hj=>hwz j (by simp[hj])) ((hg.smul _).mono hk2) (by simp at hd;omega) (λz=>dN (hz z));exact⟨m,hm,λz=>by rw[hv',h1,vg,mas],h2⟩
theorem Eu(p c e:List UInt8)(n:Nat)(E M:List Nat)(Gm:List UInt8)(hpc:p.length=c.length)(hpe:p.length=e.length)(he:∀i,ix e i=ix p i^^^ix c i)(hN:e.length<=255)(hn1:1<=n)(hn2:n<=16)
 (hL:∀j,ix e j≠0->j∈E++M)(hn:(E++M).Nodup)(hb:∀j∈E++M,j<e.length)(hE:∀j∈E,ix e j≠0)(hs:2*E.length+M.length<=n)(hG:∀z,val Gm z=vg e.length M z)(hGl:Gm.length=M.length+1)(hsy:dP p n=dP e n):
 repair p (prod (Ob ((n:Int)+M.length) n (List.replicate n 0++[1]) ((prod (dP p n) Gm).take n) [0] [1]).2 Gm) (Ob ((n:Int)+M.length) n (List.replicate n 0++[1]) ((prod (dP p n) Gm).take n) [0] [1]).1=c:=by
 rw[hsy];obtain⟨A,hA,hk⟩:=akw e n Gm M.length (by omega) hn1;have hk2:=key e (E++M) n hL;obtain⟨xi,hxi⟩:∃xi,xi=(prod (dP e n) Gm).take n:=⟨_,rfl⟩;rw[<-hxi]at hk ⊢;have hxl:xi.length<=n:=by rw[hxi,List.length_take];omega
 have hxd:=gV xi;obtain⟨a,u,d,aad,ht1,ht2⟩:=Euc.loop ((n:Int)+M.length) (by omega) n _ _ _ _ n (Euc.start hxl) (by omega) (by omega);obtain⟨b,hbb⟩:∃b,b=(Ob ((n:Int)+M.length) n (List.replicate n 0++[1]) xi [0] [1]).1:=⟨_,rfl⟩;obtain⟨v,hvv⟩:∃v,v=(Ob ((n:Int)+M.length) n (List.replicate n 0++[1]) xi [0] [1]).2:=⟨_,rfl⟩;rw[<-hbb,<-hvv]at aad;rw[<-hbb]at ht2;rw[<-hbb,<-hvv];have hdn:=aad.dn;obtain⟨Ua,Ub,pa,pb,ca,cb⟩:=aad.alo;have hdb:=gV b;obtain⟨db,ao7⟩:∃db:Nat,(db:Int)=jM b+1:=⟨(jM b+1).toNat,by omega⟩;have hDb:Dg b db:=λi hi=>Aj (by omega)
 have hlen:(E++M).length=E.length+M.length:=List.length_append;have hT:∀z,mul (vg e.length E z) (val xi z)=om e (E++M) z^^^mul (pw z n) (tau e (E++M) n z^^^mul (vg e.length E z) (A z)):=λz=>by
  have h1:=hk z;have h2:=hk2 z;rw[vF]at h2;rw[hG]at h1;have e1:val xi z=mul (val (dP e n) z) (vg e.length M z)^^^mul (pw z n) (A z):=by rw[h1,xor_assoc,xor_self,xor_zero]
  rw[e1,eU];have e2:mul (vg e.length E z) (mul (val (dP e n) z) (vg e.length M z))=mul (val (dP e n) z) (mul (vg e.length E z) (vg e.length M z)):=WQ _ _ _;rw[e2,h2,eU,xor_assoc]
  congr 2
  exact WQ _ _ _
 have pT:Poly (E.length+M.length+1) (λz=>tau e (E++M) n z^^^mul (vg e.length E z) (A z)):=
  ((ae2 e (E++M) n hL).mono (by omega)).xor ((rX e.length E).mul hA (by omega))
 have pom:Poly (E.length+M.length) (om e (E++M)):=(ag4 e (E++M) hL).mono (by omega);have pv:=aad.pv.poly;have hW:Poly (n+E.length+M.length+1) (λz=>mul (vg e.length E z) (Ub z)^^^mul (val v z) (tau e (E++M) n z^^^mul (vg e.length E z) (A z))):=
  ((rX e.length E).mul pb (by omega)).xor (pv.mul pT (by omega))
 have hlow:=(((rX e.length E).mul hDb.poly (k:=n) (by omega)).xor (pv.mul pom (k:=n) (by omega))).low hW (by omega) (λz=>by
  have h1:=cb z;have h2:=hT z;generalize tau e (E++M) n z^^^mul (vg e.length E z) (A z)=T at h2 ⊢;have e1:val b z=mul (val v z) (val xi z)^^^mul (pw z n) (Ub z):=by rw[h1,xor_assoc,xor_self,xor_zero]
  have e2:om e (E++M) z=mul (vg e.length E z) (val xi z)^^^mul (pw z n) T:=by rw[h2,xor_assoc,xor_self,xor_zero]
  rw[e1,e2];simp only[eU,dG,mas,mul_comm,WQ,xor_comm,xlc,xor_self,zero_xor])
 have hcm:∀z,mul (vg e.length E z) (val b z)=mul (val v z) (om e (E++M) z):=λz=>dN (hlow z)
 have hnE:E.Nodup:=(List.nodup_append.1 hn).1;obtain⟨m,hm,hvm,hbm⟩:=common e.length (om e (E++M)) _ pom (val b) db hDb.poly hN E (val v) _ hnE (λj hj=>hb j (by simp[hj])) (λj hj=>by
  have hjL:j∈E++M:=by simp[hj]
  rw[aiu e (E++M) hN hL hn hb j hjL];exact Am (hE j hj) (BX hN hn hb hjL)) pv (by omega) hcm
 have hm0:∀z,z≠0->m z≠0:=λz hz h0=>by have hd:=aad.det z;rw[hbm,hvm,h0]at hd;simp only[zero_mul,mul_zero,xor_zero]at hd;exact amK hz n hd.symm
 exact aaW p c e (E++M) _ b m _ hpc hpe he hN hL hn hb hm hm0 (λz=>by rw[kE,hvm,hG,vF];simp only[mas,mul_comm]) hbm
  ((aad.pv.prod (Dg.len Gm) (f:=256) (by omega))) (by omega)
theorem I8(a b:List UInt8)(h:a.length=b.length):∀k,iF a b k=(IK (GK a b) k).length
 |0=>rfl
 | k+1=>by
   rw[iF,abx,I8 a b h k,yA h]
   congr 1
   by_cases e:ix a k=ix b k
   ·rw[if_pos e,if_pos (by rw[e,xor_self])]
   ·rw[if_neg e,if_neg (λh=>e (dN h))]
def yN(l:List Int):List Nat:=l.map Int.toNat
theorem jF(l:List Int):(yN l).length=l.length:=by simp[yN]
theorem bT{l:List Int}{k:Nat}(h:k<l.length):aI l k=l[k]:=by unfold aI;simp[h]
theorem UO{n:Nat}{l:List Int}(h:lL n l=true){j k:Nat}(hk:k<l.length)(hj:j<k):aI l j<aI l k:=by
 induction k with
 |zero=>omega
 | succ k ih=>
   have h1:=(rH n l hk h).2.2 (by omega);rw[Nat.add_sub_cancel]at h1;by_cases e:j=k
   ·subst e;exact h1
   ·have:=ih (by omega) (by omega);omega
theorem UN{n:Nat}{l:List Int}(h:lL n l=true):(yN l).Nodup:=by unfold List.Nodup;rw[List.pairwise_iff_getElem];intro i j hi hj hij;rw[jF]at hi hj;have h1:=UO h hj hij;have h2:=(rH n l hi h).1;rw[bT hi]at h1 h2;rw[bT hj]at h1;simp only[yN,List.getElem_map];omega
theorem Qm{n:Nat}{l:List Int}(h:lL n l=true)(i:Nat):i∈yN l↔(i:Int)∈l:=by
 unfold yN;rw[List.mem_map];constructor
 ·rintro⟨x,hx,rfl⟩;obtain⟨k,hk,rfl⟩:=List.getElem_of_mem hx;have:=(rH n l hk h).1;rw[bT hk]at this;rw[show((l[k].toNat:Nat):Int)=l[k] by omega];exact hx
 ·intro hi;exact⟨_,hi,by simp⟩
theorem ahj{n:Nat}{l:List Int}(h:lL n l=true):∀j∈yN l,j<n:=by intro j hj;unfold yN at hj;rw[List.mem_map]at hj;obtain⟨x,hx,rfl⟩:=hj;obtain⟨k,hk,rfl⟩:=List.getElem_of_mem hx;have:=rH n l hk h;rw[bT hk]at this;omega
theorem J5(N:Nat)(l:List Int)(z:UInt8):∀k,k<=l.length->val (dY N l k) z=vg N ((yN l).take k) z
 |0,_=>by rw[dY,val_one,List.take_zero,vg]
 | k+1,h=>by
   have hk:k<(yN l).length:=by rw[jF];omega
   rw[dY,kE,J5 N l z k (by omega),List.take_succ_eq_append_getElem hk,vF]
   congr 1
   have e:(yN l)[k]=(aI l k).toNat:=by simp only[yN,List.getElem_map];rw[bT]
   rw[e,vg,vg,mul_one,bM,val_one,xor_comm];rfl
theorem ae7(N:Nat)(l:List Int)(z:UInt8):val (dY N l l.length) z=vg N (yN l) z:=by rw[J5 N l z _ (Nat.le_refl _),<-jF,List.take_length]
theorem Jl{a b:List UInt8}(h:a.length=b.length)(x:UInt8):eval (GK a b) x=eval a x^^^eval b x:=by rw[yh,yh,yh,Cc h,<-h,<-lM];exact aT _ λj _=>by rw[yA h,dG]
theorem Gv(c:List UInt8)(n:Nat):az c n=true↔cO c n=true/\∀k,k<n->eval c (exp k)=0:=by unfold az;rw[Bool.and_eq_true,Int.toNat_natCast,GV]
theorem aby{p c:List UInt8}{n:Nat}(h:p.length=c.length)(hc:∀k,k<n->eval c (exp k)=0):dP p n=dP (GK p c) n:=by unfold dP;apply List.map_congr_left;intro k hk;rw[Jl h,hc k (by simpa using hk),xor_zero]
theorem Q8{a b:List UInt8}(n:Int)(h:a.length=b.length):cO a n=cO b n:=by unfold cO;rw[h]
def acN(x c:List UInt8)(l:List Int)(k:Nat):List Nat:=(List.range k).filter λi=>ix x i != ix c i && !cont l (i:Int)
theorem Bi(x c:List UInt8)(l:List Int):∀k,(acN x c l k).length=kH x c l k
 |0=>rfl
 | k+1=>by
   have h:=Bi x c l k;unfold acN at h ⊢;rw[List.range_succ,List.filter_append,List.length_append,h,kH]
   congr 1
   by_cases e:ix x k=ix c k
   ·simp[e]
   ·cases hc:cont l (k:Int) <;> simp[e,hc]
theorem yG(x c:List UInt8)(l:List Int)(k i:Nat):i∈acN x c l k↔i<k/\ix x i≠ix c i/\(i:Int) ∉ l:=by unfold acN;rw[List.mem_filter,List.mem_range,Bool.and_eq_true,bne_iff_ne,Bool.not_eq_true',Bool.eq_false_iff,ne_eq,ne_eq,xQ]
theorem RF{q:List UInt8}(h:mr q=true)(k:Nat):ix q k=0:=by
 by_cases hk:k<q.length
 ·have:=(List.all_eq_true.1 h) _ (List.getElem_mem hk);simpa[ix,hk]using this
 ·exact bW (by omega)
theorem O9(x c:List UInt8)(n:Nat)(l:List Int)(Iy:x.length=c.length)(hc:az c n=true)(hp:lL x.length l=true)(hl:2*kH x c l x.length+l.length<=n):decode x n l=(c,(iF x c x.length:Int),0):=by
 obtain⟨hs,hz⟩:=(Gv c n).1 hc;have hsx:cO x n=true:=by rw[Q8 _ Iy];exact hs
 obtain⟨g1,g2,g3,g4,g5⟩:=(bU x n).1 hsx;have hel:(GK x c).length=x.length:=Cc Iy;have hE:=Bi x c l x.length;have hix:∀i,ix (GK x c) i≠0↔ix x i≠ix c i:=λi=>by rw[yA Iy];exact⟨λh e=>h (by rw[e,xor_self]),λh e=>h (dN e)⟩
 have hout:nH x n l=c:=by
  unfold nH xi;have:=Eu x c (GK x c) n (acN x c l x.length) (yN l) (dY x.length l l.length) Iy hel.symm (λi=>yA Iy i) (by omega) (by omega) (by omega) (λj hj=>?_) ?_ (λj hj=>?_) (λj hj=>?_) (by rw[jF];omega) (λz=>by rw[ae7,hel]) (by rw[gW,jF]) (aby Iy hz)
  ·rw[jF]at this;exact this
  ·have h1:=(hix j).1 hj;have hjl:j<x.length:=by
    by_cases h:j<x.length
    ·exact h
    ·exact absurd (by rw[bW (by omega),bW (by omega)]) h1
   rw[List.mem_append];by_cases hm:(j:Int)∈l
   ·exact .inr ((Qm hp j).2 hm)
   ·exact .inl ((yG x c l _ j).2 ⟨hjl,h1,hm⟩)
  ·rw[List.nodup_append];refine⟨List.Nodup.sublist List.filter_sublist List.nodup_range,UN hp,λa ha b hb hab=>?_⟩;subst hab;exact((yG x c l _ a).1 ha).2.2 ((Qm hp a).1 hb)
  ·rw[hel];rcases List.mem_append.1 hj with h|h
   ·exact((yG x c l _ j).1 h).1
   ·exact ahj hp j h
  ·exact(hix j).2 ((yG x c l _ j).1 hj).2.1
 unfold decode;rw[if_neg (by simp[hsx]),if_neg (by simp[hp]),if_neg (by omega),Int.toNat_natCast];by_cases hzz:l = []/\mr (xi x n l)=true
 ·obtain⟨rfl,hz0⟩:=hzz;rw[if_pos ⟨rfl,hz0⟩];have hxi:xi x n []=(prod (dP x n) [1]).take n:=rfl;have hpr:∀k,k<n->ix (prod (dP x n) [1]) k=ix (dP x n) k:=λk hk=>by
   apply Dc
   ·have:(prod (dP x n) [1]).length<=(dP x n).length+1:=by
     unfold prod;split
     ·simp
     ·rw[aY];simp
    rw[dC]at this;omega
   ·rw[dC];omega
   ·intro z;rw[kE,val_one,mul_one]
  have hx0:∀k,k<n->eval x (exp k)=0:=λk hk=>by
   rw[<-Dn x n k hk,<-hpr k hk];rw[hxi]at hz0;have h2:ix ((prod (dP x n) [1]).take n) k=ix (prod (dP x n) [1]) k:=by unfold ix;rw[List.getD_eq_getElem?_getD,List.getD_eq_getElem?_getD,List.getElem?_take,if_pos hk]
   rw[<-h2];exact RF hz0 k
  have hall:iF x c x.length=kH x c [] x.length:=by
   have:∀k,iF x c k=kH x c [] k:=λk=>by
    induction k with
    |zero=>rfl
    |succ k ih=>rw[iF,kH,ih];simp[cont]
   exact this _
  have hzero:=acT (GK x c) n (by omega) (λk hk=>by rw[Jl Iy,hx0 k hk,hz k hk,xor_self]) (by rw[hel,<-I8 x c Iy,hall];omega);have hxe:x=c:=jR Iy λi _=>by have:=hzero i;rw[yA Iy]at this;exact dN this
  subst hxe;have h0:∀k,iF x x k=0:=λk=>by
   induction k with
   |zero=>rfl
   |succ k ih=>rw[iF,ih,if_pos rfl]
  rw[h0];rfl
 ·rw[if_neg hzz,hout,if_pos ⟨hc,hl⟩]
theorem Ip(p:List UInt8)(n:Nat)(l:List Int):(nH p n l).length=p.length:=by unfold nH;rw[jq]
theorem Lh(x:List UInt8)(n:Int)(l:List Int)(h:(decode x n l).2.2=0):∃m:Nat,n=m/\(decode x n l).1.length=x.length/\az (decode x n l).1 n=true/\lL x.length l=true/\
 2*kH x (decode x n l).1 l x.length+l.length<=m/\(decode x n l).2.1=iF x (decode x n l).1 x.length:=by
 unfold decode at h ⊢;split at h
 ·simp at h
 next h1=>
 split at h
 ·simp at h
 next h2=>
 split at h
 ·simp at h
 next h3=>
 have hs:cO x n=true:=by simpa using h1
 have hps:lL x.length l=true:=by simpa using h2
 obtain⟨g1,g2,g3,g4,g5⟩:=(bU x n).1 hs;obtain⟨m,rfl⟩:∃m:Nat,n=m:=⟨n.toNat,by omega⟩;split at h
 ·next h4=>
  rw[if_neg h1,if_neg h2,if_neg h3,if_pos h4];obtain⟨rfl,hz⟩:=h4;have h0:∀k,iF x x k=0:=λk=>by
   induction k with
   |zero=>rfl
   |succ k ih=>rw[iF,ih,if_pos rfl]
  have h0':∀k,kH x x [] k=0:=λk=>by
   induction k with
   |zero=>rfl
   |succ k ih=>rw[kH,ih,if_pos rfl]
  refine⟨m,rfl,rfl,?_,hps,by rw[h0'];simp,by rw[h0];rfl⟩;rw[Gv];refine⟨hs,λk hk=>?_⟩;rw[Int.toNat_natCast]at hz;have hpr:ix (prod (dP x m) [1]) k=ix (dP x m) k:=by
   apply Dc
   ·have:(prod (dP x m) [1]).length<=(dP x m).length+1:=by
     unfold prod;split
     ·simp
     ·rw[aY];simp
    rw[dC]at this;omega
   ·rw[dC];omega
   ·intro z;rw[kE,val_one,mul_one]
  rw[<-Dn x m k hk,<-hpr];have h2:ix (xi x m []) k=ix (prod (dP x m) [1]) k:=by show ix ((prod (dP x m) [1]).take m) k=_;unfold ix;rw[List.getD_eq_getElem?_getD,List.getD_eq_getElem?_getD,List.getElem?_take,if_pos hk]
  rw[<-h2];exact RF hz k
 next h4=>
 split at h
 ·next h5=>
  rw[if_neg h1,if_neg h2,if_neg h3,if_neg h4,if_pos h5];rw[Int.toNat_natCast]at h5 ⊢;exact⟨m,rfl,Ip _ _ _,h5.1,hps,h5.2,rfl⟩
 ·simp at h
def rw_(R:List (List UInt8))(i:Nat):List UInt8:=R.getD i []
def dot(m:Nat)(l:List UInt8)(y:Nat->UInt8):UInt8:=bV (λj=>mul (ix l j) (y j)) m
def Z(m:Nat)(R:List (List UInt8))(y:Nat->UInt8):Prop:=∀i,i<R.length->dot m (rw_ R i) y=0
def Unit(R:List (List UInt8))(k:Nat):Prop:=∀j,j<k->∀i,i<R.length->ix (rw_ R i) j=if i=j then 1 else 0
structure aiD (n m:Nat) (R0 R:List (List UInt8)) (k:Nat):Prop where
 len:R.length=n
 row:∀i,i<n->(rw_ R i).length=m+1
 sol:∀y,Z (m+1) R y↔Z (m+1) R0 y
 unit:Unit R k
theorem aiD.next{n m k:Nat}{R0 R:List (List UInt8)}(h:aiD n m R0 R k)(hc:∀i,i<n->ix (rw_ R i) k=if i=k then 1 else 0):aiD n m R0 R (k+1):=
 ⟨h.len,h.row,h.sol,λj hj i hi=>by
  by_cases e:j=k
  ·subst e;exact hc i (by have:=h.len;omega)
  ·exact h.unit j (by omega) i hi⟩
def mgS(l:List Int)(x:Int):Nat->List Int×Bool
 |0=>([],false)
 |k+1=>if (mgS l x k).2=false/\x<aI l k then((mgS l x k).1++[x]++[aI l k],true) else((mgS l x k).1++[aI l k],(mgS l x k).2)
def mg(l:List Int)(x:Int):List Int:=if (mgS l x l.length).2=true then(mgS l x l.length).1 else(mgS l x l.length).1++[x]
theorem WO(l:List Int)(x y:Int):∀k,k<=l.length->(y∈(mgS l x k).1↔y∈l.take k\/((mgS l x k).2=true/\y=x))
 |0,_=>by simp[mgS]
 | k+1,hk=>by
   have ih:=WO l x y k (by omega);have hkl:k<l.length:=by omega
   rw[mgS,List.take_succ_eq_append_getElem hkl,bT hkl];split
   ·next h=>
    simp only[List.mem_append,List.mem_singleton,ih,h.1];simp only[Bool.false_eq_true,false_and,or_false,true_and];constructor
    ·rintro((h|h)|h)
     ·exact .inl (.inl h)
     ·exact .inr h
     ·exact .inl (.inr h)
    ·rintro((h|h)|h)
     ·exact .inl (.inl h)
     ·exact .inr h
     ·exact .inl (.inr h)
   ·simp only[List.mem_append,List.mem_singleton,ih];constructor
    ·rintro((h|h)|h)
     ·exact .inl (.inl h)
     ·exact .inr h
     ·exact .inl (.inr h)
    ·rintro((h|h)|h)
     ·exact .inl (.inl h)
     ·exact .inr h
     ·exact .inl (.inr h)
theorem UC(l:List Int)(x y:Int):y∈mg l x↔y∈l\/y=x:=by
 have h:=WO l x y l.length (Nat.le_refl _);rw[List.take_length]at h;unfold mg;split
 ·next h1=>rw[h,h1];simp
 ·next h1=>rw[List.mem_append,List.mem_singleton,h];simp[h1]
def anZ(p c:List UInt8)(n:Nat)(l:List Int):Prop:=c.length=p.length/\az c n=true/\∀i:Nat,ix p i≠ix c i->(i:Int)∈l
def Found(p c:List UInt8)(n:Nat)(l:List Int)(e:Nat)(fr:Nat):Prop:=∃E:List Nat,E.length=e/\E.Pairwise (· < ·)/\(∀i∈E,fr<=i/\i<p.length/\(i:Int) ∉ l)/\c.length=p.length/\az c n=true/\∀i:Nat,ix p i≠ix c i->(i:Int)∈l\/i∈E
theorem Found.zero{p c:List UInt8}{n:Nat}{l:List Int}{fr:Nat}:Found p c n l 0 fr↔anZ p c n l:=by
 constructor
 ·rintro⟨E,hE,_,_,h1,h2,h3⟩;obtain rfl:=List.eq_nil_of_length_eq_zero hE;exact⟨h1,h2,λi hi=>(h3 i hi).resolve_right (by simp)⟩
 ·rintro⟨h1,h2,h3⟩;exact⟨[],rfl,by simp,by simp,h1,h2,λi hi=>.inl (h3 i hi)⟩
theorem Found.split{p c:List UInt8}{n:Nat}{l:List Int}{e fr:Nat}(h:Found p c n l (e+1) fr):∃i,fr<=i/\i<p.length/\(i:Int) ∉ l/\Found p c n (mg l i) e (i+1):=by
 obtain⟨E,hE,hs,hb,h1,h2,h3⟩:=h
 match E,hE,hs,hb,h3 with
 | i :: E,hE,hs,hb,h3=>
   obtain⟨g1,g2,g3⟩:=hb i (by simp);obtain⟨k1,k2⟩:=List.pairwise_cons.1 hs;refine⟨i,g1,g2,g3,E,by simpa using hE,k2,λj hj=>?_,h1,h2,λj hj=>?_⟩
   ·obtain⟨m1,m2,m3⟩:=hb j (by simp[hj]);have:=k1 j hj;refine⟨by omega,m2,λhh=>?_⟩;rcases(UC _ _ _).1 hh with h|h
    ·exact m3 h
    ·omega
   ·rcases h3 j hj with h|h
    ·exact .inl ((UC _ _ _).2 (.inl h))
    ·rcases List.mem_cons.1 h with rfl|h
     ·exact .inl ((UC _ _ _).2 (.inr rfl))
     ·exact .inr h
end Go.Proofs.YtfnehkmhcmkhjaaGreat.G
namespace Go.Proofs.YtfnehkmhcmkhjaaGreat.C9
open G
def dat(d:List UInt8)(f:Nat):List UInt8:=(d.drop (24*f)).take 24
def wrd(d:List UInt8)(f:Nat):List UInt8:=enc (dat d f) 4
def sym(d:List UInt8)(n g i:Nat):UInt8:=if 4*i<=g/\g-4*i<n then ix (wrd d (g-4*i)) i else 0
def aoN(d:List UInt8)(n g k:Nat):List UInt8:=(List.range k).map (sym d n g)
def frm(d:List UInt8)(n g:Nat):List UInt8:=enc (aoN d n g 28) 4
def an9(d:List UInt8)(n k:Nat):List (List UInt8):=(List.range k).map (frm d n)
def encR(d:List UInt8):List (List UInt8)×Int:=if d.length=0\/d.length%24≠0 then([],1) else if 784<d.length/24 then([],7) else(an9 d (d.length/24) (d.length/24+108),0)
def frA(F:List (List UInt8))(g:Nat):List UInt8:=(F[g]?).getD []
def got(F:List (List UInt8))(g:Nat):List UInt8:=(decode (frA F g) 4 []).1
def erD(F:List (List UInt8))(f k:Nat):List Int:=((List.range k).filter λi=>(got F (f+4*i)).isEmpty).map Int.ofNat
def wdD(F:List (List UInt8))(f k:Nat):List UInt8:=(List.range k).map λi=>ix (got F (f+4*i)) i
def upI(n:Nat):List Int:=(List.range n).map Int.ofNat
def agV(E:List Int):List Int:=E.filter λi=>decide (i<24)
def Qy(F:List (List UInt8))(f:Nat):List UInt8×List Int:=
 if (erD F f 28).length<=4 then if (decode (wdD F f 28) 4 (erD F f 28)).2.2=0 then((decode (wdD F f 28) 4 (erD F f 28)).1.take 24,[]) else(List.replicate 24 0,upI 24) else((wdD F f 28).take 24,agV (erD F f 28))
def ab2(f:Nat)(E:List Int):List Int:=E.map λi=>24*(f:Int)+i
def alp(F:List (List UInt8)):Nat->List UInt8
 |0=>[]
 |n+1=>alp F n++(Qy F n).1
def Qk(F:List (List UInt8)):Nat->List Int
 |0=>[]
 |n+1=>Qk F n++ab2 n (Qy F n).2
def okF(F:List (List UInt8)):Bool:=F.all λx=>x.length == 0 || x.length == 32
def sJ(F:List (List UInt8)):List UInt8×List Int×Int:=
 if F.length<109\/892<F.length then([],[],1) else if okF F=false then([],[],1) else(alp F (F.length-108),Qk F (F.length-108),0)
theorem agZ(F:List (List UInt8))(f k:Nat)(x:Int):x∈erD F f k↔∃i:Nat,i<k/\(got F (f+4*i)).isEmpty=true/\x=i:=by
 simp only[erD,List.mem_map,List.mem_filter,List.mem_range];constructor
 ·rintro⟨i,⟨h1,h2⟩,rfl⟩;exact⟨i,h1,h2,rfl⟩
 ·rintro⟨i,h1,h2,rfl⟩;exact⟨i,⟨h1,h2⟩,rfl⟩
theorem TG(F:List (List UInt8))(f k:Nat):(erD F f k).length<=k:=by unfold erD;rw[List.length_map];have:=List.length_filter_le (λi=>(got F (f+4*i)).isEmpty) (List.range k);rwa[List.length_range]at this
theorem ad4(F:List (List UInt8))(f:Nat):(Qy F f).2.length<=28:=by
 unfold Qy;split
 ·split
  ·simp
  ·simp[upI]
 ·have h1:=List.length_filter_le (λi=>decide (i<24)) (erD F f 28);have h2:=TG F f 28;show(agV (erD F f 28)).length<=28;unfold agV;omega
theorem BG(F:List (List UInt8)):∀n,(Qk F n).length<=28*n
 |0=>by simp[Qk]
 |n+1=>by have h1:=BG F n;have h2:=ad4 F n;show(Qk F n++ab2 n (Qy F n).2).length<=_;rw[List.length_append];unfold ab2;rw[List.length_map];omega
theorem ag9(F:List (List UInt8))(f:Nat):∀x∈(Qy F f).2,0<=x/\x<24:=by
 intro x hx;unfold Qy at hx;split at hx
 ·split at hx
  ·simp at hx
  ·simp only[upI,List.mem_map,List.mem_range]at hx;obtain⟨i,h1,rfl⟩:=hx;show(0:Int)<=(i:Int)/\(i:Int)<24;omega
 ·simp only[agV,List.mem_filter,decide_eq_true_eq]at hx;obtain⟨i,_,_,rfl⟩:=(agZ F f 28 x).1 hx.1;omega
theorem WN(F:List (List UInt8)):∀n,∀x∈Qk F n,0<=x/\x<24*(n:Int)
 |0=>by simp[Qk]
 | n+1=>by
   intro x hx;have hx':x∈Qk F n++ab2 n (Qy F n).2:=hx;rw[List.mem_append]at hx';rcases hx' with h|h
   ·have:=WN F n x h;omega
   ·simp only[ab2,List.mem_map]at h;obtain⟨y,hy,rfl⟩:=h;have:=ag9 F n y hy;omega
def aoP(F:List (List UInt8))(l:List Sc):List (List UInt8):=(List.range F.length).map λg=>if pU l g=true then [] else frA F g
end Go.Proofs.YtfnehkmhcmkhjaaGreat.C9
