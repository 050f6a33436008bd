/- Parts -/
import Derived.Test.YtfnehkmhcmkhjaaGreatDu00
set_option maxRecDepth 100000
set_option maxHeartbeats 8000000
set_option linter.unusedVariables false
namespace Go.Proofs.YtfnehkmhcmkhjaaGreat.C9
structure Sc where
 f:Int
 c:Int
def jJ(n:Nat)(s:Sc):Bool:=decide (0<=s.f) && decide (1<=s.c) && decide (s.c<=(n:Int)) && decide (s.f<=(n:Int)-s.c)
theorem tV(n:Nat)(s:Sc):jJ n s=true↔0<=s.f/\1<=s.c/\s.c<=(n:Int)/\s.f<=(n:Int)-s.c:=by simp[jJ,and_assoc]
def lU(n:Nat)(l:List Sc):Bool:=l.all (jJ n)
def mk(n:Nat)(p:Nat->Bool):List Bool:=(List.range n).map p
theorem qF(n:Nat)(p:Nat->Bool):(mk n p).length=n:=by simp[mk]
theorem wV{n k:Nat}(p:Nat->Bool)(h:k<n):(mk n p)[k]? = some (p k):=by simp[mk,h]
theorem mk_congr{n:Nat}{p q:Nat->Bool}(h:∀k,k<n->p k=q k):mk n p=mk n q:=List.map_congr_left λk hk=>h k (List.mem_range.1 hk)
theorem Qn(n:Nat):mk n (λ_=>false)=List.replicate n false:=by apply List.ext_getElem <;> simp[mk]
theorem adT(n k:Nat)(p:Nat->Bool):(mk n p).set k true=mk n (λg=>p g || g == k):=by
 apply List.ext_getElem?;intro g;rw[List.getElem?_set];by_cases hk:k=g
 ·subst hk;rw[if_pos rfl];by_cases hn:k<n
  ·rw[qF,if_pos hn,wV _ hn];simp
  ·rw[qF,if_neg hn,List.getElem?_eq_none (by rw[qF];omega)]
 ·rw[if_neg hk];by_cases hn:g<n
  ·rw[wV _ hn,wV _ hn];have:(g == k)=false:=by rw[beq_eq_false_iff_ne];omega
   simp[this]
  ·rw[List.getElem?_eq_none (by rw[qF];omega),List.getElem?_eq_none (by rw[qF];omega)]
def xR(s:Sc)(x:Int)(g:Nat):Bool:=decide (s.f<=(g:Int)) && decide ((g:Int)<s.f+x)
def pU(l:List Sc)(g:Nat):Bool:=l.any λs=>xR s s.c g
theorem Wl(l:List Sc)(g:Nat):pU l g=true↔∃s∈l,s.f<=(g:Int)/\(g:Int)<s.f+s.c:=by simp[pU,xR]
theorem PL(l:List Sc)(s:Sc)(g:Nat):pU (l++[s]) g=(pU l g || xR s s.c g):=by simp[pU]
def prt(n:Nat)(l:List Sc)(s:Sc)(i:Nat):List Bool:=mk n λg=>pU l g || xR s i g
theorem aek(n:Nat)(l:List Sc)(s:Sc):prt n l s 0=mk n (pU l):=mk_congr λk _=>by
 have:xR s ((0:Nat):Int) k=false:=by
  unfold xR;rw[Bool.and_eq_false_iff];by_cases h:s.f<=(k:Int)
  ·right;rw[decide_eq_false_iff_not];omega
  ·left;rw[decide_eq_false_iff_not];exact h
 show(pU l k || xR s ((0:Nat):Int) k)=pU l k;rw[this,Bool.or_false]
theorem aej(n:Nat)(l:List Sc)(s:Sc)(i k:Nat)(hk:(k:Int)=s.f+i):(prt n l s i).set k true=prt n l s (i+1):=by
 unfold prt;rw[adT];refine mk_congr λg _=>?_
 rw[Bool.or_assoc]
 congr 1
 rw[Bool.eq_iff_iff];simp only[xR,Bool.or_eq_true,Bool.and_eq_true,decide_eq_true_eq,beq_iff_eq];omega
theorem ahl(n:Nat)(l:List Sc)(s:Sc)(i:Nat)(hi:(i:Int)=s.c):prt n l s i=mk n (pU (l++[s])):=by unfold prt;rw[hi];exact mk_congr λg _=>(PL l s g).symm
def NJ(s:Sc)(x:Int)(g:Nat):Bool:=decide (max 0 (s.f-108)<=(g:Int)) && decide ((g:Int)<x)
def NI(l:List Sc)(g:Nat):Bool:=l.any λs=>NJ s (s.f+s.c) g
theorem ae4(l:List Sc)(s:Sc)(g:Nat):NI (l++[s]) g=(NI l g || NJ s (s.f+s.c) g):=by simp[NI]
def pto(n:Nat)(l:List Sc)(s:Sc)(x:Int):List Bool:=mk n λg=>NI l g || NJ s x g
theorem aem(n:Nat)(l:List Sc)(s:Sc)(x:Int)(hx:x<=max 0 (s.f-108)):pto n l s x=mk n (NI l):=mk_congr λk _=>by
 have:NJ s x k=false:=by
  unfold NJ;rw[Bool.and_eq_false_iff];by_cases h:max 0 (s.f-108)<=(k:Int)
  ·right;rw[decide_eq_false_iff_not];omega
  ·left;rw[decide_eq_false_iff_not];exact h
 simp[this]
theorem ael(n:Nat)(l:List Sc)(s:Sc)(k:Nat)(hk:max 0 (s.f-108)<=(k:Int)):(pto n l s k).set k true=pto n l s ((k:Int)+1):=by
 unfold pto;rw[adT];refine mk_congr λg _=>?_
 rw[Bool.or_assoc]
 congr 1
 rw[Bool.eq_iff_iff];simp only[NJ,Bool.or_eq_true,Bool.and_eq_true,decide_eq_true_eq,beq_iff_eq];omega
theorem ahn(n:Nat)(l:List Sc)(s:Sc)(x:Int)(hx:min (n:Int) (s.f+s.c)<=x)(h2:x<=max (s.f+s.c) 0\/x<=max 0 (s.f-108)):pto n l s x=mk n (NI (l++[s])):=mk_congr λg hg=>by
 rw[ae4]
 congr 1
 rw[Bool.eq_iff_iff];simp only[NJ,Bool.and_eq_true,decide_eq_true_eq];omega
def lT(l:List Sc)(f k:Nat):List Int:=((List.range k).filter λi=>pU l (f+4*i)).map Int.ofNat
def yg(l:List Sc)(f:Nat):List Int:=lT l f 28
theorem Jj(l:List Sc)(f k:Nat):lT l f (k+1)=if pU l (f+4*k)=true then lT l f k++[(k:Int)] else lT l f k:=by
 unfold lT;rw[List.range_succ,List.filter_append,List.map_append];by_cases h:pU l (f+4*k)=true
 ·rw[if_pos h];simp[h]
 ·rw[if_neg h];simp[h]
theorem tK(l:List Sc)(f k:Nat):(lT l f k).length<=k:=by unfold lT;rw[List.length_map];have:=List.length_filter_le (λi=>pU l (f+4*i)) (List.range k);rwa[List.length_range]at this
theorem yH(l:List Sc)(f k:Nat)(x:Int):x∈lT l f k↔∃i:Nat,i<k/\pU l (f+4*i)=true/\x=i:=by
 simp only[lT,List.mem_map,List.mem_filter,List.mem_range];constructor
 ·rintro⟨i,⟨h1,h2⟩,rfl⟩;exact⟨i,h1,h2,rfl⟩
 ·rintro⟨i,h1,h2,rfl⟩;exact⟨i,⟨h1,h2⟩,rfl⟩
theorem ajr(l:List Sc)(f:Nat):∀x∈yg l f,0<=x/\x<28:=λx hx=>by obtain⟨i,h1,_,rfl⟩:=(yH l f 28 x).1 hx;omega
theorem Iq(l:List Sc)(f:Nat)(h:NI l f=false):yg l f = []:=by
 rw[List.eq_nil_iff_forall_not_mem];intro x hx;obtain⟨i,h1,h2,rfl⟩:=(yH l f 28 x).1 hx;obtain⟨s,hs,h3,h4⟩:=(Wl _ _).1 h2;have h5:NI l f=true:=by unfold NI;rw[List.any_eq_true];refine⟨s,hs,?_⟩;simp only[NJ,Bool.and_eq_true,decide_eq_true_eq];omega
 rw[h]at h5;exact absurd h5 (by decide)
def Hw(E:List Int)(f k:Nat):List Int:=if E.length<=4 then [] else((E.take k).filter λi=>decide (i<24)).map λi=>24*(f:Int)+i
def ls(E:List Int)(f:Nat):List Int:=Hw E f E.length
theorem adQ(E:List Int)(f:Nat):Hw E f 0 = []:=by unfold Hw;split <;> simp
theorem adP(E:List Int)(f k:Nat)(x:Int)(hx:E[k]? = some x):Hw E f (k+1)=if 4<E.length/\x<24 then Hw E f k++[24*(f:Int)+x] else Hw E f k:=by
 unfold Hw;by_cases h:E.length<=4
 ·rw[if_pos h,if_pos h,if_neg (by omega)]
 ·rw[if_neg h,if_neg h];obtain⟨hk,rfl⟩:=List.getElem?_eq_some_iff.1 hx;rw[List.take_succ_eq_append_getElem hk,List.filter_append,List.map_append];by_cases h2:E[k]<24
  ·rw[if_pos ⟨by omega,h2⟩];simp[h2]
  ·rw[if_neg (λh3=>h2 h3.2)];simp[h2]
theorem Fg(E:List Int)(f k:Nat)(hE:E.length<=28):(Hw E f k).length<=28:=by
 unfold Hw;split
 ·simp
 ·rw[List.length_map];have h1:=List.length_filter_le (λi=>decide (i<24)) (E.take k);have h2:(E.take k).length<=E.length:=List.length_take_le' _ _;omega
theorem aj6(f:Nat):ls [] f = []:=by simp[ls,Hw]
def ed(l:List Sc):Nat->List Int
 |0=>[]
 |n+1=>ed l n++ls (yg l n) n
theorem mG(l:List Sc):∀n,(ed l n).length<=28*n
 |0=>by simp[ed]
 |n+1=>by have h1:=mG l n;have h2:=Fg (yg l n) n (yg l n).length (tK l n 28);show(ed l n++Hw (yg l n) n (yg l n).length).length<=_;rw[List.length_append];omega
theorem adS(l:List Sc)(f:Nat)(x:Int):x∈ls (yg l f) f↔∃i:Nat,i<24/\pU l (f+4*i)=true/\x=24*(f:Int)+i/\4<(yg l f).length:=by
 unfold ls Hw;by_cases h:(yg l f).length<=4
 ·rw[if_pos h];constructor
  ·intro hx;simp at hx
  ·rintro⟨_,_,_,_,h2⟩;omega
 ·rw[if_neg h,List.take_length];simp only[List.mem_map,List.mem_filter,decide_eq_true_eq];constructor
  ·rintro⟨y,⟨hy,h2⟩,rfl⟩;obtain⟨i,h3,h4,rfl⟩:=(yH l f 28 y).1 hy;exact⟨i,by omega,h4,rfl,by omega⟩
  ·rintro⟨i,h2,h3,rfl,_⟩;exact⟨i,⟨(yH l f 28 _).2 ⟨i,by omega,h3,rfl⟩,by omega⟩,rfl⟩
theorem Jv(l:List Sc)(x:Int):∀n,x∈ed l n↔∃f i:Nat,f<n/\i<24/\pU l (f+4*i)=true/\x=24*(f:Int)+i/\4<(yg l f).length
 |0=>by simp[ed]
 | n+1=>by
   show x∈ed l n++ls (yg l n) n↔_;rw[List.mem_append,Jv l x n,adS];constructor
   ·rintro(⟨f,i,h1,h2⟩|⟨i,h1⟩)
    ·exact⟨f,i,by omega,h2⟩
    ·exact⟨n,i,by omega,h1⟩
   ·rintro⟨f,i,h1,h2⟩;by_cases h:f=n
    ·subst h;exact .inr ⟨i,h2⟩
    ·exact .inl ⟨f,i,by omega,h2⟩
theorem Px(l:List Sc)(f k:Nat):(lT l f k).Pairwise (· < ·):=by unfold lT;rw[List.pairwise_map];refine(List.Pairwise.filter _ List.pairwise_lt_range).imp ?_;intro a b h;show(a:Int)<b;omega
theorem aax(l:List Sc)(f:Nat):(ls (yg l f) f).Pairwise (· < ·):=by
 unfold ls Hw;split
 ·exact List.Pairwise.nil
 ·rw[List.pairwise_map,List.take_length];refine(List.Pairwise.filter _ (Px l f 28)).imp ?_;intro a b h;omega
theorem yD(l:List Sc)(n:Nat):∀x∈ed l n,0<=x/\x<24*(n:Int):=by intro x hx;obtain⟨f,i,h1,h2,_,rfl,_⟩:=(Jv l x n).1 hx;omega
theorem yE(l:List Sc):∀n,(ed l n).Pairwise (· < ·)
 |0=>List.Pairwise.nil
 |n+1=>by show(ed l n++ls (yg l n) n).Pairwise _;rw[List.pairwise_append];refine⟨yE l n,aax l n,λa ha b hb=>?_⟩;have h1:=yD l n a ha;obtain⟨i,_,_,rfl,_⟩:=(adS l n b).1 hb;omega
theorem Pv(s:Sc)(f:Nat):∀k,((lT [s] f k).length:Int)*4<=max 0 (min (s.c+3) ((f:Int)+4*k-s.f))
 |0=>by simp[lT];omega
 | k+1=>by
   have ih:=Pv s f k;rw[Jj];by_cases h:pU [s] (f+4*k)=true
   ·rw[if_pos h];obtain⟨t,ht,h1,h2⟩:=(Wl _ _).1 h;simp only[List.mem_singleton]at ht;subst ht;simp only[List.length_append,List.length_cons,List.length_nil];omega
   ·rw[if_neg h];omega
theorem kP{l:List Sc}(h:∀f,(yg l f).length<=4):∀n,ed l n = []
 |0=>rfl
 |n+1=>by show ed l n++Hw _ _ _ = [];rw[kP h n];unfold Hw;rw[if_pos (h n)];rfl
theorem Uy(s:Sc)(h:s.c<=16)(n:Nat):ed [s] n = []:=kP (λf=>by
 have:=Pv s f 28;unfold yg;omega) n
end Go.Proofs.YtfnehkmhcmkhjaaGreat.C9
namespace Go.Proofs.YtfnehkmhcmkhjaaGreat.C
def st1(n:Nat):Nat:=if n/32768=1 then(n%32768*2)^^^4129 else n%32768*2
def AY:Nat->Nat->Nat
 |0,n=>n
 |k+1,n=>st1 (AY k n)
def st8(n:Nat):Nat:=AY 8 n
theorem ako{n:Nat}(h:n<65536):st1 n<65536:=by
 unfold st1;split
 ·exact Nat.xor_lt_two_pow (n:=16) (by omega) (by omega)
 ·omega
theorem NF{n:Nat}(h:n<65536):∀k,AY k n<65536
 |0=>h
 |k+1=>ako (NF h k)
def reg(c:Nat)(b:UInt8):Nat:=st8 (c^^^b.toNat*256)
def crc(c:Nat)(s:List UInt8):Nat:=s.foldl reg c
theorem S9{c:Nat}(h:c<65536):∀s:List UInt8,crc c s<65536
 | []=>h
 |b::s=>S9 (NF (Nat.xor_lt_two_pow (n:=16) (by omega) (by have:=b.toNat_lt;omega)) 8) s
theorem acn(c:Nat)(s:List UInt8)(b:UInt8):crc c (s++[b])=reg (crc c s) b:=by simp[crc]
def tab(b:Nat):Nat:=st8 (b*256)
theorem ahL:∀hi,hi<256->∀lo,lo<256->st8 (hi*256+lo)=(lo*256)^^^tab hi:=by decide+kernel
theorem akm{n:Nat}(h:n<65536):st8 n=(n%256*256)^^^tab (n/256):=by have:=ahL (n/256) (by omega) (n%256) (by omega);rwa[show n/256*256+n%256=n by omega]at this
end Go.Proofs.YtfnehkmhcmkhjaaGreat.C
