/- Parts -/
import Derived.Test.YtfnehkmhcmkhjaaGreatDu31
set_option maxRecDepth 100000
set_option maxHeartbeats 8000000
set_option linter.unusedVariables false
namespace Go.Proofs.YtfnehkmhcmkhjaaGreat
open Tryz
namespace T7
open Go Go.ChangeShapes Go.WideShapes Go.RowKit C9 wu
def DL(l:List Int):Prop:=∃i,W8.Jt (W8.yx l i) l = []
theorem aaG:DL []:=⟨0,rfl⟩
theorem Qj(n i k:Nat):qE n [] i k=false:=by
 have e:∀m,ed [] m = []:=λm=>kP (λf=>by
  have:lT [] f 28 = []:=by simp[lT,pU]
  rw[yg,this];decide) m
 simp[qE,sD,e]
theorem LM{M:aA}(h:M.scr = [])(i:Nat):M.gone i=((List.range 2352).filter (M.sec i).er).map Int.ofNat:=by
 unfold aA.gone
 congr 2
 funext k;unfold aA.tY;rw[h,Qj,Bool.or_false]
structure PrM (L:List (List UInt8)) (M:aA) (S:Int->Bool):Prop where
 n:M.n=L.length
 ok:M.Ok 1
 scr:M.scr = []
 st:∀i,i<L.length->(M.sec i).st=1
 raw:∀i,i<L.length->(M.sec i).raw=rec (i:Nat) (aJ [] L i)
 ch:∀i,i<L.length->∀k,(M.sec i).ch k=0
 new:∀i:Nat,i<L.length->S i=false->∀k,(M.sec i).er k=false
 peel:∀i,i<L.length->DL (PZ (M.gone i))
theorem PrM.start{L:List (List UInt8)}(h1:1<=L.length)(h2:L.length<=4096):PrM L (dH (recs L L.length)) (λ_=>false):=by
 have hs:∀i,i<L.length->(dH (recs L L.length)).sec i=(kS (T7.rec (i:Nat) (aJ [] L i))).s:=λi hi=>by rw[yF _ (by rw[ku];exact hi),Nk L hi]
 refine⟨by rw[wU,ku],Ql (by rw[ku];exact h1) (by rw[ku];exact h2) (λi hi=>?_),rfl,λi hi=>by rw[hs i hi];simp only[kS],λi hi=>by rw[hs i hi];simp only[kS],λi hi k=>by rw[hs i hi];rfl,λi hi _ k=>by rw[hs i hi];rfl,λi hi=>?_⟩
 ·rw[ku]at hi;rw[Nk L hi];exact yS _ _
 ·have:(dH (recs L L.length)).gone i = []:=by rw[LM (show(dH (recs L L.length)).scr = [] from rfl),hs i hi];simp[kS]
  rw[this];exact aaG
theorem PrM.set{L:List (List UInt8)}{M:aA}{S:Int->Bool}(h:PrM L M S)(x:Int):PrM L M (Q7 S x true):=by
 refine⟨h.n,h.ok,h.scr,h.st,h.raw,h.ch,λi hi hs=>h.new i hi ?_,h.peel⟩;unfold Q7 at hs;split at hs
 ·cases hs
 ·exact hs
theorem PrM.dam{L:List (List UInt8)}{M:aA}{S:Int->Bool}(h:PrM L M S)(d:Ia)(hc:d.ch = [])(hS:S d.aj=false)(hp:DL (PZ d.er)):PrM L (M.gU d).2 (Q7 S d.aj true):=by
 have hS2:=h.set d.aj;have hok:=h.ok.gU d;unfold aA.gU at hok ⊢;split
 ·rename_i hd
  rw[zj hd]at hok;obtain⟨⟨h1,h2⟩,⟨h3,h4⟩,h5⟩:=hd;have hn:=h.n;obtain⟨j,hj⟩:∃j:Nat,d.aj=j:=⟨d.aj.toNat,by omega⟩;have hjt:d.aj.toNat=j:=by omega
  have hjM:j<M.n:=by omega
  rw[hjt]at hok ⊢;have hce:Oa (M.sec j).ch d.ch=(M.sec j).ch:=by rw[hc];rfl
  rw[hce]at hok ⊢;have adp:∀i,i<L.length->(M.put j {M.sec j with er:=Hu (M.sec j).er d.er}).sec i=if i=j then {M.sec j with er:=Hu (M.sec j).er d.er} else M.sec i:=λi hi=>by
   by_cases e:i=j
   ·subst e;rw[zj rfl,aA.jY _ _ hjM]
   ·rw[zi e,aA.kR _ _ e]
  refine⟨by rw[aA.yP];exact hn,hok,h.scr,λi hi=>?_,λi hi=>?_,λi hi k=>?_,λi hi hs k=>?_,λi hi=>?_⟩
  ·show(aA.sec _ i).st=1;rw[adp i hi];split
   ·rename_i e;subst e;exact h.st i hi
   ·exact h.st i hi
  ·show(aA.sec _ i).raw=_;rw[adp i hi];split
   ·rename_i e;subst e;exact h.raw i hi
   ·exact h.raw i hi
  ·show(aA.sec _ i).ch k=0;rw[adp i hi];split
   ·rename_i e;subst e;exact h.ch i hi k
   ·exact h.ch i hi k
  ·show(aA.sec _ i).er k=false;rw[adp i hi];unfold Q7 at hs;by_cases e:(i:Int)=d.aj
   ·rw[zj e]at hs;cases hs
   ·rw[zi e]at hs;rw[zi (by omega)];exact h.new i hi hs k
  ·have ajU:(M.put j {M.sec j with er:=Hu (M.sec j).er d.er}).scr = []:=h.scr;show DL (PZ (aA.gone _ i));rw[LM ajU,adp i hi];by_cases e:i=j
   ·subst e;rw[zj rfl];have hnew:=h.new i hi (by rw[<-hj];exact hS);have hg:((List.range 2352).filter (Hu (M.sec i).er d.er)).map Int.ofNat=d.er:=by
     refine AU ?_ h4 λz=>?_
     ·rw[XH];exact(XN _ List.pairwise_lt_range).imp λh=>by simpa using h
     ·rw[YW];constructor
      ·rintro⟨k,hk,rfl⟩;rw[YI]at hk;have h6:=hk.2;unfold Hu at h6;rw[hnew k,Bool.false_or,Yj]at h6;exact h6
      ·intro hz;have:=h3 z hz;refine⟨z.toNat,?_,by simp;omega⟩;rw[YI,Yx];refine⟨by omega,?_⟩;unfold Hu;rw[hnew,Bool.false_or,Yj];have:((z.toNat:Nat):Int)=z:=by omega
       rw[this];exact hz
    show DL (PZ (((List.range 2352).filter (Hu (M.sec i).er d.er)).map Int.ofNat));rw[hg];exact hp
   ·rw[zi e];have:=h.peel i hi;rwa[LM h.scr]at this
 ·exact hS2
section
variable {H:Type} {enc:TypeId×Value->H} {w:World} {base b0:Nat} {sp:Nat->Bool} {held:Bool}
end
end T7
namespace T7
open Go Go.RowKit C9 wu
theorem QE{S:List Int}{a:Int}(hS:∀x∈S,a<=x/\x<a+172)(hb:∀x∈S,12<=x/\x<2352):DL S:=
 ⟨1,by
   rw[W8.qy];have e:W8.yx S 0=S:=rfl;rw[e,W8.UJ hb (λj hj=>W8.ZC hS j hj)];simp[W8.Jt]⟩
def Hq(a:Int)(n:Nat):List Int:=(List.range n).map λi=>a+(i:Nat)
theorem afG(a:Int)(n:Nat):(Hq a n).length=n:=by simp[Hq]
theorem acf(a:Int)(n:Nat):Hq a (n+1)=Hq a n++[a+(n:Nat)]:=by simp[Hq,Xf]
theorem CZ{a x:Int}{n:Nat}(h:x∈Hq a n):a<=x/\x<a+n:=by unfold Hq at h;rw[YW]at h;obtain⟨i,hi,rfl⟩:=h;have:=Yx.1 hi;omega
theorem SG(a:Int)(n:Nat):(Hq a n).Pairwise (· < ·):=by unfold Hq;rw[XH];exact List.pairwise_lt_range.imp λh=>by omega
theorem aaF{a:Int}{n:Nat}(hn:n<=172)(h2:a+n<=2352):DL (PZ (Hq a n)):=
 QE (a:=a) (λx hx=>by
  have:=CZ ((yw _).subset hx);omega) (λx hx=>by
  have h1:=CZ ((yw _).subset hx);have h3:decide (12<=x)=true:=(YI.1 hx).2;have:=YU h3;omega)
theorem afS{M:aA}{i n:Nat}{a:Int}(hi:i<M.n)(h0:0<=a)(h2:a+n<=2352):(M.gU ⟨(i:Nat),Hq a n,[]⟩).1=0:=by have hok:Ia.Ok ⟨(i:Nat),Hq a n,[]⟩ M.n:=⟨⟨by show(0:Int)<=(i:Nat);omega,by show((i:Nat):Int)<M.n;omega⟩,⟨λx hx=>by have:=CZ hx;omega,SG a n⟩,λc hc=>by cases hc⟩;unfold aA.gU;rw[zj hok]
theorem adO(n i k:Nat){s:Sc}(hs:s.c<=16):qE n [s] i k=false:=by simp[qE,sD,Uy s hs]
theorem acZ{M:aA}(h:M.scr = []){s:Sc}(hs:s.c<=16)(i:Nat):aA.gone {M with scr:=[s]} i=M.gone i:=by
 unfold aA.gone
 congr 2
 funext k;show((M.sec i).er k || qE M.n [s] i k)=((M.sec i).er k || qE M.n M.scr i k);rw[h,adO _ _ _ hs,Qj]
theorem ahG{M:aA}(h:M.scr = []){s:Sc}(h0:0<=s.f)(h1:1<=s.c)(h2:s.f+s.c<=98*(M.n:Int)+108):M.scratch [s]=(0,{M with scr:=[s]}):=by
 have hf:lU (98*M.n+108) [s]=true:=by unfold lU;rw[List.all_cons,List.all_nil,Bool.and_true,tV];omega
 unfold aA.scratch;rw[hf,zi (by decide),zi (by rw[h];simp),h];rfl
theorem PrM.an5{L:List (List UInt8)}{M:aA}{S:Int->Bool}(h:PrM L M S)(hl:∀i,i<L.length->(aJ [] L i).length=2048)(h3:L.length<=4096){s:Sc}(hs:s.c<=16){i:Nat}(hi:i<L.length):aib {M with scr:=[s]} i (i:Nat) (aJ [] L i):=
 ⟨by show i<M.n;rw[h.n];exact hi,hl i hi,by omega,by omega,h.st i hi,h.raw i hi,λk _=>h.ch i hi k,by rw[acZ h.scr hs];exact h.peel i hi⟩
structure ai5 (i:Nat) (s:N8):Prop where
 st:s.st<=3
 b:s.st=0->s.cnt=0
 r:s.st=1->∃d:List UInt8,d.length=2048/\s.raw=T7.rec (i:Nat) d
 er:∀k,s.er k=false
 ch:∀k,s.ch k=0
structure gG (M:aA):Prop where
 kind:M.kind=1
 iL:M.iL=1
 scr:M.scr = []
 sec:∀i,i<M.n->ai5 i (M.sec i)
def nz(M M':aA):Prop:=M'.n=M.n/\∀i,i<M.n->(M.sec i).st≠0->M'.sec i=M.sec i
theorem nz.refl(M:aA):nz M M:=⟨rfl,λ_ _ _=>rfl⟩
theorem nz.trans{a b c:aA}(h:nz a b)(g:nz b c):nz a c:=
 ⟨g.1.trans h.1,λi hi hs=>(g.2 i (by rw[h.1];exact hi) (by rw[h.2 i hi hs];exact hs)).trans (h.2 i hi hs)⟩
theorem gG.put{M:aA}(h:gG M){i:Nat}{s:N8}(hi:i<M.n)(hs:ai5 i s):gG (M.put i s):=by
 refine⟨h.kind,h.iL,h.scr,λk hk=>?_⟩;rw[aA.yP]at hk;by_cases e:k=i
 ·subst e;rw[aA.jY _ _ hi];exact hs
 ·rw[aA.kR _ _ e];exact h.sec k hk
theorem nz.put{M:aA}{i:Nat}{s:N8}(hi:i<M.n)(h0:(M.sec i).st=0):nz M (M.put i s):=by
 refine⟨aA.yP _ _ _,λk hk hs=>?_⟩;by_cases e:k=i
 ·subst e;exact absurd h0 hs
 ·exact aA.kR _ _ e
theorem gG.write{M:aA}(h:gG M){i:Nat}(st:Nat)(raw:List UInt8)(hi:i<M.n):
 M.write i st raw=if (M.sec i).st≠0 then(8,M) else(0,M.put i {M.sec i with st:=st,cnt:=(M.sec i).cnt+1,raw:=raw,ch:=λ_=>0}):=by
 unfold aA.write;rw[zi (by rw[h.kind];decide)];by_cases h0:(M.sec i).st≠0
 ·rw[zj ⟨h.kind,h0⟩,zj h0]
 ·rw[zi (λhh=>h0 hh.2),zi h0,zi (by rw[(h.sec i hi).b (Classical.not_not.1 h0),h.iL];omega)]
theorem gG.Rz{M:aA}(h:gG M){i:Nat}{st:Nat}{raw:List UInt8}(hi:i<M.n)(hst:st=1\/st=2)(hr:st=1->∃d:List UInt8,d.length=2048/\raw=T7.rec (i:Nat) d):gG (M.write i st raw).2/\nz M (M.write i st raw).2:=by
 rw[h.write st raw hi];by_cases h0:(M.sec i).st≠0
 ·rw[zj h0];exact⟨h,nz.refl M⟩
 ·rw[zi h0];exact⟨h.put hi ⟨by dsimp only;omega,λe=>by dsimp only at e;omega,hr,(h.sec i hi).er,λ_=>rfl⟩,nz.put hi (Classical.not_not.1 h0)⟩
theorem gG.uy{M:aA}(h:gG M)(x:Int×List UInt8)(hx:x.2.length=2048):gG (uy M x).2/\nz M (uy M x).2:=by
 unfold T7.uy aA.record;by_cases h1:0<=x.1/\x.1<M.n
 ·rw[zj h1,zj (yS _ _)];exact h.Rz (by omega) (.inl rfl) λ_=>⟨x.2,hx,by rw[Int.toNat_of_nonneg h1.1]⟩
 ·rw[zi h1];exact⟨h,nz.refl M⟩
theorem gG.uA{M:aA}(h:gG M)(a:Int):gG (M.uA a).2/\nz M (M.uA a).2:=by
 unfold aA.uA;by_cases h1:0<=a/\a<M.n
 ·rw[zj h1];exact h.Rz (by omega) (.inr rfl) λe=>by omega
 ·rw[zi h1];exact⟨h,nz.refl M⟩
theorem gG.kM{M:aA}(h:gG M)(l:List (Int×List UInt8))(hx:∀x∈l,x.2.length=2048):gG (kM M l).1/\nz M (kM M l).1:=by
 have key:∀(l:List (Int×List UInt8))(q:aA×Int×Bool),(∀x∈l,x.2.length=2048)->gG q.1->nz M q.1->gG (l.foldl (TV vN) q).1/\nz M (l.foldl (TV vN) q).1:=by
  intro l
  induction l with
  |nil=>intro q _ h1 h2;exact⟨h1,h2⟩
  | cons x l ih=>
    intro q hx h1 h2;rw[Ve];have hr:=h1.uy x (hx x List.mem_cons_self);have e:(TV vN q x).1=(T7.uy q.1 x).2:=by unfold TV vN;split <;> rfl
    exact ih _ (λy hy=>hx y (List.mem_cons_of_mem _ hy)) (by rw[e];exact hr.1) (by rw[e];exact h2.trans hr.2)
 exact key l _ hx h (nz.refl M)
noncomputable def imS(i:Nat)(s:N8):List UInt8:=if s.st=0 then [] else if s.st=1 then((sK s.raw).drop 16).take 2048 else [33]
theorem ahd{aj:Int}{d:List UInt8}(h0:-150<=aj)(h1:aj<=449849)(hd:d.length=2048):((par aj d).drop 16).take 2048=d:=by have:=(FK h0 h1 hd).data;exact this
theorem W9{aj:Int}{d:List UInt8}(h0:-150<=aj)(h1:aj<=449849)(hd:d.length=2048):((sK (T7.rec aj d)).drop 16).take 2048=d:=by rw[X9 aj hd];exact ahd h0 h1 hd
noncomputable def Jq(M:aA)(i:Nat):List UInt8:=imS i (M.sec i)
def jo(M:aA)(st:Int):Nat->Nat
 |0=>0
 |k+1=>if (M.eF (st+(k:Nat))).1=0 then jo M st k else k+1
theorem Fa(M:aA)(st:Int):∀k,jo M st k<=k
 |0=>zl _
 |k+1=>by unfold jo;have:=Fa M st k;split <;> omega
def mf(M:aA)(t:T.ax):Int:=
 if 0<t.pk then min (t.st+t.len) (t.st+((jo M t.st t.len.toNat:Nat)+t.pk-1).tdiv t.pk*t.pk) else t.st+(jo M t.st t.len.toNat:Nat)
def lV(M:aA)(t:T.ax):T.ax:=if t.dZ=2 then t else {t with nx:=mf M t,dZ:=if mf M t=t.st then 0 else 1}
theorem aex(M:aA)(t:T.ax)(hl:1<=t.len)(hp:0<=t.pk)(hm:0<t.pk->t.len.tmod t.pk=0):
 t.st<=mf M t/\mf M t<=t.st+t.len/\(0<t.pk->(mf M t-t.st).tmod t.pk=0):=by
 have ha:=Fa M t.st t.len.toNat;unfold mf;generalize jo M t.st t.len.toNat=a at *;by_cases h:0<t.pk
 ·rw[zj h];have hq:0<=((a:Int)+t.pk-1).tdiv t.pk:=Int.tdiv_nonneg (by omega) (by omega);generalize ((a:Int)+t.pk-1).tdiv t.pk=q at *;have hqp:0<=q*t.pk:=Int.mul_nonneg hq (by omega);have hmq:(q*t.pk).tmod t.pk=0:=Int.mul_tmod_left q t.pk;have hml:=hm h;generalize q*t.pk=z at *;by_cases hz:t.len<=z
  ·rw[Int.min_eq_left (by omega)];refine⟨by omega,by omega,λ_=>?_⟩;rw[show t.st+t.len-t.st=t.len by omega];exact hml
  ·rw[Int.min_eq_right (by omega)];refine⟨by omega,by omega,λ_=>?_⟩;rw[show t.st+z-t.st=z by omega];exact hmq
 ·rw[zi h];exact⟨by omega,by omega,λhh=>absurd hh h⟩
theorem JM(M:aA)(t:T.ax):(lV M t).num=t.num/\(lV M t).dm=t.dm/\(lV M t).st=t.st/\(lV M t).len=t.len/\(lV M t).pk=t.pk:=by unfold lV;split <;> exact⟨rfl,rfl,rfl,rfl,rfl⟩
def yQ(M:aA)(l:List T.ax):List T.ax:=l.map (lV M)
theorem yR(M:aA)(l:List T.ax):(yQ M l).length=l.length:=by simp[yQ]
theorem WZ(M:aA)(l:List T.ax){i:Nat}(h:i<l.length):T.tr (yQ M l) i=lV M (T.tr l i):=by simp[yQ,T.tr,h]
theorem JK(M:aA)(l:List T.ax){i:Nat}(h:i<=l.length):T.eB (yQ M l) i=T.eB l i/\T.sB (yQ M l) i=T.sB l i:=by
 unfold T.eB T.sB;by_cases h0:i=0
 ·rw[zj h0,zj h0,zj h0,zj h0];exact⟨rfl,rfl⟩
 ·rw[zi h0,zi h0,zi h0,zi h0,WZ M l (by omega)];obtain⟨_,h2,h3,h4,_⟩:=JM M (T.tr l (i-1));rw[h2,h3,h4];exact⟨rfl,rfl⟩
theorem U1{M:aA}{cap cl:Int}{fin:Bool}{l:List T.ax}(h:T.aK cap cl fin l):T.aK cap cl fin (yQ M l):=by
 obtain⟨h1,h2,h3,h4,h5,h6,h7,h8⟩:=h;have hs:T.sB (yQ M l) l.length=T.sB l l.length:=(JK M l (zl _)).2;refine⟨h1,h2,by rw[yR];exact h3,h4,h5,λi hi=>?_,by rw[yR,hs];exact h7,λhf=>by rw[yR,hs];exact h8 hf⟩;rw[yR]at hi;have ho:=h6 i hi;obtain⟨he,hsb⟩:=JK M l (i:=i) (by omega);unfold T.okR at ho ⊢;rw[WZ M l hi,he,hsb];obtain⟨s1,s2,s3,s4,s5⟩:=JM M (T.tr l i);rw[s1,s2,s3,s4,s5];obtain⟨o1,o2,o3,o4,o5,o6,o7,o8,o9,Og,o11,Qs,o13,o14⟩:=ho;have hb:=aex M (T.tr l i) o6 o8 (λh=>(Qs h).1);by_cases hc:(T.tr l i).dZ=2
 ·have e:lV M (T.tr l i)=T.tr l i:=by unfold lV;rw[zj hc]
  rw[e];exact⟨o1,o2,o3,o4,o5,o6,o7,o8,o9,Og,o11,Qs,o13,o14⟩
 ·have e1:(lV M (T.tr l i)).nx=mf M (T.tr l i):=by unfold lV;rw[zi hc]
  have e2:(lV M (T.tr l i)).dZ=if mf M (T.tr l i)=(T.tr l i).st then 0 else 1:=by unfold lV;rw[zi hc]
  rw[e1,e2];refine⟨o1,o2,o3,o4,o5,o6,o7,o8,o9,hb.1,hb.2.1,λh=>⟨(Qs h).1,hb.2.2 h⟩,?_,λh=>absurd (o14 h) hc⟩;by_cases hn:mf M (T.tr l i)=(T.tr l i).st
  ·rw[zj hn];exact .inr (.inl ⟨rfl,hn⟩)
  ·rw[zi hn];exact .inr (.inr ⟨rfl,hn⟩)
theorem BV{cap:Int}(h1:1<=cap)(h2:cap<=449849):T.aK cap 0 false []:=⟨h1,h2,by simp,by omega,by omega,λi hi=>by simp at hi,by simp,λh=>by cases h⟩
theorem Ff{cap:Int}(h1:1<=cap)(h2:cap<=449849)(a b:List UInt8):T.aK cap (E1.lZ cap a b).1.cl (E1.lZ cap a b).1.fin (E1.lZ cap a b).1.l:=by
 have h0:=BV h1 h2;unfold E1.lZ;rw[zi (XE ⟨h1,h2⟩)];by_cases ho:E1.jI cap a b=false
 ·rw[zj ho];exact h0
 ·rw[zi ho];exact(E1.yK.1 (E1.afQ (by simpa using ho))).2.1
def RP(w0:World)(X0 R0:Nat->Prop)(p pm:Nat)(df:Option Addr)(E:World->Prop)(EX:Nat->Prop)(N:Nat)(r:Rp)(D:PD)(e:Ending)(w':World):Prop:=
 ∃v vt vc X2 R2,e=.returned v/\RpV w' w0.heap.size (DX p vc EX X2) r v/\iY w' p D pm df vt vc E EX X2 R2/\Ch X0 R0 (DX p vc EX X2) (DR vt R2) w0 w'/\D.M.Ok N
theorem zW.toV{w0:World}{X0 R0:Nat->Prop}{p pm:Nat}{df:Option Addr}{E:World->Prop}{EX:Nat->Prop}{N:Nat}{r:Rp}{D:PD}{e:Ending}{w':World}(h:zW w0 X0 R0 p pm df E EX N r D e w')(h1:r.bl = [])(h2:r.tr = []):RP w0 X0 R0 p pm df E EX N r D e w':=by obtain⟨vt,vc,X2,R2,he,hd,hc,ho⟩:=h;exact⟨_,vt,vc,X2,R2,he,⟨_,_,rfl,by rw[h1];exact dB.nil w',by rw[h2];exact bQ.nil w',λk hk=>(by cases hk),λk hk=>by cases hk⟩,hd,hc,ho⟩
theorem Ed(cl:Int)(fin:Bool)(v:Value)(l:List T.ax)(w:World)(hr:bQ w v l)(hn:l.length<=110):
 Calls prog 56 #[aN cl fin v] w (afw w.heap.size cl fin l w):=by
 have hb0:=((zB w.heap.size w).alloc (zl _) (.cells #[.int .i64 cl,.bool fin,v] 37)).alloc (by simp) (.cells #[.int .i64 0,.bool false,.slice none 0 0] 37);have hr1:=hr.keep hb0;have hcon:=F7 v l _ hr1 hn;have iG:=zH hcon;clear hcon;obtain⟨a,c,rfl,hac⟩:=dU.form hr;go_enter func56,ntmps56;go_wp2_with fail;refine iG.out.mono ?_;rintro e w1 ⟨v',rfl,hown,hb⟩;have hb1:=hb0.trans (hb.mono (by simp;omega));have ht0:w1.cell? ⟨w.heap.size,0,none⟩=some (.int .i64 cl):=(hb.cell (p:=⟨w.heap.size,0,none⟩) (by simp;omega)).trans (by simp[go_sem]);have ht1:w1.cell? ⟨w.heap.size,1,none⟩=some (.bool fin):=(hb.cell (p:=⟨w.heap.size,1,none⟩) (by simp;omega)).trans (by simp[go_sem]);have ht2:w1.cell? ⟨w.heap.size,2,none⟩=some (.slice a l.length c):=(hb.cell (p:=⟨w.heap.size,2,none⟩) (by simp;omega)).trans (by simp[go_sem]);have hs0:w1.cell? ⟨w.heap.size+1,0,none⟩=some (.int .i64 0):=(hb.cell (p:=⟨w.heap.size+1,0,none⟩) (by simp)).trans (by simp[go_sem]);have hs1:w1.cell? ⟨w.heap.size+1,1,none⟩=some (.bool false):=(hb.cell (p:=⟨w.heap.size+1,1,none⟩) (by simp)).trans (by simp[go_sem]);have hs2:w1.cell? ⟨w.heap.size+1,2,none⟩=some (.slice none 0 0):=(hb.cell (p:=⟨w.heap.size+1,2,none⟩) (by simp)).trans (by simp[go_sem]);have hf0:∀k,w1.frozen? ⟨w.heap.size,k,none⟩=false:=λk=>(hb.frozen (p:=⟨w.heap.size,k,none⟩) (by simp;omega)).trans (by simp[go_sem])
 have hf1:∀k,w1.frozen? ⟨w.heap.size+1,k,none⟩=false:=λk=>(hb.frozen (p:=⟨w.heap.size+1,k,none⟩) (by simp)).trans (by simp[go_sem])
 obtain⟨a2,c2,rfl,_⟩:=dU.form (bQ.bg hown);have hw1:w.heap.size+1<w1.heap.size:=by have:=hb.size;simp at this;omega
 go_wp2_with fail;refine zr (v:=aN cl fin (.slice a2 l.length c2)) (by simp[results,results56,go_sem,hs0,hs1,hs2]) rfl ⟨_,rfl,?_,?_⟩
 ·refine iQ (base:=w.heap.size+2) ?_ (by omega);have hown2:w1.ownsRow (w.heap.size+2) 94 7 (.slice a2 l.length c2) l.length (fl l):=by simpa using hown
  exact dL (dL (dL (dL hown2 (by simp) _) (by simp) _) (by simp) _) (by simp) _
 ·exact(((hb1.setCell (by simp) _).setCell (by simp) _).setCell (by simp) _).setCell (by simp) _
def afT(b3:Nat)(k:Int)(FV:Value)(ok:Bool)(i:Nat)(v:Value)(d:Nat->Value)(W:World):Prop:=match i with
 |0=>∃b,v=.map (some b)/\MF 3 W b 9 KY
 |1=>v=.pointer (some ⟨b3,0,none⟩)
 |2=>v=.int .i64 k
 |3=>v=.tuple #[FV,.bool ok]
 |4=>v=.tuple #[FV,.bool ok]
 |5=>v=FV
 |6=>v=.bool ok
 |7=>v=FV
 |8=>v=.bool ok
 |_=>True
theorem ZQ(b3:Nat)(k:Int)(FV:Value)(ok:Bool)(i:Nat)(v:Value)(d:Nat->Value)(W W':World)(hR:(λW W'=>Below W.heap.size W W') W W')(h:afT b3 k FV ok i v d W):afT b3 k FV ok i v d W':=by
 by_cases h0:i=0
 ·subst h0;obtain⟨b,h1,h2⟩:=h;exact⟨b,h1,h2.below hR⟩
 unfold afT at h ⊢;split at h <;> first|exact h|exact absurd rfl h0
theorem Lm{w w0:World}{p pm N:Nat}{D:PD}{df:Option Addr}{vt vc:Value}{E:World->Prop}{EX Xm Rm X0 R0:Nat->Prop}(h:iY w p D pm df vt vc E EX Xm Rm)(hc:Ch X0 R0 (DX p vc EX Xm) (DR vt Rm) w0 w)
 (k aj cnt bP pk:Int)(hk:-9223372036854775808<=k/\k<=9223372036854775807)(a5:Option Addr)(n5 c5:Nat)(fi:Nat)(hfi:∀args W,(callFunc fi args).run prog W=.ok (.enter fi args) W)(hf:KY k=some (.func (.func fi) #[] #[])){D2:PD}{r:Rp}
 (hcall:∀W,Below w.heap.size w W->iY W p D pm df vt vc E EX Xm Rm->Calls prog fi #[.pointer (some ⟨p,0,none⟩),jk k aj cnt bP pk (.slice a5 n5 c5)] W (RP W (DX p vc EX Xm) (DR vt Rm) p pm df E EX N r D2)):
 Calls prog 13 #[.pointer (some ⟨p,0,none⟩),jk k aj cnt bP pk (.slice a5 n5 c5)] w (RP w0 X0 R0 p pm df E EX N r D2):=by
 obtain⟨wA,hwA⟩:∃w1,w1=(w.alloc (.cells #[.int .i64 k,.int .i64 aj,.int .i64 cnt,.int .i64 bP,.int .i64 pk,.slice a5 n5 c5] 49)).alloc (.cells aX.toArray 58):=⟨_,rfl⟩;obtain⟨b3,hb3⟩:∃b,b=w.heap.size:=⟨_,rfl⟩;obtain⟨b4,hb4⟩:∃b,b=w.heap.size+1:=⟨_,rfl⟩;have hA1:=(zB w.heap.size w).alloc (zl _) (.cells #[.int .i64 k,.int .i64 aj,.int .i64 cnt,.int .i64 bP,.int .i64 pk,.slice a5 n5 c5] 49);have hA:=hA1.alloc hA1.size (.cells aX.toArray 58);have ig:Bx ((w.alloc (.cells #[.int .i64 k,.int .i64 aj,.int .i64 cnt,.int .i64 bP,.int .i64 pk,.slice a5 n5 c5] 49)).alloc (.cells aX.toArray 58)) w.heap.size 49 [.int .i64 k,.int .i64 aj,.int .i64 cnt,.int .i64 bP,.int .i64 pk,.slice a5 n5 c5]:=(Bx.new w 49 [.int .i64 k,.int .i64 aj,.int .i64 cnt,.int .i64 bP,.int .i64 pk,.slice a5 n5 c5]).alloc _;have hbx:=Bx.new (w.alloc (.cells #[.int .i64 k,.int .i64 aj,.int .i64 cnt,.int .i64 bP,.int .i64 pk,.slice a5 n5 c5] 49)) 58 aX;rw[<-hwA]at hA hbx ig;rw[Yl,<-hb4]at hbx;rw[<-hb3]at ig;have HT0:=zH hc;have HTA:=zH hA;have HDA:=zH (h.below hA);have Aa:=zH hbx;have Zu:=zH ig;have HB4:Hid (b4<wA.heap.size/\(∀b,DX p vc EX Xm b\/DR vt Rm b->b≠b4)/\w0.heap.size<=b4):=zH ⟨hbx.lt,λb hb=>by have:=h.lo b hb;omega,by have:=hc.size;omega⟩;have HWA:Hid ((w.alloc (.cells #[.int .i64 k,.int .i64 aj,.int .i64 cnt,.int .i64 bP,.int .i64 pk,.slice a5 n5 c5] 49)).alloc (.cells #[.int .i64 0,.int .i64 0,.slice none 0 0,.int .i64 0,.bool false,.slice none 0 0] 58)=wA):=zH hwA.symm;have IX:=zH hb4;have RU:=zH hb3;have HKB:=zH hk;have rZ:Hid (∀W,Below wA.heap.size wA W->W.cell? ⟨b3,0,none⟩=some (.int .i64 k)):=zH λW hW=>(Zu.out.call hW).cell (i:=0) rfl
 obtain⟨ZF,hZF⟩:∃z,∀W,(zeroValue 103).run prog W=.ok z W:=⟨Value.nilFunc,λW=>by kernel_rfl⟩;have HZF:=zH hZF;obtain⟨FV,hFV⟩:∃v,v=Value.func (.func fi) #[] #[]:=⟨_,rfl⟩;obtain⟨ok,hok⟩:∃b,b=true:=⟨_,rfl⟩;have HFV:Hid ((KY k).getD ZF=FV):=zH (by rw[hFV,hf];rfl);have aiR:Hid ((KY k).isSome=ok):=zH (by rw[hok,hf];rfl);have HFE:=zH hFV;have HOE:=zH hok;clear hwA hb3 hb4 hA1 hA ig hbx h hc hk hf hZF hFV hok;unfold jk;go_enter func13,ntmps13;go_upto_region 1 with (fail)
 rw[HWA.out,<-IX.out,<-RU.out];refine fO (by kernel_rfl) (λW W'=>Below W.heap.size W W') (λW=>Below wA.heap.size wA W) (afT b3 k FV ok) (λ_=>false) (by kernel_rfl) (λW W' hR h=>h.trans (hR.mono h.size)) (ZQ b3 k FV ok) ((zB _ _).drew) ⟨?s0,?_,?s2,?s3,?_,?_,?_,?_,?_,trivial⟩ ?_;all_goals first
  | (intro a W hc hsz hold ah
     have o3:a.tmps.getD 3 undef=.pointer (some ⟨b3,0,none⟩):=hold 3 (by kernel_rfl);try have d3:=zV 11 (.tuple #[FV,.bool ok]) (ah 3 rfl rfl _ rfl)
     try have d4:=zV 7 (.tuple #[FV,.bool ok]) (ah 4 rfl rfl _ rfl)
     try have d5:=zV 12 FV (ah 5 rfl rfl _ rfl)
     try have d6:=zV 13 (.bool ok) (ah 6 rfl rfl _ rfl)
     clear hsz hold ah;refine ai rfl (ag rfl) ?_;refine ay (zB _ _) rfl λK hK=>?_
     go_simp;exact hK)
  |skip
 try case s0=>
  intro a W hc hsz hold ah;clear hsz hold ah;refine ai rfl (ag rfl) ?_;refine mZ λK hK=>?_
  go_simp;refine(Jb W).mono ?_;rintro e w' ⟨rfl,hm,hb'⟩;exact hK _ _ hb' ⟨_,rfl,hm⟩
 try case s2=>
  intro a W hc hsz hold ah;have d1:=zV 9 (.pointer (some ⟨b3,0,none⟩)) (ah 1 rfl rfl _ rfl);have z0:=rZ.out W hc;clear hsz hold ah;refine ai rfl (ag rfl) ?_;refine ay (v:=.int .i64 k) (zB _ _) rfl λK hK=>?_
  go_simp;exact hK
 try case s3=>
  intro a W hc hsz hold ah;have x0:=ah 0 rfl rfl _ rfl;have d2:=zV 10 (.int .i64 k) (ah 2 rfl rfl _ rfl);clear hsz hold ah;refine ai rfl (ag rfl) ?_;obtain⟨b,hb,hm⟩:=x0;replace hb:a.tmps.getD 8 undef=.map (some b):=hb;have hlk:=(hm.look underlying3 underlying105 (z:=ZF) (HZF.out W) k HKB.out.1 HKB.out.2);rw[HFV.out,aiR.out]at hlk;refine ay (v:=.tuple #[FV,.bool ok]) (zB _ _) rfl λK hK=>?_
  go_simp;exact hK
 ·intro a W hC hd hsz hold hval;have d5:a.tmps.getD 5 undef=FV:=hval 7 _ rfl rfl;have d6:a.tmps.getD 6 undef=.bool ok:=hval 8 _ rfl rfl;obtain⟨G,hG,ha⟩:=dK [5,6,7,8,9,10,11,12,13] (by kernel_rfl) hd hsz hold;simp only[hG]at d5 d6;rw[ha];clear ha hG hd hsz hold;simp only[cZ,Ym,List.set,d5,d6];clear d5 d6;obtain rfl:=HFE.out;obtain rfl:=HOE.out;have hC:Below wA.heap.size wA W:=hC;have DJ:=zH (HDA.out.below hC);have VF:=zH (HT0.out.trans (Ch.of (X:=DX p vc EX Xm) (R:=DR vt Rm) (HTA.out.trans (hC.mono HTA.out.size))));have qp:=Zu.out.call hC;have afu:=zH (Aa.out.call hC);have afq:Hid (b4<W.heap.size):=zH (by have:=hC.size;have:=HB4.out.1;omega);have RX:=zH (hcall W (HTA.out.trans (hC.mono HTA.out.size)) DJ.out);have s0:=qp.cell (i:=0) rfl;have s1:=qp.cell (i:=1) rfl;have s2:=qp.cell (i:=2) rfl;have s3:=qp.cell (i:=3) rfl;have s4:=qp.cell (i:=4) rfl;have s5:=qp.cell (i:=5) rfl;unfold jk at RX;clear hval hC qp hcall;go_upto_region 4 with (fail)
  go_wp2_with fail;refine RX.out.mono ?_;rintro e w2 ⟨v,vt2,vc2,X2,R2,rfl,⟨vb,vtt,rfl,hrb,hrt,hb1,hb2⟩,hd2,hc2,ho2⟩;obtain⟨ab,cb,rfl,_⟩:=dB.form hrb;obtain⟨at_,ct,rfl,_⟩:=dU.form hrt;have haw:=qR hc2 afq.out λk hk=>HB4.out.2.1 k hk
  have hx2:Bx w2 b4 58 aX:=haw.2.trans afu.out;have HD2:=zH hd2;have HT2:=zH (VF.out.trans hc2);have HRB:=zH hrb;have HRT:=zH hrt;have H1:=zH hb1;have H2:=zH hb2;have HO2:=zH ho2;have Cf:=zH haw.1;unfold aX at hx2;have t0:=hx2.cell (i:=0) rfl;have t1:=hx2.cell (i:=1) rfl;have t2:=hx2.cell (i:=2) rfl;have t3:=hx2.cell (i:=3) rfl;have t4:=hx2.cell (i:=4) rfl;have t5:=hx2.cell (i:=5) rfl;have tf:=λi=>hx2.free i
  unfold jg;clear hrb hrt hb1 hb2 hd2 hc2 ho2 haw hx2 s0 s1 s2 s3 s4 s5;go_wp2_with fail;refine zr (v:=jg r (.slice ab r.bl.length cb) (.slice at_ r.tr.length ct)) (by simp[results,results13,go_sem,jg,t0,t1,t2,t3,t4,t5]) rfl ⟨_,vt2,vc2,X2,R2,rfl,⟨_,_,rfl,?_,?_,λk hk=>⟨?_,(H1.out k hk).2⟩,λk hk=>⟨?_,(H2.out k hk).2⟩⟩,ji HD2.out Cf.out _ _ _ _ _ _,lX HT2.out HB4.out.2.2 _ _ _ _ _ _,HO2.out⟩
  ·exact Dv HRB.out λk hk=>rY _ _ k _ _ _ _ _ _ (by have:=(H1.out k hk).1;have:=afq.out;omega)
  ·exact jZ HRT.out λk hk=>rY _ _ k _ _ _ _ _ _ (by have:=(H2.out k hk).1;have:=afq.out;omega)
  ·have:=(H1.out k hk).1;have:=VF.out.size;omega
  ·have:=(H2.out k hk).1;have:=VF.out.size;omega
theorem OM{X R X2 R2:Nat->Prop}{w w':World}{B:Nat}(h:Ch X R X2 R2 w w')(hB:B<=w.heap.size)(hx:∀b,X b->B<=b):Below B w w':=
 {os:=h.os,tape:=h.tape,output:=h.output,size:=h.size,block:=λb hb=>h.block b (zL hb hB) λh1=>absurd (hx b h1) (Nat.not_le.2 hb)}
def Jw(n:Nat):PD:=⟨1,n,jX 1 n 1,0,false,[],[],[],[]⟩
noncomputable def UD(n:Nat):PD:=qK (Jw n)
theorem Qp{n:Nat}(h1:1<=n)(h2:n<=4096):(Jw n).Ok 0:=
 ⟨rfl,aay (by decide) ⟨by decide,by decide⟩ ⟨h1,h2⟩,BV (by show(1:Int)<=(n:Nat);omega) (by show((n:Nat):Int)<=449849;omega),Xx _,Xx _,λx hx=>(by cases hx),Xx _⟩
theorem amW{n:Nat}(h:n<=4096):wrap64 ((n:Int)+0)=n:=by unfold wrap64;omega
def afv(n:Nat)(w:World)(e:Ending)(w':World):Prop:=∃p pm vt vc X R,e=.returned (.tuple #[.pointer (some ⟨p,0,none⟩),.int .i64 0])/\iY w' p (UD n) pm none vt vc (λ_=>True) (λ_=>False) X R/\Below w.heap.size w w'/\∀b,DX p vc (λ_=>False) X b\/DR vt R b->w.heap.size<=b
theorem ajk(n:Nat)(h1:1<=n)(h2:n<=4096)(w:World):Calls prog 16 #[.int .i64 1,.int .i64 (n:Nat),.int .i64 0,.int .i64 1] w (afv n w):=by
 have HN:Hid (Calls prog 34 #[.int .i64 1,.int .i64 (n:Nat),.int .i64 1] w (ai1 1 n 1 w)):=zH (by
  have:=amA 1 (n:Nat) 1 ⟨.inl rfl,⟨by omega,by omega⟩,by decide,by decide⟩ w;rw[Yw]at this;exact this)
 have vG:=zH (Qp h1 h2);have hw0:=amW h2;have a1:¬ (n:Int)<1:=by omega
 have a2:¬ (4096:Int)<(n:Int):=by omega
 clear h1 h2;go_enter func16,ntmps16;go_wp2_with fail;refine HN.out.mono ?_;rintro e w1 ⟨g,X,R,rfl,hm,hb,hx⟩;have HM:=zH hm;have HB:=zH hb;have HX:=zH hx;clear hm hb hx a1 a2 hw0;go_upto_region 9 with (fail)
 obtain⟨w2,hw2⟩:∃w2,w2=w1.alloc (.cells (kG 1 n g none 0 false (.slice none 0 0) (str []) (str []) (.slice none 0 0)).toArray 101):=⟨_,rfl⟩;obtain⟨p,hp⟩:∃p,p=w1.heap.size:=⟨_,rfl⟩;have hA:=(zB w1.heap.size w1).alloc (zl _) (.cells (kG 1 n g none 0 false (.slice none 0 0) (str []) (str []) (.slice none 0 0)).toArray 101);have hbx:=Bx.new w1 101 (kG 1 n g none 0 false (.slice none 0 0) (str []) (str []) (.slice none 0 0));rw[<-hw2]at hA hbx;rw[<-hp]at hbx;obtain⟨L,hmc⟩:=HM.out;have hnx:¬ X p:=λh=>by have:=hmc.lt p (.inl h);omega
 have hnr:¬ R p:=λh=>by have:=hmc.lt p (.inr h);omega
 have hd:iY w2 p (Jw n) g none (.slice none 0 0) (.slice none 0 0) (λ_=>True) (λ_=>False) X R:=
  ⟨hbx,HM.out.below hA,bQ.nil w2,λk hk=>(by cases hk),⟨rfl,.inl ⟨rfl,rfl⟩⟩,λ_ _=>trivial,λb hb=>hb.elim,
   ⟨hnx,hnr,λh=>h,λb h=>h.elim,λb h=>h.elim,λk h=>(by cases h),λk h=>(by cases h),λk h=>(by cases h),λk h=>(by cases h),λk h=>(by cases h),λk h=>(by cases h),λk h=>(by cases h),λk h=>(by cases h)⟩⟩
 have KG:=zH (Nv hd vG.out.fit.zA (Ch.refl (X:=DX p (.slice none 0 0) (λ_=>False) X) (R:=DR (.slice none 0 0) R)));have HB2:=zH (HB.out.trans (hA.mono HB.out.size));have HAL:Hid (∀b,DX p (.slice none 0 0) (λ_=>False) X b\/DR (.slice none 0 0) R b->w.heap.size<=b):=zH λb hb=>by
  rcases hb with (h1|h1|h1|h1)|h1|h1
  ·rw[h1,hp];exact HB.out.size
  ·exact HX.out b (.inl h1)
  ·exact h1.elim
  ·cases h1
  ·exact HX.out b (.inr h1)
  ·cases h1
 have HW2:Hid (w1.alloc (.cells #[.int .i64 1,.int .i64 (n:Nat),.pointer (some ⟨g,0,none⟩),.pointer none,.int .i64 0,.bool false,.slice none 0 0,.string ⟨#[]⟩,.string ⟨#[]⟩,.slice none 0 0] 101)=w2):=zH hw2.symm;have HP:=zH hp;clear hw2 hp hA hbx hmc hnx hnr hd L;rw[HW2.out,<-HP.out];go_wp2_with fail;refine KG.out.mono ?_;rintro e w3 ⟨rfl,hd3,hc3⟩;have HD3:=zH hd3;have HC3:=zH (OM hc3 HB2.out.size λb hb=>HAL.out b (.inl hb));clear hd3 hc3;go_wp2_with fail;go_ret2;exact⟨p,g,_,_,X,R,rfl,HD3.out,HB2.out.trans HC3.out,HAL.out⟩
end T7
namespace wu
open Go.RowKit Go.Maps C9
open W8 (is)
structure Have (w0 w:World) (g:Nat) (M:aA) (X R:Nat->Prop):Prop where
 m:fF w g M X R
 b:Below w0.heap.size w0 w
 x:∀b,X b\/R b->w0.heap.size<=b
section
variable {w0 w w':World} {g:Nat} {M:aA} {X R X2 R2:Nat->Prop} {Z:Int×aA} {e:Ending}
theorem Have.below(h:Have w0 w g M X R)(hb:Below w.heap.size w w'):Have w0 w' g M X R:=⟨h.m.below hb,h.b.trans (hb.mono h.b.size),h.x⟩
theorem Have.ch{M2:aA}(h:Have w0 w g M X R)(hm:fF w' g M2 X2 R2)(hc:Ch X R X2 R2 w w'):Have w0 w' g M2 X2 R2:=
 ⟨hm,h.b.trans (hc.below _ h.b.size λb hb=>h.x b (.inl hb)),λb hb=>by
  have hs:=h.b.size;rcases hb with h1|h1
  ·exact(hc.x b h1).elim (λh2=>h.x b (.inl h2)) (λh2=>zT hs h2)
  ·exact(hc.r b h1).elim (λh2=>h.x b (.inr h2)) (λh2=>zT hs h2)⟩
end
theorem SK{W:World}(x:Sc)(hx:Wf x){g:Nat}(hb:Bx W g 78 (scc x)):jw W (.slice (some ⟨g,0,none⟩) 1 1) [x]:=
 ⟨⟨some ⟨g,0,none⟩,1,g,0,rfl,zl _,fun i hi=>⟨rfl,fun j u hu=>by
   obtain rfl:i=0:=by simp at hi;omega
   rw[Nat.zero_mul,Yf];exact hb.cell hu⟩⟩,λi hi=>by
   obtain rfl:i=0:=by simp at hi;omega
   exact hx,by simp⟩
end wu
end Go.Proofs.YtfnehkmhcmkhjaaGreat
