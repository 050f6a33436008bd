/- Parts -/
import Derived.Lib.SliceRun
import Derived.Lib.LazyBuf
import Derived.Test.YtfnehkmhcmkhjaaGreatDu21
set_option maxRecDepth 100000
set_option maxHeartbeats 8000000
set_option linter.unusedVariables false
namespace Go.Proofs.YtfnehkmhcmkhjaaGreat
open Tryz
namespace W8
open Go.RowKit
theorem JB(ws S:List Int)(i:Nat):∀k,(i:Int)∈iq ws S k↔i<k/\S.contains (aI ws i)=true
 |0=>by simp[iq]
 | k+1=>by
   have ih:=JB ws S i k;unfold iq;by_cases hc:S.contains (aI ws k)=true
   ·rw[zj hc,YX,ih];constructor
    ·rintro(h|h)
     ·exact⟨by omega,h.2⟩
     ·have:i=k:=by simp at h;omega
      subst this;exact⟨by omega,hc⟩
    ·rintro⟨h1,h2⟩;by_cases e:i=k
     ·right;simp[e]
     ·left;exact⟨by omega,h2⟩
   ·rw[zi hc,ih];constructor
    ·rintro⟨h1,h2⟩;exact⟨by omega,h2⟩
    ·rintro⟨h1,h2⟩;by_cases e:i=k
     ·subst e;exact absurd h2 hc
     ·exact⟨by omega,h2⟩
theorem nR{l m:List Int}{i:Nat}(h:i<l.length):aI (l++m) i=aI l i:=by unfold aI;rw[Ya,Ya,YY h]
theorem EY(l:List Int)(x:Int):aI (l++[x]) l.length=x:=by simp[aI]
theorem BI(n:Nat)(l m:List Int):∀k,k<=l.length->G.vK n (l++m) k=G.vK n l k
 |0,_=>rfl
 | k+1,h=>by
   unfold G.vK;rw[BI n l m k (by omega),nR (by omega)];by_cases e:0<k
   ·rw[nR (i:=k-1) (by omega)]
   ·simp[e]
theorem aaL{n:Nat}{l:List Int}{x:Int}(h:G.lL n l=true)(h0:0<=x)(hx:x<n)(hl:∀y∈l,y<x):G.lL n (l++[x])=true:=by
 unfold G.lL at h ⊢;rw[Yb,XL];show(G.vK n (l++[x]) l.length && _)=true;rw[BI n l [x] _ (zl _),h,Bool.true_and,EY];by_cases e:0<l.length
 ·have h2:=hl _ (di (show l.length-1<l.length by omega));rw[nR (i:=l.length-1) (by omega)];have a1:¬ x<0:=by omega
  have a2:¬ (n:Int)<=x:=by omega
  have a3:¬ x<=aI l (l.length-1):=by omega
  simp[a1,a2,a3]
 ·have a1:¬ x<0:=by omega
  have a2:¬ (n:Int)<=x:=by omega
  simp[a1,a2,e]
theorem FQ(ws S:List Int)(n:Nat):∀k,k<=n->G.lL n (iq ws S k)=true
 |0,_=>rfl
 | k+1,h=>by
   have ih:=FQ ws S n k (by omega);unfold iq;split
   ·exact aaL ih (by omega) (by omega) (λy hy=>(uw ws S k y hy).2)
   ·exact ih
theorem JD(ws S:List Int):G.lL ws.length (eu ws S)=true:=FQ ws S _ _ (zl _)
theorem yI{ws S:List Int}{i:Nat}(h:i<ws.length):(i:Int)∈eu ws S↔aI ws i∈S:=by unfold eu;rw[JB];simp[h]
theorem BR(l:List Int)(k:Nat)(h:k<l.length):l.take (k+1)=l.take k++[aI l k]:=by rw[Yo h,bT h]
theorem QX(S ws:List Int)(x:Int):∀k,k<=ws.length->(x∈FZ S ws k↔x∈S/\x ∉ ws.take k)
 |0,_=>by simp[FZ]
 | k+1,h=>by
   rw[FZ,BR ws k (by omega)];unfold del;rw[YI,QX S ws x k (by omega),YX];simp only[Va,XV,ne_eq];constructor
   ·rintro⟨⟨h1,h2⟩,h3⟩;exact⟨h1,λh=>h.elim h2 h3⟩
   ·rintro⟨h1,h2⟩;exact⟨⟨h1,λh=>h2 (.inl h)⟩,λh=>h2 (.inr h)⟩
theorem Np(S ws:List Int)(x:Int):x∈rel S ws↔x∈S/\x ∉ ws:=by unfold rel;rw[QX S ws x _ (zl _),YD]
theorem aap(c:List UInt8)(ws:List Int)(f:Int):Iz ws f (bu c ws f)=true:=by
 unfold Iz;have h:∀k,k<=ws.length->Me ws f (bu c ws f) k=true:=by
  intro k
  induction k with
  |zero=>intro _;rfl
  | succ k ih=>
    intro hk;rw[Me,ih (by omega),Bool.true_and,jW _ _ _ _ (by omega)];unfold sym;by_cases h:aI ws k<f
    ·rw[zj h];simp
    ·have:f<=aI ws k:=by omega
     simp[this]
 exact h _ (zl _)
theorem aee{R c:List UInt8}{ws:List Int}{f:Int}(hl:R.length=c.length)(hb:∀y∈ws,0<=y/\y<R.length)(x:Nat):∀k,k<=ws.length->G.ix (Jz R ws f (bu c ws f) k) x=if (x:Int)∈ws.take k/\f<=x then G.ix c x else G.ix R x
 |0,_=>by rw[zi (by simp)];rfl
 | k+1,h=>by
   have ih:=aee (f:=f) hl hb x k (by omega);have hy:=hb _ (di (show k<ws.length by omega));rw[BR ws k (by omega)];unfold Jz;by_cases hf:aI ws k<f
   ·rw[zj hf,ih];by_cases c1:(x:Int)∈ws.take k/\f<=x
    ·rw[zj c1,zj ⟨List.mem_append_left _ c1.1,c1.2⟩]
    ·rw[zi c1,zi];rintro⟨h1,h2⟩;rcases YX.1 h1 with h1|h1
     ·exact c1 ⟨h1,h2⟩
     ·simp at h1;omega
   ·rw[zi hf,ug _ _ _ _ (by rw[rG];omega),ih,jW _ _ _ _ (by omega)];unfold sym;rw[zi hf];by_cases e:x=(aI ws k).toNat
    ·rw[zj e,zj ⟨List.mem_append_right _ (by simp;omega),by omega⟩,e]
    ·rw[zi e];by_cases c1:(x:Int)∈ws.take k/\f<=x
     ·rw[zj c1,zj ⟨List.mem_append_left _ c1.1,c1.2⟩]
     ·rw[zi c1,zi];rintro⟨h1,h2⟩;rcases YX.1 h1 with h1|h1
      ·exact c1 ⟨h1,h2⟩
      ·simp at h1;omega
theorem ahq{R c:List UInt8}{ws:List Int}{f:Int}(hl:R.length=c.length)(hb:∀y∈ws,0<=y/\y<R.length)(x:Nat):G.ix (IB R ws f (bu c ws f)) x=if (x:Int)∈ws/\f<=x then G.ix c x else G.ix R x:=by have:=aee (f:=f) hl hb x ws.length (zl _);rw[YD]at this;exact this
structure Good (c:List UInt8) (f:Int):Prop where
 len:c.length=2352
 word:∀k,k<138->G.az (bu c (wd k) f) 2=true
theorem abv{R c:List UInt8}{S:List Int}{f:Int}{C:Bool}{k:Nat}(hc:Good c f)(hl:R.length=2352)(hk:k<138)(h:2*G.kH (bu R (wd k) f) (bu c (wd k) f) (eu (wd k) S) (wd k).length+(eu (wd k) S).length<=2):
 oQ f (R,S,C) k=(IB R (wd k) f (bu c (wd k) f),rel S (wd k),aen R (wd k) f (bu c (wd k) f) || C):=by
 have hd:=G.O9 (bu R (wd k) f) (bu c (wd k) f) 2 (eu (wd k) S) (by rw[aO,aO]) (hc.word k hk) (by rw[aO];exact JD _ _) (by rw[aO];exact h);have hd':G.decode (bu R (wd k) f) 2 (eu (wd k) S)=_:=hd;unfold oQ;dsimp only;rw[hd'];rw[zj ⟨rfl,aap c (wd k) f⟩]
theorem abu{R:List UInt8}{S:List Int}{f:Int}{C:Bool}{k:Nat}(h:2<(eu (wd k) S).length):oQ f (R,S,C) k=(R,S,C):=by
 have he:(G.decode (bu R (wd k) f) 2 (eu (wd k) S)).2.2≠0:=by
  unfold G.decode;split
  ·simp
  ·split
   ·simp
   ·rw[zj (by omega)];simp
 unfold oQ;dsimp only;rw[zi (λh=>he h.1)]
theorem Qx{a b:List UInt8}{l:List Int}:∀n,(∀i,i<n->G.ix a i≠G.ix b i->(i:Int)∈l)->G.kH a b l n=0
 |0,_=>rfl
 | n+1,h=>by
   rw[G.kH,Qx n (λi hi=>h i (by omega))];by_cases e:G.ix a n=G.ix b n
   ·rw[zj e]
   ·rw[zi e,zj ((G.xQ _ _).2 (h n (by omega) e))]
structure Inv (c R:List UInt8) (S:List Int):Prop where
 len:R.length=2352
 diff:∀x:Nat,x<2352->G.ix R x≠G.ix c x->(x:Int)∈S
def pkS(S:List Int)(k:Nat):List Int:=if (eu (wd k) S).length<=2 then rel S (wd k) else S
def H9(S:List Int):Nat->List Int
 |0=>S
 |k+1=>pkS (H9 S k) k
theorem Inv.step{c R:List UInt8}{S:List Int}{f:Int}{C:Bool}{k:Nat}(hc:Good c f)(h:Inv c R S)(hS:∀x∈S,f<=x)(hk:k<138):Inv c (oQ f (R,S,C) k).1 (oQ f (R,S,C) k).2.1/\(oQ f (R,S,C) k).2.1=pkS S k:=by
 unfold pkS;by_cases hn:(eu (wd k) S).length<=2
 ·have ho:G.kH (bu R (wd k) f) (bu c (wd k) f) (eu (wd k) S) (wd k).length=0:=Qx _ λi hi hne=>by
   rw[yI hi];rw[jW _ _ _ _ hi,jW _ _ _ _ hi]at hne;have hb:=Gx hk hi;unfold sym at hne;by_cases hf:aI (wd k) i<f
   ·rw[zj hf,zj hf]at hne;exact absurd rfl hne
   ·rw[zi hf,zi hf]at hne;have:=h.diff _ (by omega) hne;rwa[show((aI (wd k) i).toNat:Int)=aI (wd k) i by omega]at this
  rw[abv hc h.len hk (by rw[ho];omega),zj hn];refine⟨⟨by dsimp only;rw[BM];exact h.len,λx hx hne=>?_⟩,rfl⟩;dsimp only at hne ⊢;rw[ahq (by rw[h.len,hc.len]) (λy hy=>by have:=Rw hk y hy;rw[h.len];omega)]at hne;rw[Np];by_cases hm:(x:Int)∈wd k/\f<=x
  ·rw[zj hm]at hne;exact absurd rfl hne
  ·rw[zi hm]at hne;have hx2:=h.diff x hx hne;exact⟨hx2,λhw=>hm ⟨hw,hS _ hx2⟩⟩
 ·rw[abu (by omega),zi hn];exact⟨h,rfl⟩
theorem WT(S:List Int)(k:Nat):∀x∈pkS S k,x∈S:=λx hx=>by
 unfold pkS at hx;split at hx
 ·exact((Np S (wd k) x).1 hx).1
 ·exact hx
theorem Na(S:List Int):∀k,∀x∈H9 S k,x∈S
 |0,x,hx=>hx
 |k+1,x,hx=>Na S k x (WT _ _ x hx)
theorem Inv.pass{c R:List UInt8}{S:List Int}{f:Int}(hc:Good c f)(h:Inv c R S)(hS:∀x∈S,f<=x):∀k,k<=138->Inv c (dJ f R S k).1 (dJ f R S k).2.1/\(dJ f R S k).2.1=H9 S k
 |0,_=>⟨h,rfl⟩
 |k+1,hk=>by obtain⟨h1,h2⟩:=Inv.pass hc h hS k (by omega);have h3:=h1.step (C:=(dJ f R S k).2.2) hc (λx hx=>hS x (Na S k x (by rw[<-h2];exact hx))) (show k<138 by omega);refine⟨h3.1,?_⟩;show(oQ f (dJ f R S k) k).2.1=pkS (H9 S k) k;rw[<-h2];exact h3.2
theorem Inv.done{c R:List UInt8}{f:Int}(hc:Good c f)(h:Inv c R []):R=c:=by
 apply G.jR (by rw[h.len,hc.len]);intro i hi;rcases Decidable.em (G.ix R i=G.ix c i) with e|e
 ·exact e
 ·have:=h.diff i (by rw[h.len]at hi;exact hi) e;cases this
theorem FP{ws S T:List Int}(h:∀x∈S,x∈T):∀k,(iq ws S k).length<=(iq ws T k).length
 |0=>zl _
 | k+1=>by
   have ih:=FP (ws:=ws) h k;unfold iq;by_cases h1:S.contains (aI ws k)=true
   ·have h2:T.contains (aI ws k)=true:=by simp at h1 ⊢;exact h _ h1
    rw[zj h1,zj h2,Yb,Yb];simp;omega
   ·rw[zi h1];split
    ·rw[Yb];omega
    ·exact ih
theorem MZ{S:List Int}:∀k,(∀j,j<k->(eu (wd j) (H9 S j)).length<=2)->∀x,x∈H9 S k↔x∈S/\∀j,j<k->x ∉ wd j
 |0,_,x=>by simp[H9]
 | k+1,h,x=>by
   rw[H9,pkS,zj (h k (by omega)),Np,MZ k (λj hj=>h j (by omega)) x];constructor
   ·rintro⟨⟨h1,h2⟩,h3⟩;refine⟨h1,λj hj=>?_⟩;by_cases e:j=k
    ·subst e;exact h3
    ·exact h2 j (by omega)
   ·rintro⟨h1,h2⟩;exact⟨⟨h1,λj hj=>h2 j (by omega)⟩,h2 k (by omega)⟩
theorem FT{ws S:List Int}(h:2<(eu ws S).length):∃a b c:Nat,a<b/\b<c/\c<ws.length/\aI ws a∈S/\aI ws b∈S/\aI ws c∈S:=by have hp:=JD ws S;have hb:=uw ws S ws.length;have h1:=G.UO hp (show 1<(eu ws S).length by omega) (show 0<1 by omega);have h2:=G.UO hp h (show 1<2 by omega);have m0:=di (show 0<(eu ws S).length by omega);have m1:=di (show 1<(eu ws S).length by omega);have m2:=di h;have b0:=hb _ m0;have b1:=hb _ m1;have b2:=hb _ m2;obtain⟨a,ha⟩:∃a:Nat,aI (eu ws S) 0=a:=⟨(aI (eu ws S) 0).toNat,by omega⟩;obtain⟨b,hb'⟩:∃a:Nat,aI (eu ws S) 1=a:=⟨(aI (eu ws S) 1).toNat,by omega⟩;obtain⟨c,hc⟩:∃a:Nat,aI (eu ws S) 2=a:=⟨(aI (eu ws S) 2).toNat,by omega⟩;rw[ha]at h1 m0 b0;rw[hb']at h1 h2 m1 b1;rw[hc]at h2 m2 b2;exact⟨a,b,c,by omega,by omega,by omega,(yI (by omega)).1 m0,(yI (by omega)).1 m1,(yI (by omega)).1 m2⟩
theorem ah0(x:Int)(h0:12<=x)(h1:x<2248):x∈wd ((x-12)%86).toNat:=by
 have hk:((x-12)%86).toNat<86:=by omega
 have hl:=dR ((x-12)%86).toNat;rw[zj hk]at hl;have hi:((x-12)/86).toNat<(wd ((x-12)%86).toNat).length:=by omega
 rcases uC _ _ (by omega) hi with ⟨_,_,h3⟩|⟨h2,_⟩|⟨h2,_⟩|⟨h2,_⟩
 ·have hm:=di hi;have e:aI (wd ((x-12)%86).toNat) ((x-12)/86).toNat=x:=by rw[h3];omega
  rwa[e]at hm
 ·omega
 ·omega
 ·omega
theorem ah1(x:Int)(h0:2248<=x)(h1:x<2352):x∈wd (86+((x-2248)%52).toNat):=by
 have hl:=dR (86+((x-2248)%52).toNat);rw[zi (by omega)]at hl;have key:∀i,i<45->aI (wd (86+((x-2248)%52).toNat)) i=x->x∈wd (86+((x-2248)%52).toNat):=λi hi e=>by have:=di (l:=wd (86+((x-2248)%52).toNat)) (i:=i) (by omega);rwa[e]at this
 by_cases c:x<2300
 ·refine key 43 (by omega) ?_;rcases uC (86+((x-2248)%52).toNat) 43 (by omega) (by omega) with ⟨h2,_⟩|⟨_,h2,_⟩|⟨_,_,h3⟩|⟨_,h2,_⟩
  ·omega
  ·omega
  ·rw[h3];omega
  ·omega
 ·refine key 44 (by omega) ?_;rcases uC (86+((x-2248)%52).toNat) 44 (by omega) (by omega) with ⟨h2,_⟩|⟨_,h2,_⟩|⟨_,h2,_⟩|⟨_,_,h3⟩
  ·omega
  ·omega
  ·omega
  ·rw[h3];omega
theorem UJ{S:List Int}(hS:∀x∈S,12<=x/\x<2352)(hP:∀j,j<86->(eu (wd j) S).length<=2):H9 S 138 = []:=by
 have h86:∀j,j<86->(eu (wd j) (H9 S j)).length<=2:=λj hj=>zT (FP (Na S j) _) (hP j hj)
 have hm:=MZ (S:=S) 86 h86;have hge:∀j,86<=j->∀x∈H9 S j,2248<=x:=by
  have h1:∀x∈H9 S 86,2248<=x:=λx hx=>by
   obtain⟨h2,h3⟩:=(hm x).1 hx;have hb:=hS x h2;rcases Decidable.em (x<2248) with h4|h4
   ·exact absurd (ah0 x hb.1 h4) (h3 _ (by omega))
   ·omega
  intro j hj
  induction j with
  |zero=>omega
  | succ j ih=>
    by_cases e:j+1=86
    ·rw[e];exact h1
    ·intro x hx;exact ih (by omega) x (WT _ _ x hx)
 have aoa:∀j,j<138->(eu (wd j) (H9 S j)).length<=2:=λj hj=>by
  by_cases hj2:j<86
  ·exact h86 j hj2
  ·rcases Decidable.em ((eu (wd j) (H9 S j)).length<=2) with h|h
   ·exact h
   ·obtain⟨a,b,c,hab,hbc,hcl,ha,hb,hc⟩:=FT (show 2<(eu (wd j) (H9 S j)).length by omega);have g:=hge j (by omega) _ ha;rcases uC j a hj (by omega) with ⟨h1,_⟩|⟨_,h2,h3⟩|⟨_,h2,_⟩|⟨_,h2,_⟩
    ·omega
    ·have:=QT (m:=j-86) (i:=a) (by omega);omega
    ·rw[dR,zi hj2]at hcl;omega
    ·rw[dR,zi hj2]at hcl;omega
 have hm2:=MZ (S:=S) 138 aoa;rcases hq:H9 S 138 with _|⟨x,r⟩
 ·rfl
 ·have hx:x∈H9 S 138:=by rw[hq];exact List.mem_cons_self ..
  obtain⟨h1,h2⟩:=(hm2 x).1 hx;have hb:=hS x h1;have hg:=hge 138 (by omega) x hx;exact absurd (ah1 x hg hb.2) (h2 _ (by omega))
theorem ZC{S:List Int}{a:Int}(hS:∀x∈S,a<=x/\x<a+172)(j:Nat)(hj:j<86):(eu (wd j) S).length<=2:=by
 rcases Decidable.em ((eu (wd j) S).length<=2) with h|h
 ·exact h
 ·obtain⟨i,b,c,hab,hbc,hcl,hi,hb,hc⟩:=FT (show 2<(eu (wd j) S).length by omega);have h1:=hS _ hi;have h2:=hS _ hc;rcases uC j i (by omega) (by omega) with ⟨_,_,e1⟩|⟨e,_⟩|⟨e,_⟩|⟨e,_⟩
  ·rcases uC j c (by omega) hcl with ⟨_,_,e2⟩|⟨e,_⟩|⟨e,_⟩|⟨e,_⟩
   ·rw[e1]at h1;rw[e2]at h2;omega
   ·omega
   ·omega
   ·omega
  ·omega
  ·omega
  ·omega
end W8
namespace W8
open Go.RowKit Go.Shelf
def pz(w:World)(e g cap:Nat)(l:List Int):Prop:=
 ∃cur:Array Value,w.heap[g]? = some (.cells cur e (0,0))/\l.length<=cap/\cur.size=cap/\cur.toList.take l.length=is l
section
variable {w:World} {e g cap:Nat} {l:List Int}
theorem pz.lt(h:pz w e g cap l):g<w.heap.size:=by obtain⟨cur,hg,_⟩:=h;exact(Yd.1 hg).1
theorem pz.le(h:pz w e g cap l):l.length<=cap:=by obtain⟨cur,hg,hl,_⟩:=h;exact hl
theorem pz.cell(h:pz w e g cap l)(j:Nat)(hj:j<l.length):w.cell? ⟨g,j,none⟩=some (.int .i64 (aI l j)):=by obtain⟨cur,hg,hl,hs,ht⟩:=h;rw[Xd w g j cur e _ hg,<-wL hj,<-ht,Xz,zj hj];simp
theorem pz.frozen(h:pz w e g cap l)(j:Nat):w.frozen? ⟨g,j,none⟩=false:=by obtain⟨cur,hg,hl,hs,ht⟩:=h;simp only[World.frozen?,hg,Xy,Yv];right;omega
theorem pz.store(h:pz w e g cap l)(j:Nat)(c:Int)(hj:j<l.length):pz (w.setCell ⟨g,j,none⟩ (.int .i64 c)) e g cap (l.set j c):=by
 obtain⟨cur,hg,hl,hs,ht⟩:=h;refine⟨cur.setIfInBounds j (.int .i64 c),?_,by simpa using hl,by simpa using hs,?_⟩
 ·rw[setCell_eq_setRow w g j cur e _ (.int .i64 c) hg];exact XP w g cur _ e _ hg
 ·rw[Array.toList_setIfInBounds,Yu,List.take_set,ht];simp[is,List.map_set]
theorem pz.keep{w':World}(h:pz w e g cap l)(hk:w'.heap[g]? = w.heap[g]?):pz w' e g cap l:=by obtain⟨cur,hg,r⟩:=h;exact⟨cur,hk.trans hg,r⟩
theorem pz.ML{base n:Nat}(h:w.ownsRow base e 1 (.slice (some ⟨g,0,none⟩) n cap) n (is l)):pz w e g cap l/\n=l.length/\base<=g:=by
 have hl:l.length=n:=by have:=h.1;simpa[qx]using this
 rcases h.2 with ⟨h',_⟩|⟨g',cap',cur,h',hb,hg,hn,hm,hs,ht⟩
 ·simp at h'
 ·simp only[YT,YA,Addr.mk.injEq,and_true,true_and]at h';obtain⟨rfl,rfl⟩:=h';exact⟨⟨cur,hg,by omega,by simpa using hs,by rw[hl];simpa using ht⟩,hl.symm,hb⟩
end
def Jt(S l:List Int):List Int:=l.filter λx=>S.contains x
theorem uO{w:World}{g:Nat}:∀(vs:List Value)(o:Nat)(W:World),w.grownBy W (some g)->w.grownBy (W.setCells g o vs) (some g)
 | [],_,_,h=>h
 |v::r,o,W,h=>uO r (o+1) _ (tZ h o v)
theorem MC(l:List Int)(k i:Nat)(c:Int)(h:k<l.length):aI (l.set k c) i=if i=k then c else aI l i:=by
 unfold aI;rw[Ya,Ya,YP];by_cases e:i=k
 ·subst e;rw[zj rfl,zj rfl,zj h];rfl
 ·rw[zi e,zi (Vb e)]
end W8
namespace T7
open Go Go.RowKit Go.Shelf C9
open W8 (is pz di bT oz MC EY nR qA uO tZ)
def anyS(p:List UInt8->Bool)(l:List (List UInt8)):Bool:=l.any p
theorem KP{p:List UInt8->Bool}{l:List (List UInt8)}{i:Nat}(hi:i<l.length)(h:p (aJ [] l i)=true):anyS p l=true:=by unfold anyS;rw[XY];exact⟨_,qN hi,h⟩
theorem xJ{p:List UInt8->Bool}{l:List (List UInt8)}(h:∀i,i<l.length->p (aJ [] l i)=false):anyS p l=false:=by unfold anyS;rw[List.any_eq_false];intro x hx;obtain⟨i,hi,rfl⟩:=YL hx;have:=h i hi;simp only[aJ,Ye hi,Option.getD_some]at this;rw[this];decide
theorem amz(fi:Nat)(hfi:∀args W,(callFunc fi args).run prog W=.ok (.enter fi args) W)(p:List UInt8->Bool)(v:Value)(l:List (List UInt8))(w:World)(hr:fQ w v l)(hl:l.length<=1000000000000)
 (HP:∀x W,x∈l->Calls prog fi #[.string (str x)] W λe w'=>e=.returned (.bool (p x))/\W=w'):
 Calls prog 87 #[v,.func (.func fi) #[] #[]] w λe w'=>∃r:Int,e=.returned (.int .i64 r)/\decide (0<=r)=anyS p l/\w=w':=by
 obtain⟨a,c,rfl,_⟩:=dB.form hr;obtain⟨b,o,k⟩:=dB.at hr;have HK:=zH k;have HP:=zH HP;clear hr k;go_enter func87,ntmps87;go_wp2_with fail
 go_loop [8] (λvi=>∃i:Nat,i<=l.length/\vi=.int .i64 i/\Hid (∀m,m<i->p (aJ [] l m)=false)) (λvi=>l.length-(RowKit.intOf vi).toNat)
 case atStart=>exact⟨0,by omega,rfl,zH λm hm=>by omega⟩
 case round=>
  obtain⟨i,hi,rfl,HO⟩:=hrel;by_cases hlt:i<l.length
  ·obtain⟨ha,hrange⟩:=HK.out i hlt;have hix:=aB underlying45 (by kernel_rfl:(prog.info? 9).map (·.size)=some 1) (cap:=c) ha hlt (i:Int) rfl w;have hcl:w.cell? ⟨b,o+i*1,none⟩=some (.string (str (aJ [] l i))):=hrange 0 _ rfl;simp only[Yy]at hix hcl;have HC:=zH (HP.out (aJ [] l i) w (qN hlt));obtain⟨q,hq⟩:∃q,q=p (aJ [] l i):=⟨_,rfl⟩;rw[<-hq]at HC;have HQ:=zH hq;generalize str (aJ [] l i)=s at hcl HC;clear ha hrange hq;cases q
   ·go_wp2_with fail;refine HC.out.mono ?_;rintro e w' ⟨rfl,rfl⟩;go_wp2_with fail;go_round;case rel=>
     refine⟨i+1,by omega,by go_num,zH λm hm=>?_⟩;by_cases e9:m<i
     ·exact HO.out m e9
     ·have e8:m=i:=by omega
      rw[e8];exact HQ.out.symm
    case measure=>simp[RowKit.intOf];omega
   ·go_wp2_with fail;refine HC.out.mono ?_;rintro e w' ⟨rfl,rfl⟩;go_wp2_with fail;go_ret;refine⟨i,rfl,?_,rfl⟩;rw[KP hlt HQ.out.symm];simp
  ·obtain rfl:i=l.length:=by omega
   go_wp2_with fail;go_ret;refine⟨-1,rfl,?_,rfl⟩;rw[xJ HO.out];rfl
theorem Lc(fi:Nat)(hfi:∀args W,(callFunc fi args).run prog W=.ok (.enter fi args) W)(p:List UInt8->Bool)(v:Value)(l:List (List UInt8))(w:World)(hr:fQ w v l)(hl:l.length<=1000000000000)
 (HP:∀x W,x∈l->Calls prog fi #[.string (str x)] W λe w'=>e=.returned (.bool (p x))/\W=w'):
 Calls prog 38 #[v,.func (.func fi) #[] #[]] w λe w'=>e=.returned (.bool (anyS p l))/\w=w':=by
 have HI:=zH (amz fi hfi p v l w hr hl HP);obtain⟨a,c,rfl,_⟩:=dB.form hr;clear HP hr;go_enter func38,ntmps38;go_wp2_with fail;refine HI.out.mono ?_;rintro e w1 ⟨r,rfl,hr1,rfl⟩;have HR1:=zH hr1;clear hr1;go_wp2_with fail;go_ret;exact⟨iT HR1.out,rfl⟩
def iP(q:Int->Bool)(l:List Int):List Int:=l.filter q
theorem wO(q:Int->Bool)(l:List Int)(x:Int):iP q (l++[x])=if q x=true then iP q l++[x] else iP q l:=by
 unfold iP;rw[List.filter_append];by_cases h:q x=true
 ·rw[zj h];simp only[List.filter_cons,h,if_true,List.filter_nil]
 ·rw[zi h];simp only[List.filter_cons,h,List.filter_nil];simp
theorem Js{q:Int->Bool}{l:List Int}(h:∀t,t<l.length->q (aI l t)=true):iP q l=l:=by unfold iP;rw[List.filter_eq_self];intro x hx;obtain⟨t,ht,rfl⟩:=YL hx;rw[<-bT ht];exact h t ht
theorem Qc{q:Int->Bool}{l:List Int}{k:Nat}(hk:k<l.length)(h:∀t,t<k->q (aI l t)=true)(hx:q (aI l k)=false):iP q (l.take (k+1))=l.take k:=by
 rw[oz l k hk,wO,hx,zi (by decide)];refine Js λt ht=>?_
 rw[Yk]at ht;rw[qA (by omega)];exact h t (by omega)
def anY(q:Int->Bool)(l:List Int)(r:Int):Prop:=(r = -1/\∀t,t<l.length->q (aI l t)=true)\/∃k:Nat,r=k/\k<l.length/\(∀t,t<k->q (aI l t)=true)/\q (aI l k)=false
theorem air(fi:Nat)(hfi:∀args W,(callFunc fi args).run prog W=.ok (.enter fi args) W)(q:Int->Bool)(v:Value)(l:List Int)(w:World)(hv:lu w v l)(h:∀x W,Calls prog fi #[.int .i64 x] W λe w'=>e=.returned (.bool (!q x))/\W=w'):
 Calls prog 141 #[v,.func (.func fi) #[] #[]] w λe w'=>∃r:Int,e=.returned (.int .i64 r)/\anY q l r/\w=w':=by
 obtain⟨h0,⟨a,cap,b,off,rfl,hcap,hcell⟩,Ul⟩:=hv;have HC:=zH hcell;clear hcell;have HP:=zH (λk (hk:k<l.length)=>h (aI l k) w);clear Ul h;go_enter func141,ntmps141;go_wp2_with fail
 go_loop [8] (λvk=>∃k:Nat,k<=l.length/\vk=.int .i64 k/\Hid (∀i,i<k->q (aI l i)=true)) (λvk=>l.length-(RowKit.intOf vk).toNat)
 case atStart=>exact⟨0,by omega,rfl,zH (λi h=>by omega)⟩
 case round=>
  obtain⟨k,hk,rfl,hz⟩:=hrel;by_cases hlt:k<l.length
  ·obtain⟨ha,hcp⟩:=HC.out k hlt;have hix:=bJ (P:=prog) underlying31 sizeInt (cap:=cap) ha hlt _ rfl w;have Ha:=zH ha;clear ha;have HQ:=zH (HP.out k hlt);obtain⟨y,hy⟩:∃y,y=aI l k:=⟨_,rfl⟩;rw[<-hy]at hcp HQ;have Hy:=zH hy;clear hy;cases hc:q y with
   | true=>
     rw[hc]at HQ;have Hc:=zH hc;clear hc;go_wp2_with fail;refine HQ.out.mono ?_;rintro e w' ⟨rfl,rfl⟩;go_wp2_with fail;go_round;case rel=>
      refine⟨k+1,by omega,by go_num,zH λi hi=>?_⟩;by_cases e:i=k
      ·rw[e,<-Hy.out];exact Hc.out
      ·exact hz.out i (by omega)
     case measure=>simp[RowKit.intOf];omega
   | false=>
     rw[hc]at HQ;have Hc:=zH hc;clear hc;go_wp2_with fail;refine HQ.out.mono ?_;rintro e w' ⟨rfl,rfl⟩;go_wp2_with fail;go_ret;exact⟨_,rfl,.inr ⟨k,rfl,hlt,hz.out,by rw[<-Hy.out];exact Hc.out⟩,rfl⟩
  ·obtain rfl:k=l.length:=by omega
   go_wp2_with fail;go_ret;exact⟨_,rfl,.inl ⟨rfl,hz.out⟩,rfl⟩
def DkF(q:Int->Bool)(l L:List Int)(i j:Nat):Prop:=L.length=l.length/\i=(iP q (l.take j)).length/\(∀t,t<i->aI L t=aI (iP q (l.take j)) t)/\∀t,j<=t->t<l.length->aI L t=aI l t
theorem DkF.no{q:Int->Bool}{l L:List Int}{i j:Nat}(h:DkF q l L i j)(hj:j<l.length)(hc:q (aI l j)=false):DkF q l L i (j+1):=by
 obtain⟨h1,h2,h3,h4⟩:=h;have e:iP q (l.take (j+1))=iP q (l.take j):=by rw[oz l j hj,wO,hc,zi (by decide)]
 exact⟨h1,by rw[e];exact h2,by rw[e];exact h3,λt ht hl=>h4 t (by omega) hl⟩
theorem DkF.yes{q:Int->Bool}{l L:List Int}{i j:Nat}(h:DkF q l L i j)(hij:i<j)(hj:j<l.length)(hc:q (aI l j)=true):DkF q l (L.set i (aI l j)) (i+1) (j+1):=by
 obtain⟨h1,h2,h3,h4⟩:=h;have e:iP q (l.take (j+1))=iP q (l.take j)++[aI l j]:=by rw[oz l j hj,wO,hc,zj rfl]
 refine⟨by rw[Yu];exact h1,by rw[e,Yb,h2];rfl,λt ht=>?_,λt ht hl=>?_⟩
 ·rw[MC _ _ _ _ (by omega),e];by_cases e2:t=i
  ·subst e2;rw[zj rfl,h2,EY]
  ·rw[zi e2,nR (by omega),h3 t (by omega)]
 ·rw[MC _ _ _ _ (by omega),zi (by omega),h4 t (by omega) hl]
theorem als(fi:Nat)(hfi:∀args W,(callFunc fi args).run prog W=.ok (.enter fi args) W)(q:Int->Bool)(g cap n:Nat)(l:List Int)(w:World)(hr:pz w 3 g cap l)(hn:l.length=n)(hl:n<=100000)(hb:∀x∈l,-9223372036854775808<=x/\x<=9223372036854775807)(h:∀x W,Calls prog fi #[.int .i64 x] W λe w'=>e=.returned (.bool (!q x))/\W=w'):
 Calls prog 71 #[.slice (some ⟨g,0,none⟩) n cap,.func (.func fi) #[] #[]] w λe w'=>∃v,e=.returned v/\lu w' v (iP q l)/\w.grownBy w' (some g):=by
 have hrd:lu w (.slice (some ⟨g,0,none⟩) n cap) l:=⟨by omega,⟨_,cap,g,0,by rw[hn],hr.le,λi hi=>⟨rfl,by rw[Yf];exact hr.cell i hi⟩⟩,λi hi=>hb _ (di hi)⟩;have HI:=zH (air fi hfi q _ l w hrd h);have HP:Hid (∀W:World,∀j,j<n->Calls prog fi #[.int .i64 (aI l j)] W λe w'=>e=.returned (.bool (!q (aI l j)))/\W=w'):=zH λW j _=>h (aI l j) W
 have hncap:n<=cap:=by rw[<-hn];exact hr.le
 have HRd:=zH hrd;have HR:=zH hr;have HN:=zH hn;have HB:=zH hb;clear hrd hr hn hb h;go_enter func71,ntmps71;go_wp2_with fail;refine HI.out.mono ?_;rintro e w' ⟨r,rfl,(⟨rfl,hall⟩|⟨k,rfl,hk,LQ,hno⟩),rfl⟩
 ·have HA:Hid (iP q l=l):=zH (Js hall);clear hall;go_wp2_with fail;go_ret;exact⟨_,rfl,by rw[HA.out];exact HRd.out,World.grownBy.refl _ _⟩
 ·have hk2:k<n:=by rw[<-HN.out];exact hk
  have HD0:Hid (DkF q l l k (k+1)):=zH (by
   have e:=Qc hk LQ hno;refine⟨rfl,by rw[e,Yk];omega,λt ht=>by rw[e,qA ht],λt _ _=>rfl⟩)
  have hr0:=HR.out;clear LQ hno hk;go_wp2_with fail
  go_loopw [5,6] (λvi vj wr=>∃(i j:Nat)(L:List Int),vi=.int .i64 i/\vj=.int .i64 j/\i<j/\j<=n/\Hid (DkF q l L i j)/\pz wr 3 g cap L/\w.grownBy wr (some g)) (λ_ vj _=>n-(RowKit.intOf vj).toNat)
  case atStart=>exact⟨k,k+1,l,rfl,by go_num,by omega,by omega,HD0,hr0,World.grownBy.refl _ _⟩
  case round=>
   clear hr0;obtain⟨i,j,L,rfl,rfl,hij,hj,HD,hr,hg⟩:=hrel;have hLl:L.length=n:=HD.out.1.trans HN.out;by_cases hlt:j<n
   ·have hlt':(j:Int)<n:=by omega
    have hc:=hr.cell j (by omega);rw[HD.out.2.2.2 j (zl _) (by rw[HN.out];exact hlt)]at hc;have hix:=bJ (P:=prog) (a:=some ⟨g,0,none⟩) (off:=0) (b:=g) (n:=n) (cap:=cap) (k:=j) underlying31 sizeInt rfl hlt _ rfl wr;have hix2:=bJ (P:=prog) (a:=some ⟨g,0,none⟩) (off:=0) (b:=g) (n:=n) (cap:=cap) (k:=i) underlying31 sizeInt rfl (by omega) _ rfl wr;rw[Yf]at hix hix2;have HC:=zH (HP.out wr j hlt);have hf:=hr.frozen i;have hci:=hr.cell i (by omega);have hjl:j<l.length:=by rw[HN.out];exact hlt
    cases hcc:q (aI l j) with
    | false=>
      have HD2:=zH (HD.out.no hjl hcc);rw[hcc]at HC;clear hcc;generalize aI l j=y at *;go_wp2_with fail;refine HC.out.mono ?_;rintro e w' ⟨rfl,rfl⟩;go_wp2_with fail;go_roundw;case rel=>
       refine⟨_,_,_,_,_,_,_,_,_,_,_,_,_,_,_,_,_,_,_,_,_,_,_,?_,rfl⟩;exact⟨i,j+1,L,rfl,by go_num,by omega,by omega,HD2,hr,hg⟩
      case measure=>simp[RowKit.intOf];omega
    | true=>
      have HD2:=zH (HD.out.yes hij hjl hcc);have HSt:=zH (hr.store i (aI l j) (by omega));have HGt:=zH (tZ hg i (.int .i64 (aI l j)));rw[hcc]at HC;clear hcc;generalize aI l j=y at *;go_wp2_with fail;refine HC.out.mono ?_;rintro e w' ⟨rfl,rfl⟩;clear hr hg;go_wp2_with fail;go_roundw;case rel=>
       refine⟨_,_,_,_,_,_,_,_,_,_,_,_,_,_,_,_,_,_,_,_,_,_,_,?_,rfl⟩;exact⟨i+1,j+1,_,by go_num,by go_num,by omega,by omega,HD2,HSt.out,HGt.out⟩
      case measure=>simp[RowKit.intOf];omega
   ·obtain rfl:j=n:=by omega
    have hin:i<j:=hij;have hif:Hid (i=(iP q l).length/\∀t,t<i->aI L t=aI (iP q l) t):=zH (by
     have e:l.take j=l:=YE (by rw[HN.out];exact zl _);have h2:=HD.out.2.1;have h3:=HD.out.2.2.1;rw[e]at h2 h3;exact⟨h2,h3⟩)
    have hcl:∀ty,(Builtin.clear_ #[31] ty #[.slice (some ⟨g,i,none⟩) (j-i) (cap-i)]).run prog wr=.ok (.tuple #[]) (wr.setCells g i (List.replicate (j-i) (.int .i64 0))):=λty=>
     Lib.run_clear_slice wr _ _ ty _ underlying31 (λ_=>by kernel_rfl) rfl rfl g i _ _ (by omega) (λt ht=>by rw[hr.cell (i+t) (by omega)];rfl) (λt ht=>hr.frozen _)
    have akT:Hid (lu (wr.setCells g i (List.replicate (j-i) (.int .i64 0))) (.slice (some ⟨g,0,none⟩) i cap) (iP q l)/\w.grownBy (wr.setCells g i (List.replicate (j-i) (.int .i64 0))) (some g)):=zH (by
     have hki:=hif.out.1;refine⟨⟨by omega,⟨_,cap,g,0,by rw[hif.out.1],by omega,λt ht=>⟨rfl,?_⟩⟩,λt ht=>?_⟩,uO _ _ _ hg⟩
     ·rw[Yf,World.cell?_setCells_out _ _ _ _ _ (λ_ _=>.inl (by show t<i;omega)),hr.cell t (by omega),hif.out.2 t (by omega)]
     ·exact HB.out _ (YI.1 (di ht)).1)
    clear hr hg;go_wp2_with fail;go_ret;exact⟨_,rfl,akT.out.1,akT.out.2⟩
end T7
namespace Ih
open Go.RowKit
theorem abE:∀k:Nat,k<100->aH (uH (k:Int))=((k:Int),0):=by decide+kernel
theorem xk{n:Int}(h0:0<=n)(h1:n<=99):aH (uH n)=(n,0):=by have h:=abE n.toNat (by omega);rwa[Int.toNat_of_nonneg h0]at h
end Ih
namespace W8
open Go.RowKit Go.Shelf
theorem LC{raw:List UInt8}{m:Int}(h:jJ raw m=true):EH m=true/\raw.length=2352:=by
 have h2:raw.length=2352/\EH m=true:=by simpa[jJ]using h
 exact⟨h2.2,h2.1⟩
theorem Pq(raw:List UInt8)(m:Int)(w:World)(hl:raw.length<=9223372036854775807):
 Calls prog 88 #[.string (str raw),.int .i64 m] w λe w'=>e=.returned (.tuple #[.string (str (Po raw m).1),.int .i64 (Po raw m).2])/\Below w.heap.size w w':=by
 cases hf:jJ raw m with
 | true=>
   have e1:Po raw m=(jA raw (pF m) 138,0):=by unfold Po;rw[hf];rfl
   rw[e1];dsimp only;exact TE raw m w (LC hf).1 (LC hf).2
 | false=>
   have e1:Po raw m=([],1):=by unfold Po;rw[hf];rfl
   rw[e1];have hs:=au raw;have HF:=zH (λW=>first_any m W);cases hb:EH m with
   | false=>
     rw[hb]at HF;clear e1 hb hf;go_enter func88,ntmps88;go_wp2_with (refine(HF.out _).mono ?_;rintro e w' ⟨rfl,rfl⟩);go_ret2;exact⟨rfl,(zB _ _).alloc (zl _) _⟩
   | true=>
     rw[hb]at HF;have hn:raw.length≠2352:=by intro h;unfold jJ at hf;rw[hb,h]at hf;simp at hf
     have hd:((raw.length:Int) != 2352)=true:=by simp;omega
     have HN:=zH hn;clear e1 hb hf hn;go_enter func88,ntmps88;go_wp2_with (refine(HF.out _).mono ?_;rintro e w' ⟨rfl,rfl⟩);go_ret2;exact⟨rfl,(zB _ _).alloc (zl _) _⟩
theorem af8{raw:List UInt8}{m:Int}(hl:raw.length=2352)(hm:EH m=true):Po raw m=(jA raw (pF m) 138,0):=by unfold Po jJ;rw[hl,hm];rfl
theorem ae1{raw:List UInt8}{f:Int}(hl:raw.length=2352):(jA raw f 138).take 2076=raw.take 2076:=by
 apply G.jR
 ·rw[Yk,Yk,gI]
 ·intro i hi;have h1:i<2076:=by rw[Yk]at hi;omega
  rw[uS h1,uS h1,Jf hl i h1 138 (zl _)]
end W8
namespace C9
open Go.RowKit W8
theorem bytes_beq(s:ByteArray):(s.toList == s.toList)=true:=by simp
theorem zx(v1 v2:Value)(l:List (List UInt8))(w:World)(h1:fQ w v1 l)(h2:fQ w v2 l)(hl:l.length<=9223372036854775807):
 Calls prog 14 #[v1,v2] w λe w'=>e=.returned (.bool true)/\Below w.heap.size w w':=by
 obtain⟨a1,c1,rfl,_⟩:=dB.form h1;obtain⟨a2,c2,rfl,_⟩:=dB.form h2;obtain⟨b1,o1,k1⟩:=dB.at h1;obtain⟨b2,o2,k2⟩:=dB.at h2;have H1:=zH k1;have H2:=zH k2;clear h1 h2 k1 k2;go_enter func14,ntmps14;go_wp2_with fail
 go_loopw [5] (λvi wr=>∃i:Nat,i<=l.length/\vi=.int .i64 i/\Below w.heap.size w wr) (λvi _=>l.length-(RowKit.intOf vi).toNat)
 case atStart=>exact⟨0,by omega,rfl,zB _ _⟩
 case round=>
  obtain⟨i,hi,rfl,hb⟩:=hrel;by_cases hlt:i<l.length
  ·obtain⟨ha1,hr1⟩:=H1.out i hlt;obtain⟨ha2,hr2⟩:=H2.out i hlt;have hx1:=λw'=>aB underlying45 (by kernel_rfl:(prog.info? 9).map (·.size)=some 1) (cap:=c1) ha1 hlt (i:Int) rfl w'
   have hx2:=λw'=>aB underlying45 (by kernel_rfl:(prog.info? 9).map (·.size)=some 1) (cap:=c2) ha2 hlt (i:Int) rfl w'
   have alR:wr.cell? ⟨b1,o1+i*1,none⟩=some (.string (str (aJ [] l i))):=(hb.cell (p:=⟨b1,o1+i*1,none⟩) (zc w _ (hr1 0 _ rfl))).trans (hr1 0 _ rfl);have alS:wr.cell? ⟨b2,o2+i*1,none⟩=some (.string (str (aJ [] l i))):=(hb.cell (p:=⟨b2,o2+i*1,none⟩) (zc w _ (hr2 0 _ rfl))).trans (hr2 0 _ rfl);simp only[Yy]at hx1 hx2 alR alS;generalize str (aJ [] l i)=s at alR alS;have HA1:=zH ha1;have HA2:=zH ha2;have hbb:=bytes_beq s;clear ha1 ha2 hr1 hr2;go_wp2_with fail;go_quiet (fail);go_wp2_with fail;go_roundw;case rel=>exact⟨i+1,by omega,by go_num,Below.drewN hb _⟩
   case measure=>simp[RowKit.intOf];omega
  ·obtain rfl:i=l.length:=by omega
   go_wp2_with fail;go_ret;exact⟨rfl,hb⟩
end C9
namespace C9
open Go.ChangeShapes Go.WideShapes Go.RowKit Go.Deep W8
theorem Om.rd{R:List (List UInt8)×Int}{w w':World}{e:Ending}(h:Om R w e w'):∃v,e=.returned (.tuple #[v,.int .i64 R.2])/\fQ w' v R.1/\Below w.heap.size w w':=by obtain⟨v,he,ho,hb⟩:=h;exact⟨v,he,dB.bg jb ho,hb⟩
end C9
namespace C9
open Go.RowKit W8
def Ky(R:List UInt8×List Int×Int)(w:World)(e:Ending)(w':World):Prop:=∃v,e=.returned (.tuple #[.string (str R.1),v,.int .i64 R.2.2])/\w'.ownsRow w.heap.size 3 1 v R.2.1.length (is R.2.1)/\Below w.heap.size w w'
structure DeW (w0:World) (N gr gb:Nat) (R:List (List UInt8)) (W:World):Prop where
 r:Bx W gr 9 (fH uY R)
 b:Bx W gb 45 [.slice (some ⟨gr,0,none⟩) N N]
 le:Below w0.heap.size w0 W
 g1:w0.heap.size<=gr
 g2:gr<gb
theorem DeW.keep{w0 W W':World}{N gr gb:Nat}{R:List (List UInt8)}(h:DeW w0 N gr gb R W)(hb:Below (gb+1) W W'):DeW w0 N gr gb R W':=
 have h1:=h.g1;have h2:=h.g2
 ⟨h.r.jm hb (by omega),h.b.jm hb (by omega),h.le.trans (hb.mono (by omega)),h1,h2⟩
theorem DeW.size{w0 W:World}{N gr gb:Nat}{R:List (List UInt8)}(h:DeW w0 N gr gb R W):gb+1<=W.heap.size:=h.b.lt
theorem DeW.call{w0 W W':World}{N gr gb:Nat}{R:List (List UInt8)}(h:DeW w0 N gr gb R W)(hb:Below W.heap.size W W'):DeW w0 N gr gb R W':=h.keep (hb.mono h.size)
theorem DeW.put{w0 W:World}{N gr gb g:Nat}{R:List (List UInt8)}(h:DeW w0 N gr gb R W)(hg:g<R.length)(y:List UInt8):DeW w0 N gr gb (R.set g y) (W.setCell ⟨gr,g,none⟩ (.string (str y))):=by have h1:=h.g1;have h2:=h.g2;have e:=Di (d:=([]:List UInt8)) (D:=uY) jb R g 0 hg (by omega) (.string (str y)) y rfl;rw[Yy,YO]at e;exact⟨by rw[<-e];exact h.r.set g _,h.b.far (by simp only;omega) _,h.le.setCell h1 _,h1,h2⟩
end C9
section
open Go.RowKit
theorem Nr(cap cl:Int)(fin:Bool)(sv:Value)(l:List T.ax)(count pk:Int)(w:World)(hr:bQ w sv l)(hf:KA l)(hi:i64 count):
 Calls prog 156 #[.int .i64 cap,aN cl fin sv,.int .i64 count,.int .i64 pk] w (OpF (bZ cap cl fin l count pk) w):=by
 unfold bZ;cases hV:T.az cap cl fin l with
 |false=>rw[zj rfl];exact QH cap cl fin sv l count pk w hr hf hV
 | true=>
   rw[zi (by simp)];cases fin with
   |true=>rw[zj rfl];exact QI cap cl sv l count pk w hr hf hV
   | false=>
     rw[zi (by simp)];by_cases hp:T.um count pk
     ·rw[zi (XE hp)];by_cases hn:l.length=99\/cl=16
      ·rw[zj hn];exact QK cap cl sv l count pk w hr hf hV hp hi hn
      ·rw[zi hn];by_cases hx:cap-T.AY cl l<count
       ·rw[zj hx];exact QL cap cl sv l count pk w hr hf hV hp hi (λh=>hn (.inl h)) (λh=>hn (.inr h)) hx
       ·rw[zi hx];exact QM cap cl sv l count pk w hr hf hV hp hi (λh=>hn (.inl h)) (λh=>hn (.inr h)) hx
     ·rw[zj hp];exact QJ cap cl sv l count pk w hr hf hV hp hi
theorem OC(cap cl:Int)(fin:Bool)(sv:Value)(l:List T.ax)(aj count:Int)(w:World)(hr:bQ w sv l)(hf:KA l)(hi:i64 count)(hi2:i64 aj):
 Calls prog 153 #[.int .i64 cap,aN cl fin sv,.int .i64 aj,.int .i64 count] w (OpF (aW cap cl fin l aj count) w):=by
 cases hV:T.az cap cl fin l with
 |false=>unfold aW;rw[zj hV];exact UH cap cl fin sv l aj count w hr hf hV
 |true=>exact UI cap cl fin sv l aj count w hr hf hV hi hi2
end
end Go.Proofs.YtfnehkmhcmkhjaaGreat
