/- Parts -/
import Derived.Test.YtfnehkmhcmkhjaaGreatDu16
import Derived.Sort.CutIn
set_option maxRecDepth 100000
set_option maxHeartbeats 8000000
set_option linter.unusedVariables false
namespace Go.Proofs.YtfnehkmhcmkhjaaGreat
open Tryz
namespace W8
open Go.RowKit
def cwd(raw:List UInt8)(ws:List Int)(f:Int):List UInt8:=G.enc (bu raw (ws.take (ws.length-2)) f) 2
def stepW(raw:List UInt8)(ws:List Int)(f:Int):List UInt8:=
 (raw.set (aI ws (ws.length-2)).toNat (G.ix (cwd raw ws f) (ws.length-2))).set (aI ws (ws.length-1)).toNat (G.ix (cwd raw ws f) (ws.length-1))
theorem NG(raw:List UInt8)(ws:List Int)(f:Int):(stepW raw ws f).length=raw.length:=by simp[stepW]
theorem Ee(raw:List UInt8)(ws:List Int)(f:Int)(h:2<=ws.length):(cwd raw ws f).length=ws.length:=by unfold cwd;rw[G.qW,aO,Yk];omega
theorem iO{l m:List UInt8}{i:Nat}(h:i<l.length):G.ix (l++m) i=G.ix l i:=by unfold G.ix;rw[Ya,Ya,YY h]
theorem qA{l:List Int}{k i:Nat}(h:i<k):aI (l.take k) i=aI l i:=by simp[aI,h]
theorem adA(raw:List UInt8)(ws:List Int)(f:Int)(i:Nat)(h:i<ws.length-2):G.ix (cwd raw ws f) i=sym raw f (aI ws i):=by
 have hl:i<(bu raw (ws.take (ws.length-2)) f).length:=by rw[aO,Yk];omega
 unfold cwd G.enc;rw[iO hl,jW _ _ _ _ (by rw[aO]at hl;exact hl),qA h]
theorem set_self(l:List UInt8)(i:Nat):l.set i (G.ix l i)=l:=by
 apply G.jR
 ·simp
 ·intro j hj;by_cases h:i<l.length
  ·rw[ug _ _ _ _ h];split
   ·next e=>rw[e]
   ·rfl
  ·rw[List.set_eq_of_length_le (by omega)]
theorem WU(raw:List UInt8)(ws:List Int)(f:Int)(s:List UInt8):∀k,(∀i,i<k->G.ix s i=sym raw f (aI ws i))->Jz raw ws f s k=raw
 |0,_=>rfl
 | k+1,h=>by
   have ih:=WU raw ws f s k (λi hi=>h i (by omega));unfold Jz;rw[ih];split
   ·rfl
   ·next hf=>
    rw[h k (by omega)];unfold sym;rw[zi hf];exact set_self _ _
theorem ahp(raw:List UInt8)(ws:List Int)(f:Int)(hL:2<=ws.length)(h1:f<=aI ws (ws.length-2))(h2:f<=aI ws (ws.length-1)):IB raw ws f (cwd raw ws f)=stepW raw ws f:=by
 have hs:=WU raw ws f (cwd raw ws f) (ws.length-2) (λi hi=>adA raw ws f i hi);obtain⟨n,hn⟩:∃n,ws.length=n+2:=⟨ws.length-2,by omega⟩;have e1:ws.length-2=n:=by omega
 have e2:ws.length-1=n+1:=by omega
 rw[e1]at hs h1;rw[e2]at h2;unfold IB stepW;rw[e1,e2,hn];show(if aI ws (n+1)<f then Jz raw ws f (cwd raw ws f) (n+1) else(Jz raw ws f (cwd raw ws f) (n+1)).set (aI ws (n+1)).toNat (G.ix (cwd raw ws f) (n+1)))=_;rw[zi (by omega)]
 congr 1
 show(if aI ws n<f then Jz raw ws f (cwd raw ws f) n else(Jz raw ws f (cwd raw ws f) n).set (aI ws n).toNat (G.ix (cwd raw ws f) n))=_;rw[zi (by omega),hs]
theorem Zh{k:Nat}(hk:k<138):16<=aI (wd k) ((wd k).length-2)/\16<=aI (wd k) ((wd k).length-1):=by
 rw[dR];unfold wd;by_cases h:k<86
 ·rw[zj h,zj h];show 16<=aI (pw k) 24/\16<=aI (pw k) 25;rw[Ur _ _ (by omega),Ur _ _ (by omega)];unfold pf;omega
 ·rw[zi h,zi h];show 16<=aI (qw (k-86)) 43/\16<=aI (qw (k-86)) 44;rw[P9,Qa];omega
def jA(raw:List UInt8)(f:Int):Nat->List UInt8
 |0=>raw
 |k+1=>stepW (jA raw f k) (wd k) f
theorem gI(raw:List UInt8)(f:Int):∀k,(jA raw f k).length=raw.length
 |0=>rfl
 |k+1=>by rw[jA,NG,gI raw f k]
theorem acG(raw:List UInt8)(f:Int)(k:Nat)(hk:k<138)(hf:f<=16):IB (jA raw f k) (wd k) f (cwd (jA raw f k) (wd k) f)=jA raw f (k+1):=by have h:=Zh hk;have hl:=dR k;exact ahp _ _ _ (by rw[hl];split <;> omega) (by omega) (by omega)
theorem aeG{P:Program}{t e:TypeId}(ht:P.underlying t=some (.slice e))(hs:(P.info? e).map (·.size)=some 1){v:Value}{l:List Int}{w:World}(h:lu w v l)(hi:Nat)(h2:hi<=l.length):
 ∃v',(∀W,lu W v l->lu W v' (l.take hi))/\∀(y:Int)(w':World),y=hi->(Instr.slice t v none (some (.int .i64 y)) none).run P w'=.ok v' w':=by
 obtain⟨h0,⟨a,c,b,off,rfl,hc,hcell⟩,hr⟩:=h;cases hq:P.info? e with
 |none=>simp[hq]at hs
 | some i=>
   have hs1:i.size=1:=by simpa[hq]using hs
   refine⟨.slice (if c=0 then a else a.map (·.add (0*1))) hi c,λW hW=>?_,?_⟩
   ·obtain⟨_,⟨a',c',b',off',e1,hc',hcell'⟩,hr'⟩:=hW;injection e1 with e1 e2 e3
    subst e1 e3;have hL:(l.take hi).length=hi:=by rw[Yk];omega
    refine⟨by rw[hL];omega,⟨_,c,b',off',by rw[hL],by rw[hL];omega,λj hj=>?_⟩,λj hj=>?_⟩
    ·rw[hL]at hj;obtain⟨g1,g2⟩:=hcell' j (by omega);exact⟨by rw[g1];split <;> simp[Addr.add],by rw[qA hj];exact g2⟩
    ·rw[hL]at hj;rw[qA hj];exact hr' j (by omega)
   ·rintro y w' rfl;simp[Instr.slice,YH ht,Instr.sliceBounds,run_sliceBound,sizeOf,typeInfo,hq,(by omega:hi<=c)]
theorem amH(m i:Nat):pf m i=12+m+86*i:=by unfold pf;omega
theorem uC(k i:Nat)(hk:k<138)(hi:i<(wd k).length):
 (k<86/\i<26/\aI (wd k) i=12+k+86*i)\/(86<=k/\i<43/\aI (wd k) i=qf (k-86) i)\/(86<=k/\i=43/\aI (wd k) i=2162+k)\/(86<=k/\i=44/\aI (wd k) i=2214+k):=by
 rw[dR]at hi;unfold wd;by_cases h:k<86
 ·rw[zj h]at hi ⊢;exact .inl ⟨h,hi,by rw[Ur _ _ hi,amH]⟩
 ·rw[zi h]at hi ⊢;by_cases h1:i<43
  ·exact .inr (.inl ⟨by omega,h1,aj1 _ _ h1⟩)
  ·by_cases h2:i=43
   ·subst h2;exact .inr (.inr (.inl ⟨by omega,rfl,by rw[P9];omega⟩))
   ·obtain rfl:i=44:=by omega
    exact .inr (.inr (.inr ⟨by omega,rfl,by rw[Qa];omega⟩))
theorem aki{m i j:Nat}(hm:m<52)(hi:i<43)(hj:j<43)(h:qf m i=qf m j):i=j:=by
 unfold qf at h;have e1:(44*(i:Int)+43*((m:Int)/2))%1118=((44*i+43*(m/2))%1118:Nat):=by omega
 have e2:(44*(j:Int)+43*((m:Int)/2))%1118=((44*j+43*(m/2))%1118:Nat):=by omega
 rw[e1,e2]at h;have hk:(44*i+43*(m/2))%1118<1118:=Nat.mod_lt _ (by omega);have h1:=(WX _ i (m/2) hk hi (by omega)).1 rfl;have h2:=(WX ((44*i+43*(m/2))%1118) j (m/2) hk hj (by omega)).1 (by omega);omega
theorem Vx{k a b:Nat}(hk:k<138)(ha:a<(wd k).length)(hb:b<(wd k).length)(h:aI (wd k) a=aI (wd k) b):a=b:=by
 rcases uC k a hk ha with ⟨h1,h2,h3⟩|⟨h1,h2,h3⟩|⟨h1,h2,h3⟩|⟨h1,h2,h3⟩ <;>
 rcases uC k b hk hb with ⟨g1,g2,g3⟩|⟨g1,g2,g3⟩|⟨g1,g2,g3⟩|⟨g1,g2,g3⟩ <;>
 rw[h3,g3]at h <;>
 first|omega|exact aki (by omega) h2 g2 h|(have:=QT (m:=k-86) (i:=a) (by omega);omega)|(have:=QT (m:=k-86) (i:=b) (by omega);omega)
theorem Ru{j k a b:Nat}(hk:k<138)(hj:j<k)(ha:a<(wd j).length)(hb:b<(wd k).length)(hb2:(wd k).length-2<=b):aI (wd j) a≠aI (wd k) b:=by
 intro h;have hl:=dR k;rcases uC j a (by omega) ha with ⟨h1,h2,h3⟩|⟨h1,h2,h3⟩|⟨h1,h2,h3⟩|⟨h1,h2,h3⟩ <;>
 rcases uC k b hk hb with ⟨g1,g2,g3⟩|⟨g1,g2,g3⟩|⟨g1,g2,g3⟩|⟨g1,g2,g3⟩ <;>
 rw[h3,g3]at h <;>
 first|omega|(rw[zi (by omega)]at hl;omega)|(have:=QT (m:=j-86) (i:=a) (by omega);omega)
theorem afa{k b:Nat}(hk:k<138)(hb:b<(wd k).length)(hb2:(wd k).length-2<=b):2076<=aI (wd k) b:=by
 have hl:=dR k;rcases uC k b hk hb with ⟨g1,g2,g3⟩|⟨g1,g2,g3⟩|⟨g1,g2,g3⟩|⟨g1,g2,g3⟩ <;> rw[g3]
 ·rw[zj g1]at hl;omega
 ·rw[zi (by omega)]at hl;omega
 ·omega
 ·omega
theorem zF(k:Nat):26<=(wd k).length/\(wd k).length<=45:=by rw[dR];split <;> omega
theorem Gx{k i:Nat}(hk:k<138)(hi:i<(wd k).length):12<=aI (wd k) i/\aI (wd k) i<2352:=Rw hk _ (di hi)
theorem EZ{R:List UInt8}{k:Nat}(hk:k<138)(hl:R.length=2352)(f:Int)(x:Nat)(hx1:(x:Int)≠aI (wd k) ((wd k).length-2))(hx2:(x:Int)≠aI (wd k) ((wd k).length-1)):G.ix (stepW R (wd k) f) x=G.ix R x:=by have h2:=zF k;have b1:=Gx hk (show(wd k).length-2<(wd k).length by omega);have b2:=Gx hk (show(wd k).length-1<(wd k).length by omega);unfold stepW;rw[ug _ _ _ _ (by rw[Yu];omega),zi (by omega),ug _ _ _ _ (by omega),zi (by omega)]
theorem Ba{R:List UInt8}{j k:Nat}(hk:k<138)(hj:j<k)(hl:R.length=2352)(f:Int):bu (stepW R (wd k) f) (wd j) f=bu R (wd j) f:=by
 apply G.jR
 ·rw[aO,aO]
 ·intro i hi;rw[aO]at hi;rw[jW _ _ _ _ hi,jW _ _ _ _ hi];unfold sym;split
  ·rfl
  ·have h2:=zF k;have hb:=Gx (show j<138 by omega) hi;exact EZ hk hl f _ (by have:=Ru hk hj hi (show(wd k).length-2<(wd k).length by omega) (zl _);omega) (by have:=Ru hk hj hi (show(wd k).length-1<(wd k).length by omega) (by omega);omega)
theorem CP{R:List UInt8}{k:Nat}(hk:k<138)(hl:R.length=2352)(f:Int)(hf:f<=16):bu (stepW R (wd k) f) (wd k) f=cwd R (wd k) f:=by
 have h2:=zF k;have hlast:=Zh hk;have b1:=Gx hk (show(wd k).length-2<(wd k).length by omega);have b2:=Gx hk (show(wd k).length-1<(wd k).length by omega);apply G.jR
 ·rw[aO,Ee _ _ _ (by omega)]
 ·intro i hi;rw[aO]at hi;have hb:=Gx hk hi;rw[jW _ _ _ _ hi];by_cases c1:i<(wd k).length-2
  ·rw[adA _ _ _ _ c1];unfold sym;split
   ·rfl
   ·exact EZ hk hl f _ (λe=>by have:=Vx hk hi (show(wd k).length-2<(wd k).length by omega) (by omega);omega) (λe=>by have:=Vx hk hi (show(wd k).length-1<(wd k).length by omega) (by omega);omega)
  ·by_cases c2:i=(wd k).length-2
   ·subst c2;have hne:aI (wd k) ((wd k).length-2)≠aI (wd k) ((wd k).length-1):=λe=>by have:=Vx hk (show(wd k).length-2<(wd k).length by omega) (show(wd k).length-1<(wd k).length by omega) e;omega
    unfold sym;rw[zi (by omega)];unfold stepW;rw[ug _ _ _ _ (by rw[Yu];omega),zi (by omega),ug _ _ _ _ (by omega),zj rfl]
   ·have c3:i=(wd k).length-1:=by omega
    subst c3;unfold sym;rw[zi (by omega)];unfold stepW;rw[ug _ _ _ _ (by rw[Yu];omega),zj rfl]
theorem ZM{R:List UInt8}{k:Nat}(f:Int):G.az (cwd R (wd k) f) 2=true:=by
 have h2:=zF k;have hl:(bu R ((wd k).take ((wd k).length-2)) f).length=(wd k).length-2:=by rw[aO,Yk];omega
 have h:=G.Z4 (bu R ((wd k).take ((wd k).length-2)) f) 2 (by
  unfold G.En;simp only[Yt,Yj];refine⟨⟨⟨by omega,by omega⟩,λe=>?_⟩,by omega⟩;rw[e]at hl;simp at hl;omega)
 exact h
theorem Jg{raw:List UInt8}{f:Int}(hl:raw.length=2352)(hf:f<=16):∀n,n<=138->∀j,j<n->G.az (bu (jA raw f n) (wd j) f) 2=true
 |0,_,j,h=>by omega
 | n+1,hn,j,h=>by
   have hen:=gI raw f n;rw[jA];by_cases e:j=n
   ·subst e;rw[CP (by omega) (by rw[hen];exact hl) f hf];exact ZM f
   ·rw[Ba (by omega) (by omega) (by rw[hen];exact hl) f];exact Jg hl hf n (by omega) j (by omega)
theorem Jf{raw:List UInt8}{f:Int}(hl:raw.length=2352)(x:Nat)(hx:x<2076):∀k,k<=138->G.ix (jA raw f k) x=G.ix raw x
 |0,_=>rfl
 |k+1,hk=>by have h2:=zF k;rw[jA,EZ (by omega) (by rw[gI];exact hl) f x (by have:=afa (show k<138 by omega) (show(wd k).length-2<(wd k).length by omega) (zl _);omega) (by have:=afa (show k<138 by omega) (show(wd k).length-1<(wd k).length by omega) (by omega);omega)];exact Jf hl x hx k (by omega)
end W8
namespace T7
open Go Go.RowKit W8
attribute [local go_sem] Oper.semAt_some
theorem infoU8s:(prog.info? 5).map (λi=>(i.zero,i.size,i.bytes))=some (some (.int .u8 0),1,1):=by kernel_rfl
def WE(p:Nat):Nat->Nat
 |0=>0
 |m+1=>WE p m ||| ((reg (8*p+m)%2)*2 ^ m)
theorem adF(p:Nat):∀m,WE p m<2 ^ m
 |0=>by simp[WE]
 | m+1=>by
   have h:=adF p m;refine Nat.or_lt_two_pow (zL h (XB (by omega) (by omega))) ?_;have h2:reg (8*p+m)%2<=1:=by omega
   calc (reg (8*p+m)%2)*2 ^ m<=1*2 ^ m:=XA _ h2
    _<2 ^ (m+1):=by rw[Nat.pow_succ];have:=Nat.two_pow_pos m;omega
theorem WG(p:Nat){m:Nat}(h:m<=8):WE p m<256:=zL (adF p m) (XB (n:=2) (by omega) h)
def Qb(p m:Nat):UInt8:=UInt8.ofNat (WE p m)
theorem WH(p:Nat){m:Nat}(h:m<=8):(Qb p m).toNat=WE p m:=by have:=WG p h;unfold Qb;rw[UInt8.toNat_ofNat'];omega
def zn(n i:Nat):List UInt8:=(List.range n).map λp=>Qb p (min 8 (i-8*p))
theorem uz(n i:Nat):(zn n i).length=n:=by simp[zn]
theorem abl(n:Nat):zn n 0=List.replicate n 0:=by
 apply YS;intro p;by_cases h:p<n
 ·simp[zn,h,Qb,WE]
 ·rw[Yh (by rw[uz];omega),Yh (by simp;omega)]
theorem Nw{n i p:Nat}(h:p<n):(zn n i)[p]? = some (Qb p (min 8 (i-8*p))):=by simp[zn,h]
theorem ahJ{n i:Nat}(h:i<8*n):G.ix (zn n i) (i/8)=Qb (i/8) (i%8):=by
 have hp:i/8<n:=by omega
 unfold G.ix;rw[Ya,Nw hp,show min 8 (i-8*(i/8))=i%8 from by omega];rfl
theorem abk{n i:Nat}(h:i<8*n):(zn n i).set (i/8) (Qb (i/8) (i%8+1))=zn n (i+1):=by
 have hp:i/8<n:=by omega
 apply YS;intro p;by_cases hn:p<n
 ·rw[Nw hn,YP];by_cases e:i/8=p
  ·rw[zj e,zj (by rw[uz];exact hp),<-e,show min 8 (i+1-8*(i/8))=i%8+1 from by omega]
  ·rw[zi e,Nw hn,show min 8 (i-8*p)=min 8 (i+1-8*p) from by omega]
 ·rw[Yh (by rw[Yu,uz];omega),Yh (by rw[uz];omega)]
def xh(n:Nat):List UInt8:=(List.range n).map λp=>Qb p 8
theorem aeN(n:Nat):zn n (8*n)=xh n:=by
 unfold zn xh;refine Xo λp hp=>?_
 have:=Yx.1 hp;rw[show min 8 (8*n-8*p)=8 from by omega]
theorem agR(i:Nat):WE (i/8) (i%8+1)=WE (i/8) (i%8) ||| ((reg i%2)*2 ^ (i%8)):=by
 show WE (i/8) (i%8) ||| ((reg (8*(i/8)+i%8)%2)*2 ^ (i%8))=_
 rw[show 8*(i/8)+i%8=i from by omega]
theorem Nl(n:Nat)(w:World):CallsIn Fence.wide n prog 219 #[] w λe w'=>e=.returned (.func (.func 291) #[] #[])/\w=w':=callsIn_wide.2 (IE w)
theorem GR.stays(B k:Nat)(v:Value):bD B (GR k v):=bD.const _ _
def ai7(r:Nat)(W W':World):Prop:=True
theorem iD(r:Nat)(w w':World):ai7 r w w':=trivial
theorem sizeU8s:(prog.info? 5).map (·.size)=some 1:=by kernel_rfl
def ahI(W1:World)(p:Addr)(v:Value)(r:Nat)(W:World):Prop:=W=if r=0 then W1.drew else W1.drew.setCell p v
theorem AQ{W1 W:World}{p:Addr}{v:Value}{r:Nat}(h:ahI W1 p v r W)(hr:r<=0):W=W1.drew:=by unfold ahI at h;rwa[zj (by omega)]at h
theorem ahK{r m:Nat}(hm:m<8):IntKind.u8.wrap (((r%2:Nat):Int)*2 ^ min m 8)=(((r%2)*2 ^ m:Nat):Int):=by have h2:(r%2)*2 ^ m<=1*2 ^ m:=XA _ (by omega);have h3:2 ^ m<=2 ^ 7:=XB (by omega) (by omega);rw[XU (by omega),show((r%2:Nat):Int)*2 ^ m=(((r%2)*2 ^ m:Nat):Int) from by push_cast;rfl];exact IntWalk.u8_in _ (by omega)
theorem abD{a r m:Nat}(ha:a<256)(hm:m<8):bits .or .u8 (a:Int) (((r%2)*2 ^ m:Nat):Int)=((a ||| (r%2)*2 ^ m:Nat):Int):=by refine u8_or_nat a _ ha ?_;have h2:(r%2)*2 ^ m<=1*2 ^ m:=XA _ (by omega);have h3:2 ^ m<=2 ^ 7:=XB (by omega) (by omega);omega
def sqV(b c g n ix old ry p m rb sh nw:Nat)(i:Nat)(v:Value)(W:World):Prop:=match i with
 |0=>v=.slice (some ⟨g,0,none⟩) n n
 |1=>v=.int .i64 (ix:Nat)
 |2=>v=.int .i64 (p:Nat)
 |3=>v=.pointer (some ⟨g,p,none⟩)
 |4=>v=.int .u8 (old:Nat)
 |5=>v=.int .i64 (ry:Nat)
 |6=>v=.int .i64 (rb:Nat)
 |7=>v=.int .u8 (rb:Nat)
 |8=>v=.int .i64 (ix:Nat)
 |9=>v=.int .i64 (m:Nat)
 |10=>v=.int .u8 (sh:Nat)
 |11=>v=.int .u8 (nw:Nat)
 |12=>v=.pointer (some ⟨g,p,none⟩)
 |_=>True
def amR:Nat->Option Nat
 |13=>some 0
 |_=>none
theorem aeR(b c g n ix old ry p m rb sh nw:Nat)(i r:Nat)(v:Value)(W W':World)(hk:∀k,amR i=some k->k<r)(hR:(ai7) r W W')(h:sqV b c g n ix old ry p m rb sh nw i v W):sqV b c g n ix old ry p m rb sh nw i v W':=by unfold sqV at h ⊢;split at h <;> first|exact h
theorem Ny(n:Nat)(hn1:1<=n)(hn:n<=100000)(w:World):
 Calls prog 133 #[.int .i64 (n:Nat)] w λe w'=>∃g,e=.returned (.slice (some ⟨g,0,none⟩) n n)/\w.heap.size<=g/\Bx w' g 5 (bs (xh n))/\Below w.heap.size w w':=by
 refine(callsIn_wide (n:=5)).1 ?_;refine callsIn_of_wp_marks func133 rfl trivial ?_ rfl;simp only[ntmps133,Xh,Yn,YC,Nat.reduceAdd,Nat.reduceSub,Xi,Xj,Xv,Xn,YV,Xr];obtain⟨b,hb⟩:∃b,b=w.heap.size:=⟨_,rfl⟩;obtain⟨w1,hw1⟩:∃w1,w1=w.alloc (.cells #[.int .i64 (n:Nat)] 3):=⟨_,rfl⟩;have hA1:=(zB w.heap.size w).alloc (zl _) (.cells #[.int .i64 (n:Nat)] 3);rw[<-hw1]at hA1;have hx1:Bx w1 b 3 [.int .i64 (n:Nat)]:=by rw[hw1,hb];exact Bx.new w _ _
 have hs1:w1.heap.size=b+1:=by rw[hw1,hb];simp
 obtain⟨i0,hi,hz0,hz1,hz2⟩:=info_parts infoU8s;obtain⟨w2,hmk,r1,r2⟩:=run_make_full (P:=prog) (w:=w1) (b+1) 65 5 i0 _ 1 underlying65 hi hz0 hz1 .i64 .i64 n (by rw[hz2];omega) (by unfold maxLen;omega) (by omega);have r1':=Bx.bg (Au r1);rw[hs1]at hmk r1';have hb2:=(zB w1.heap.size w1).grown r2 (zl _) (λk hk=>by cases hk);have hx2:=hx1.call hb2;have hA2:=hA1.trans (hb2.mono hA1.size);obtain⟨g,hg⟩:∃g,g=b+1:=⟨_,rfl⟩;rw[<-hg]at hmk r1';obtain⟨c,hc⟩:∃c,c=w2.heap.size:=⟨_,rfl⟩;have hgc:g<c:=by rw[hc];exact r1'.lt
 obtain⟨w4,hw4⟩:∃w4,w4=(w2.alloc (.cells #[.slice (some ⟨g,0,none⟩) n n] 65)).alloc (.cells #[.int .i64 0] 3):=⟨_,rfl⟩;have hx3:Bx w4 c 65 [.slice (some ⟨g,0,none⟩) n n]:=by rw[hw4,hc];exact(Bx.new w2 _ _).alloc _
 have hx4:Bx w4 (c+1) 3 [.int .i64 0]:=by have:=Bx.new (w2.alloc (.cells #[.slice (some ⟨g,0,none⟩) n n] 65)) 3 [.int .i64 0];rw[hw4,hc];rwa[Yl]at this
 have xy:=((zB w2.heap.size w2).alloc (zl _) (.cells #[.slice (some ⟨g,0,none⟩) n n] 65)).alloc (by simp) (.cells #[.int .i64 0] 3);rw[<-hw4]at xy;have hx5:=hx2.call xy;have EP:=r1'.call xy;rw[<-abl]at EP;have hA5:=hA2.trans (xy.mono hA2.size);have hs4:w4.heap.size=c+1+1:=by rw[hw4,hc];simp
 have Ie:Hid ((w2.alloc (.cells #[.slice (some ⟨g,0,none⟩) n n] 65)).alloc (.cells #[.int .i64 0] 3)=w4):=zH hw4.symm;have HW1:Hid (w.alloc (.cells #[.int .i64 (n:Nat)] 3)=w1):=zH hw1.symm;have HC:=zH hc;have HB:=zH hb;have hq0:=hx1.cell (i:=0) rfl;have hbg:b<g:=by omega
 have hbw:w.heap.size<=g:=by omega
 have hbw2:w.heap.size<=c:=by omega
 have VG:=zH hx5;have HR5:=zH EP;have Zu:=zH hx3;have Aa:=zH hx4;have HA5:=zH hA5;have xE:=zH hs4;clear hb hx1 hx2 hA1 hA2 xy hx5 EP hx3 hx4 hA5 r1 r1' r2 hb2 hw1 hw4 hc hs1 hs4 hi hz0 hz1 hz2 hg
 gi_upto_region 1 with (fail)
 rw[HW1.out,<-HB.out]
 gi_wp2_with (refine⟨trivial,?_⟩;gi_at_call 219;refine(Nl 4 _).mono ?_;rintro e w' ⟨rfl,rfl⟩)
 rw[Ie.out,<-HC.out];have hseq:=U4 4 (8*n+1) (by omega) w4;clear hmk hq0;refine xq (n:=5) rfl (by omega) (gf:=291) (lb:=#[]) rfl trivial (enters_of func291 (by kernel_rfl) rfl) hseq rfl
  (λk W=>((k<=8*n)/\Bx W b 3 [.int .i64 (n:Nat)]/\Bx W g 5 (bs (zn n k))/\Bx W c 65 [.slice (some ⟨g,0,none⟩) n n]/\Bx W (c+1) 3 [.int .i64 (k:Nat)])/\Below w.heap.size w W)
  (λcd W=>((cd=.exit 0)/\Bx W g 5 (bs (xh n))/\Bx W c 65 [.slice (some ⟨g,0,none⟩) n n])/\Below w.heap.size w W)
  (λv=>{tmps:=#[.int .i64 (n:Nat),.pointer (some ⟨b,0,none⟩),.slice none 0 0,.pointer (some ⟨c,0,none⟩),.pointer (some ⟨c+1,0,none⟩),v,.int .i64 (n:Nat),.slice (some ⟨g,0,none⟩) n n,.func (.func 291) #[] #[],v,undef,undef,undef,undef,undef,undef,undef,undef,undef,undef,undef,undef,undef,undef,undef,undef,undef,undef,undef,undef],defers:=[]})
  (λk=>((bD.const _ _).and ((dh _ _ _ _).and ((dh _ _ _ _).and ((dh _ _ _ _).and (dh _ _ _ _))))).and (iU (zl _) (by rw[xE.out];omega)))
  (λc=>((bD.const _ _).and ((dh _ _ _ _).and (dh _ _ _ _))).and (iU (zl _) (by rw[xE.out];omega)))
  (λk v=>GR.stays _ _ _) ⟨⟨by omega,VG.out,HR5.out,Zu.out,Aa.out⟩,HA5.out⟩ (λW h=>by have:=h.1.1;omega) ?assign ?body ?stop
 case assign=>
  intro l v W K _ hK;gi_wp2;exact hK
 case body=>
  rintro l i v W1 hk ⟨⟨hi8,x1,xr,x3,x4⟩,hbz⟩ rfl;have HBZ:=zH hbz;have HXR:=zH xr;have HX1:=zH x1;have HXC:=zH x3;have HXI:=zH x4;have c1:=x1.cell (i:=0) rfl;have c3:=x3.cell (i:=0) rfl;have c4:=x4.cell (i:=0) rfl;have hrl:=U3 i;have HKN:=zH (agR i);generalize reg i=ry at *;have hw1:IntKind.i64.wrap (8*(n:Int))=8*(n:Int):=IntWalk.i64_in _ (by omega);clear hbz xr x1 x3 x4 hseq VG HR5 Zu Aa HA5;by_cases hlt:i<8*n
  ·have hpn:i/8<n:=by omega
   have hq:((i:Int) == 8*(n:Int))=false:=Yc.2 (by omega);have hkl:=WG (i/8) (m:=i%8) (by omega);have hcell:W1.cell? ⟨g,i/8,none⟩=some (.int .u8 (WE (i/8) (i%8):Nat)):=by have h1:=HXR.out.cell (i:=i/8) (jh (by rw[uz];exact hpn));rw[ahJ hlt]at h1;rw[h1];unfold B;rw[WH _ (by omega)]
   have hfree:=HXR.out.free (i/8);have HST:Hid (Bx (W1.setCell ⟨g,i/8,none⟩ (.int .u8 ((WE (i/8) (i%8) ||| (ry%2)*2 ^ (i%8):Nat):Int))) g 5 (bs (zn n (i+1)))):=zH (by
    have h1:=HXR.out.set (i/8) (B (Qb (i/8) (i%8+1)));rw[Ac,abk hlt]at h1;have e:B (Qb (i/8) (i%8+1))=.int .u8 ((WE (i/8) (i%8) ||| (ry%2)*2 ^ (i%8):Nat):Int):=by unfold B;rw[WH _ (by omega),HKN.out]
    rwa[e]at h1)
   generalize WE (i/8) (i%8)=old at *;have hpe:(i:Int)/8=((i/8:Nat):Int):=rfl;have hme:(i:Int)%8=((i%8:Nat):Int):=rfl;have hre:(ry:Int)%2=((ry%2:Nat):Int):=rfl;have hta:(i:Int).tmod 8=((i%8:Nat):Int):=by rw[XG (by omega)];rfl
   have hea:=KO (x:=ry) (by omega);have hm8:i%8<8:=by omega
   have hr2:ry%2<2:=by omega
   have HE3:=zH (abD (a:=old) (r:=ry) (m:=i%8) hkl (by omega));generalize i/8=p at *;generalize i%8=m at *;have HE4:=zH (ahK (r:=ry) hm8);generalize ry%2=rb at *;have HP:=zH hpe;have HM:=zH hme;have HRB:=zH hre;have HTM:=zH hta;have HEA:=zH hea;clear hta hea;have HPW:Hid (IntKind.i64.wrap (p:Int)=(p:Int)):=zH (IntWalk.i64_in _ (by omega));have HMW:Hid (IntKind.i64.wrap (m:Int)=(m:Int)):=zH (IntWalk.i64_in _ (by omega));have HRW:Hid (IntKind.u8.wrap (rb:Int)=(rb:Int)):=zH (IntWalk.u8_in _ (by omega));generalize hsh:rb*2 ^ m=sh at *;generalize hnw:old ||| sh=nw at *
   have HNW:=HE3;have HSH:=HE4;clear hpe hme hre hm8 hr2 hsh hnw HE3 HE4;have HQ:Hid (W1.drew.cell? ⟨c,0,none⟩=some (.slice (some ⟨g,0,none⟩) n n)/\W1.drew.cell? ⟨c+1,0,none⟩=some (.int .i64 (i:Nat))/\W1.drew.cell? ⟨g,p,none⟩=some (.int .u8 (old:Nat))/\W1.drew.frozen? ⟨g,p,none⟩=false):=zH ⟨c3,c4,hcell,hfree⟩
   gi_upto_region 6 with (fail)
   refine CU (by rintro⟨_,_,h⟩;exact h) (by kernel_rfl) (by kernel_rfl) (ai7) (ahI W1 ⟨g,p,none⟩ (.int .u8 (nw:Nat))) (sqV b c g n i old ry p m rb sh nw) (λ_=>false) amR 1 (by kernel_rfl) (by kernel_rfl) (.inl (by kernel_rfl)) (aeR b c g n i old ry p m rb sh nw) (rfl) ⟨?s0,?s1,?s2,?s3,?s4,?_,?s6,?s7,?s8,?s9,?s10,?s11,?s12,?s13,trivial⟩ ?_;all_goals first
    | (intro r a W hc hsz hold ah hnot hlo hhi hrk
       have o5:a.tmps.getD 5 undef=.int .i64 (ry:Nat):=hold 5 (by kernel_rfl);clear hsz hold ah hnot hlo hhi hrk;refine ai rfl (ag rfl) ?_;refine aG (iD _ _ _) hc rfl λK hK=>?_
       go_simp;exact hK)
    |skip
   try case s0=>
    intro r a W hc hsz hold ah hnot hlo hhi hrk;have o3:a.tmps.getD 3 undef=.pointer (some ⟨c,0,none⟩):=hold 3 (by kernel_rfl);obtain rfl:=AQ hc (hhi 13 0 rfl (by kernel_rfl));have q0:=HQ.out.1;clear hsz hold ah hnot hlo hhi hrk;refine ai rfl (ag rfl) ?_;refine aG (v:=.slice (some ⟨g,0,none⟩) n n) (iD _ _ _) hc rfl λK hK=>?_
    go_simp;exact hK
   try case s1=>
    intro r a W hc hsz hold ah hnot hlo hhi hrk;have o4:a.tmps.getD 4 undef=.pointer (some ⟨c+1,0,none⟩):=hold 4 (by kernel_rfl);obtain rfl:=AQ hc (hhi 13 0 rfl (by kernel_rfl));have q0:=HQ.out.2.1;clear hsz hold ah hnot hlo hhi hrk;refine ai rfl (ag rfl) ?_;refine aG (v:=.int .i64 (i:Nat)) (iD _ _ _) hc rfl λK hK=>?_
    go_simp;exact hK
   try case s2=>
    intro r a W hc hsz hold ah hnot hlo hhi hrk;have d1:=zV 15 (.int .i64 (i:Nat)) (ah 1 rfl rfl _ rfl);clear hsz hold ah hnot hlo hhi hrk;refine ai rfl (ag rfl) ?_;refine aG (v:=.int .i64 (p:Nat)) (iD _ _ _) hc rfl λK hK=>?_
    go_simp;first
     |exact hK
     | (rw[HP.out,HPW.out]
        exact hK)
     | (rw[HP.out]
        exact hK)
   try case s3=>
    intro r a W hc hsz hold ah hnot hlo hhi hrk;have d0:=zV 14 (.slice (some ⟨g,0,none⟩) n n) (ah 0 rfl rfl _ rfl);have d2:=zV 16 (.int .i64 (p:Nat)) (ah 2 rfl rfl _ rfl);have q1:=λw'=>aB underlying65 sizeU8s (a:=some ⟨g,0,none⟩) (n:=n) (cap:=n) (k:=p) (b:=g) (off:=0) rfl hpn (p:Int) rfl w'
    simp only[Yy,Yf]at q1;clear hsz hold ah hnot hlo hhi hrk;refine ai rfl (ag rfl) ?_;refine aG (v:=.pointer (some ⟨g,p,none⟩)) (iD _ _ _) hc rfl λK hK=>?_
    go_simp;exact hK
   try case s4=>
    intro r a W hc hsz hold ah hnot hlo hhi hrk;have d3:=zV 17 (.pointer (some ⟨g,p,none⟩)) (ah 3 rfl rfl _ rfl);obtain rfl:=AQ hc (hhi 13 0 rfl (by kernel_rfl));have q0:=HQ.out.2.2.1;clear hsz hold ah hnot hlo hhi hrk;refine ai rfl (ag rfl) ?_;refine aG (v:=.int .u8 (old:Nat)) (iD _ _ _) hc rfl λK hK=>?_
    go_simp;exact hK
   try case s6=>
    intro r a W hc hsz hold ah hnot hlo hhi hrk;have d5:=zV 19 (.int .i64 (ry:Nat)) (ah 5 rfl rfl _ rfl);clear hsz hold ah hnot hlo hhi hrk;refine ai rfl (ag rfl) ?_;refine aG (v:=.int .i64 (rb:Nat)) (iD _ _ _) hc rfl λK hK=>?_
    go_simp;first
     |exact hK
     | (rw[HEA.out]
        exact hK)
     | (rw[HEA.out]
        exact hK)
   try case s7=>
    intro r a W hc hsz hold ah hnot hlo hhi hrk;have d6:=zV 20 (.int .i64 (rb:Nat)) (ah 6 rfl rfl _ rfl);clear hsz hold ah hnot hlo hhi hrk;refine ai rfl (ag rfl) ?_;refine aG (v:=.int .u8 (rb:Nat)) (iD _ _ _) hc rfl λK hK=>?_
    go_simp;first
     |exact hK
     | (rw[HRW.out]
        exact hK)
     | (rw[HRW.out]
        exact hK)
   try case s8=>
    intro r a W hc hsz hold ah hnot hlo hhi hrk;have o4:a.tmps.getD 4 undef=.pointer (some ⟨c+1,0,none⟩):=hold 4 (by kernel_rfl);obtain rfl:=AQ hc (hhi 13 0 rfl (by kernel_rfl));have q0:=HQ.out.2.1;clear hsz hold ah hnot hlo hhi hrk;refine ai rfl (ag rfl) ?_;refine aG (v:=.int .i64 (i:Nat)) (iD _ _ _) hc rfl λK hK=>?_
    go_simp;exact hK
   try case s9=>
    intro r a W hc hsz hold ah hnot hlo hhi hrk;have d8:=zV 22 (.int .i64 (i:Nat)) (ah 8 rfl rfl _ rfl);clear hsz hold ah hnot hlo hhi hrk;refine ai rfl (ag rfl) ?_;refine aG (v:=.int .i64 (m:Nat)) (iD _ _ _) hc rfl λK hK=>?_
    go_simp;first
     |exact hK
     | (rw[HTM.out]
        exact hK)
     | (rw[HTM.out]
        exact hK)
   try case s10=>
    intro r a W hc hsz hold ah hnot hlo hhi hrk;have d7:=zV 21 (.int .u8 (rb:Nat)) (ah 7 rfl rfl _ rfl);have d9:=zV 23 (.int .i64 (m:Nat)) (ah 9 rfl rfl _ rfl);clear hsz hold ah hnot hlo hhi hrk;refine ai rfl (ag rfl) ?_;refine aG (v:=.int .u8 (sh:Nat)) (iD _ _ _) hc rfl λK hK=>?_
    go_simp;first
     |exact hK
     | (rw[HSH.out]
        exact hK)
     | (rw[HSH.out]
        exact hK)
   try case s11=>
    intro r a W hc hsz hold ah hnot hlo hhi hrk;have d4:=zV 18 (.int .u8 (old:Nat)) (ah 4 rfl rfl _ rfl);have d10:=zV 24 (.int .u8 (sh:Nat)) (ah 10 rfl rfl _ rfl);clear hsz hold ah hnot hlo hhi hrk;refine ai rfl (ag rfl) ?_;refine aG (v:=.int .u8 (nw:Nat)) (iD _ _ _) hc rfl λK hK=>?_
    go_simp;first
     |exact hK
     | (rw[HNW.out]
        exact hK)
     | (rw[HNW.out]
        exact hK)
   try case s12=>
    intro r a W hc hsz hold ah hnot hlo hhi hrk;have d0:=zV 14 (.slice (some ⟨g,0,none⟩) n n) (ah 0 rfl rfl _ rfl);have d2:=zV 16 (.int .i64 (p:Nat)) (ah 2 rfl rfl _ rfl);have q1:=λw'=>aB underlying65 sizeU8s (a:=some ⟨g,0,none⟩) (n:=n) (cap:=n) (k:=p) (b:=g) (off:=0) rfl hpn (p:Int) rfl w'
    simp only[Yy,Yf]at q1;clear hsz hold ah hnot hlo hhi hrk;refine ai rfl (ag rfl) ?_;refine aG (v:=.pointer (some ⟨g,p,none⟩)) (iD _ _ _) hc rfl λK hK=>?_
    go_simp;exact hK
   try case s13=>
    intro r a W hc hsz hold ah hnot hlo hhi hrk;have hr:=hrk 0 rfl;subst hr;have d12:=zV 26 (.pointer (some ⟨g,p,none⟩)) (ah 12 rfl rfl _ rfl);have d11:=zV 25 (.int .u8 (nw:Nat)) (ah 11 rfl rfl _ rfl);clear hsz hold ah hnot hlo hhi hrk;refine ai rfl (ag rfl) ?_;refine iy (v:=undef) (w':=W.setCell ⟨g,p,none⟩ (.int .u8 (nw:Nat))) (iD _ _ _) (show ahI _ _ _ 1 _ from ?_) trivial λK hK=>?_
    ·obtain rfl:=AQ hc (zl _);rfl
    ·obtain rfl:=AQ hc (zl _);have q0:=HQ.out.2.2.1;have q1:=HQ.out.2.2.2;go_simp;exact hK
   ·intro a W hC hd hsz hold hval;obtain⟨G,hG,ha⟩:=dK [14,15,16,17,18,19,20,21,22,23,24,25,26] (by kernel_rfl) hd hsz hold;rw[ha];clear ha hG hd hsz hold;simp only[cZ,Ym,List.set];obtain rfl:W=W1.drew.setCell ⟨g,p,none⟩ (.int .u8 (nw:Nat)):=hC;have hdr:=(zB W1.heap.size W1).drew;have hsz:w.heap.size<=W1.heap.size:=HBZ.out.size;have y1:=(HX1.out.call hdr).far (p:=⟨g,p,none⟩) (by simp only;omega) (.int .u8 (nw:Nat));have y3:=(HXC.out.call hdr).far (p:=⟨g,p,none⟩) (by simp only;omega) (.int .u8 (nw:Nat));have y4:=(HXI.out.call hdr).far (p:=⟨g,p,none⟩) (by simp only;omega) (.int .u8 (nw:Nat));have yr:Bx (W1.drew.setCell ⟨g,p,none⟩ (.int .u8 (nw:Nat))) g 5 (bs (zn n (i+1))):=HST.out;have yb:=(HBZ.out.drew).setCell (p:=⟨g,p,none⟩) (by simp only;omega) (.int .u8 (nw:Nat));have yk:KeepsFrom w4.heap.size W1 (W1.drew.setCell ⟨g,p,none⟩ (.int .u8 (nw:Nat))):=(lJ hdr).trans (E5 _ _ _ _);clear hval;generalize W1.drew.setCell ⟨g,p,none⟩ (.int .u8 (nw:Nat))=W2 at *;have c4:=y4.cell (i:=0) rfl;have f4:=y4.free 0;have hwi:IntKind.i64.wrap ((i:Int)+1)=(i:Int)+1:=IntWalk.i64_in _ (by omega);have Y1:=zH (y1.far (p:=⟨c+1,0,none⟩) (by simp only;omega) (.int .i64 ((i:Int)+1)));have Y3:=zH (y3.far (p:=⟨c+1,0,none⟩) (by simp only;omega) (.int .i64 ((i:Int)+1)));have YR:=zH (yr.far (p:=⟨c+1,0,none⟩) (by simp only;omega) (.int .i64 ((i:Int)+1)));have Y4:=zH (y4.set 0 (.int .i64 ((i:Int)+1)));have YB:=zH (yb.setCell (p:=⟨c+1,0,none⟩) (by simp only;omega) (.int .i64 ((i:Int)+1)));have YK:=zH (yk.trans (E5 w4.heap.size W2 ⟨c+1,0,none⟩ (.int .i64 ((i:Int)+1))));clear y1 y3 y4 yr yb yk;gi_wp2;exact⟨YK.out,⟨by omega,Y1.out,YR.out,Y3.out,Y4.out⟩,YB.out⟩
  ·obtain rfl:i=8*n:=by omega
   have hq:(((8*n:Nat):Int) == 8*(n:Int))=true:=YG.2 (by omega);have hq2:((8*n:Nat):Int)=8*(n:Int):=by omega
   have hxr:=HXR.out;rw[aeN]at hxr;have anX:=zH hxr;clear hxr;gi_wp2;exact⟨KeepsFrom.refl _ _,⟨rfl,anX.out,HXC.out⟩,HBZ.out⟩
 case stop=>
  rintro D cd W hD ⟨⟨rfl,hx,hx3⟩,hb⟩ hK;have c3:=hx3.cell (i:=0) rfl;have HX:=zH hx;have zX:=zH hb;have HK:=zH hK;have hs4:=xE.out;clear hx hb hK hseq;gi_wp2;refine⟨by simp,.inl ⟨_,_,rfl,run_takeDeferred HK.out,?_⟩⟩;refine⟨.slice (some ⟨g,0,none⟩) n n,by simp[results,results133,go_sem],g,rfl,hbw,(dh (w.heap.size+1+1) _ _ _).putObj (.deferred none) HX.out (by omega) HK.out rfl,zX.out.trans (belowK_b (w:=w) (zl _) _ D _ _ (by omega) HK.out rfl rfl)⟩
end T7
namespace W8
open Go.RowKit Go.Shelf
attribute [local go_sem] Oper.semAt_some
def rO(raw:List UInt8)(f:Int):Nat->Bool
 |0=>true
 |k+1=>rO raw f k && G.az (bu raw (wd k) f) 2
def pM(raw:List UInt8)(f:Int):Bool:=rO raw f 138
theorem zo{raw:List UInt8}{f:Int}{k:Nat}(h:G.az (bu raw (wd k) f) 2=false):∀n,k<n->rO raw f n=false
 |0,hk=>by omega
 | n+1,hk=>by
   unfold rO;by_cases e:k=n
   ·subst e;rw[h,Bool.and_false]
   ·rw[zo h n (by omega),Bool.false_and]
theorem Gy(n:Nat)(w:World):CallsIn Fence.wide n prog 167 #[] w λe w'=>e=.returned (.func (.func 248) #[] #[])/\w=w':=by refine callsIn_of_wp func167 rfl trivial ?_ rfl;simp only[ntmps167,Xh,YC,Nat.reduceSub,Xi,Xj,Xv,Xn,YV];gi_wp2;go_ret;exact⟨rfl,rfl⟩
theorem abm(rv:Value)(raw:List UInt8)(f:Int)(w:World)(hr:Rd w rv raw)(hl:raw.length=2352):
 Calls prog 145 #[rv,.int .i64 f] w λe w'=>e=.returned (.bool (pM raw f))/\Below w.heap.size w w':=by
 have HL:=zH hl;obtain⟨ra,rc,rfl⟩:=hr.form;rw[hl]at hr ⊢;have HR:=zH hr;clear hl hr;refine(callsIn_wide (n:=5)).1 ?_;refine callsIn_of_wp_marks func145 rfl trivial ?_ rfl;simp only[ntmps145,Xh,Yn,YC,Nat.reduceAdd,Nat.reduceSub,Xi,Xj,Xv,Xn,YV,Xr]
 gi_wp2_with (refine⟨trivial,?_⟩;gi_at_call 167;refine(Gy 4 _).mono ?_;rintro e w' ⟨rfl,rfl⟩)
 have X0:=((Bx.new w 65 [.slice ra 2352 rc]).alloc (.cells #[.int .i64 f] 3)).alloc (.cells #[.bool false] 4);have X1:=(Bx.new (w.alloc (.cells #[.slice ra 2352 rc] 65)) 3 [.int .i64 f]).alloc (.cells #[.bool false] 4);have X2:=Bx.new ((w.alloc (.cells #[.slice ra 2352 rc] 65)).alloc (.cells #[.int .i64 f] 3)) 4 [.bool false];have hB:Below w.heap.size w (((w.alloc (.cells #[.slice ra 2352 rc] 65)).alloc (.cells #[.int .i64 f] 3)).alloc (.cells #[.bool false] 4)):=(((zB _ w).alloc (zl _) _).alloc (by simp) _).alloc (by simp;omega) _;simp only[Yl]at X1 X2;obtain⟨B,hBs⟩:∃B,B=(((w.alloc (.cells #[.slice ra 2352 rc] 65)).alloc (.cells #[.int .i64 f] 3)).alloc (.cells #[.bool false] 4)).heap.size:=⟨_,rfl⟩;have hB3:B=w.heap.size+1+1+1:=by rw[hBs];simp
 have hseq:=uD 4 (by omega) (((w.alloc (.cells #[.slice ra 2352 rc] 65)).alloc (.cells #[.int .i64 f] 3)).alloc (.cells #[.bool false] 4));rw[<-hBs]at hseq;refine oW (n:=5) rfl (by omega) (gf:=248) (lb:=#[]) rfl trivial (enters_of func248 (by kernel_rfl) rfl) hseq rfl
  (λk W=>((rO raw f k=true)/\Bx W w.heap.size 65 [.slice ra 2352 rc]/\Bx W (w.heap.size+1) 3 [.int .i64 f]/\Bx W (w.heap.size+1+1) 4 [.bool false])/\Below w.heap.size w W)
  (λc W=>((c=.ret/\pM raw f=false)/\Bx W (w.heap.size+1+1) 4 [.bool false])/\Below w.heap.size w W)
  (λv=>{tmps:=#[.slice ra 2352 rc,.int .i64 f,.pointer (some ⟨w.heap.size,0,none⟩),.pointer (some ⟨w.heap.size+1,0,none⟩),.pointer (some ⟨w.heap.size+1+1,0,none⟩),v,.func (.func 248) #[] #[],v,undef,undef,undef,undef,undef,undef],defers:=[]})
  (λk=>((bD.const _ _).and ((dh _ _ _ _).and ((dh _ _ _ _).and (dh _ _ _ _)))).and (iU (zl _) (by simp;omega)))
  (λc=>((bD.const _ _).and (dh _ _ _ _)).and (iU (zl _) (by simp;omega)))
  (λk v=>GW.stays _ _ _ _) ⟨⟨rfl,X0,X1,X2⟩,hB⟩ ?assign ?body ?done ?stop
 case assign=>
  intro l v W K _ hK;gi_wp2;exact hK
 case body=>
  rw[<-hBs];rintro l k v W hk ⟨⟨hsn,x0,x1,x2⟩,hb⟩ hg;clear X0 X1 X2 hB hseq hBs;have hwb:=Rw hk;have hwl:=dR k;have hlen:(wd k).length<=45:=by rw[hwl];split <;> omega
  have hlen2:26<=(wd k).length:=by rw[hwl];split <;> omega
  have hri:=lh (w:=W) hg rfl (by omega) (λx hx=>by have:=hwb x hx;omega);have hra:=HR.out.keep hb;have HT:=zH (take_any _ raw v (wd k) f W hra hri (by omega) (λx hx=>by have:=hwb x hx;have:=HL.out;omega));have HV:=zH (λW=>J7 (bu raw (wd k) f) 2 W (by rw[aO];omega));have hS:rO raw f (k+1)=(rO raw f k && G.az (bu raw (wd k) f) 2):=rfl;rw[hsn,Bool.true_and]at hS;have hF:G.az (bu raw (wd k) f) 2=false->pM raw f=false:=λh=>zo h 138 hk
  generalize G.az (bu raw (wd k) f) 2=bb at *;have HS:=zH hS;have c0:=x0.cell (i:=0) rfl;have c1:=x1.cell (i:=0) rfl;clear hS hsn hwl hwb hri hra hg;have HB:=zH hb;have HX:=zH (And.intro x0 (And.intro x1 x2));have h32:1<=5-1-1:=by omega
  clear hb x0 x1 x2;cases bb with
  | false=>
    have HF:=zH (hF rfl);clear hF
    gi_wp2_with (first|(refine⟨trivial,?_⟩;gi_at_call 168;refine(CallsIn.inRound l (callsIn_wide.2 HT.out)).mono ?_;rintro e W2 ⟨rfl,hb2⟩)|(refine⟨trivial,?_⟩;gi_at_call 233;refine(CallsIn.inRound l (callsIn_wide.2 (HV.out _))).mono ?_;rintro e W3 ⟨rfl,hb3⟩;have hb4:=hb2.trans (hb3.mono hb2.size);have x2':=HX.out.2.2.call hb4;have c3:=x2'.cell (i:=0) rfl;have f3:=x2'.free 0;clear x2'))
    exact⟨(lJ hb4).trans (E5 _ _ _ _),⟨⟨rfl,HF.out⟩,(HX.out.2.2.call hb4).set 0 (.bool false)⟩,(HB.out.trans (hb4.mono HB.out.size)).setCell (p:=⟨w.heap.size+1+1,0,none⟩) (by simp;omega) _⟩
  | true=>
    clear hF
    gi_wp2_with (first|(refine⟨trivial,?_⟩;gi_at_call 168;refine(CallsIn.inRound l (callsIn_wide.2 HT.out)).mono ?_;rintro e W2 ⟨rfl,hb2⟩)|(refine⟨trivial,?_⟩;gi_at_call 233;refine(CallsIn.inRound l (callsIn_wide.2 (HV.out _))).mono ?_;rintro e W3 ⟨rfl,hb3⟩;have hb4:=hb2.trans (hb3.mono hb2.size);have x2':=HX.out.2.2.call hb4;have c3:=x2'.cell (i:=0) rfl;have f3:=x2'.free 0;clear x2'))
    exact⟨lJ hb4,⟨HS.out,HX.out.1.call hb4,HX.out.2.1.call hb4,HX.out.2.2.call hb4⟩,HB.out.trans (hb4.mono HB.out.size)⟩
 case done=>
  rintro D W hD ⟨⟨hsn,_,_,hx⟩,hb⟩ hK;rw[<-hBs]at hD;have HSN:Hid (pM raw f=true):=zH hsn;clear X0 X1 X2 hB hseq hBs hsn;have c3:=hx.cell (i:=0) rfl;have f3:=hx.free 0;have hK':=(KeepsOthers.setCell W ⟨w.heap.size+1+1,0,none⟩ (.bool true)).same D _ hK rfl;have hx':=hx.set 0 (.bool true);have hb':=hb.setCell (p:=⟨w.heap.size+1+1,0,none⟩) (by simp;omega) (.bool true);gi_wp2;refine⟨by simp,.inl ⟨_,_,rfl,run_takeDeferred hK',?_⟩⟩;have hc:=((dh (w.heap.size+1+1) _ _ _).putObj (.deferred none) hx' (by omega) hK' rfl).cell (i:=0) rfl;rw[HSN.out];exact⟨.bool true,by simp[results,results145,go_sem,hc],rfl,hb'.trans (belowK_b (w:=w) (zl _) _ D _ _ (by omega) hK' rfl rfl)⟩
 case stop=>
  rintro D c W hD ⟨⟨⟨rfl,hsn⟩,hx⟩,hb⟩ hK;rw[<-hBs]at hD;have HSN:Hid (pM raw f=false):=zH hsn;clear X0 X1 X2 hB hseq hBs hsn;gi_wp2;refine⟨by simp,.inl ⟨_,_,rfl,run_takeDeferred hK,?_⟩⟩;have hc:=((dh (w.heap.size+1+1) _ _ _).putObj (.deferred none) hx (by omega) hK rfl).cell (i:=0) rfl;rw[HSN.out];exact⟨.bool false,by simp[results,results145,go_sem,hc],rfl,hb.trans (belowK_b (w:=w) (zl _) _ D _ _ (by omega) hK rfl rfl)⟩
def pF(m:Int):Int:=if m=0 then 12 else if m=1 then 16 else 0
def EH(m:Int):Bool:=decide (m=0) || decide (m=1)
theorem first_any(m:Int)(w:World):Calls prog 142 #[.int .i64 m] w λe w'=>e=.returned (.tuple #[.int .i64 (pF m),.bool (EH m)])/\w=w':=by
 by_cases h0:m=0
 ·subst h0;go_enter func142,ntmps142;go_wp2_with fail;go_ret2;exact⟨rfl,rfl⟩
 ·by_cases h1:m=1
  ·subst h1;go_enter func142,ntmps142;go_wp2_with fail;go_ret2;exact⟨rfl,rfl⟩
  ·have e1:pF m=0:=by simp[pF,h0,h1]
   have e2:EH m=false:=by simp[EH,h0,h1]
   rw[e1,e2];have hb0:(m == 0)=false:=by simpa using h0
   have hb1:(m == 1)=false:=by simpa using h1
   have H0:=zH h0;have H1:=zH h1;clear e1 e2 h0 h1;go_enter func142,ntmps142;go_wp2_with fail;go_ret2;exact⟨rfl,rfl⟩
theorem aa6{P:Program}(w:World){src dst e:TypeId}(hs:P.underlying src=some .string)(hd:P.underlying dst=some (.slice e))(he:P.underlying e=some (.int .u8))(l:List UInt8)(n:Nat)(hn:l.length=n):
 ∃w' cap,(convert src dst (.string (str l))).run P w=.ok (.slice (some ⟨w.heap.size,0,none⟩) n cap) w'/\Row w' e w.heap.size cap l/\Below w.heap.size w w'/\n<=cap:=by
 subst hn;have hsz:=au l;refine⟨_,_,by rw[Lib.run_convert_string_bytes (P:=P) w src dst e (str l) hs hd he,hsz],?_,?_,?_⟩
 ·refine⟨Lib.bytesCells w e (str l),_,Lib.bytesWorld_at_new w e (str l),.inr (zl _),?_,by rw[sH w e (str l),hsz],?_⟩
  ·have:=grownCap_ge w l.length 0 e;simpa using this
  ·have hl:(str l).data.toList.length=l.length:=rfl;unfold Lib.bytesCells;rw[Array.toList_append,Xw (by simp[<-hl]),YE (by simp[<-hl])];simp[bs,str]
 ·exact⟨rfl,rfl,rfl,by rw[Lib.bytesWorld_size];omega,λk hk=>Lib.bytesWorld_at_old w e (str l) k hk⟩
 ·have:=grownCap_ge w l.length 0 e;simpa using this
theorem aha{w:World}{base e n:Nat}{v:Value}{l:List Int}(h:w.ownsRow base e 1 v n (is l))(hn:0<n):∃g c,v=.slice (some ⟨g,0,none⟩) n c/\∀i,i<n->w.cell? ⟨g,i,none⟩=some (.int .i64 (aI l i)):=by
 have hl:=h.1;rw[qx,Yy]at hl;rcases h.2 with ⟨_,h0⟩|⟨g,cap,cur,rfl,hg,hh,hnn,hm,hcs,ht⟩
 ·omega
 ·exact⟨g,cap,rfl,λi hi=>by rw[h.cellAt i (by omega),wL (by omega)]⟩
end W8
end Go.Proofs.YtfnehkmhcmkhjaaGreat
