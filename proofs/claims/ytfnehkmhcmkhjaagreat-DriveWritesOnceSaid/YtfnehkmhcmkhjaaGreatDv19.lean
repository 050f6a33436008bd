/- Parts:XWo XWe XWg XWu XWdf XIg -/
import Derived.Test.YtfnehkmhcmkhjaaGreatDvAl
import Derived.Test.YtfnehkmhcmkhjaaGreatDv17
import Derived.Deep.LoopGhost
import Derived.Test.YtfnehkmhcmkhjaaGreatDv16
import Derived.Test.YtfnehkmhcmkhjaaGreatDv15
import Derived.Lib.SliceRun
import Derived.Lib.LazyBuf
set_option maxRecDepth 100000
set_option maxHeartbeats 8000000
set_option linter.unusedVariables false
namespace Go.Proofs.YtfnehkmhcmkhjaaGreat
open Tryz
namespace W8
open Go.RowKit Go.Maps
theorem nU(l:List Int)(k:Nat)(h:k<l.length):l.take (k+1)=l.take k++[dm l k]:=by rw[List.take_succ_eq_append_getElem h,nK h]
end W8
namespace W8
open Go.RowKit
def cwd(raw:List UInt8)(ws:List Int)(f:Int):List UInt8:=G.enc (oD raw (ws.take (ws.length - 2)) f) 2
def stepW(raw:List UInt8)(ws:List Int)(f:Int):List UInt8:=
 (raw.set (dm ws (ws.length - 2)).toNat (G.ix (cwd raw ws f) (ws.length - 2))).set (dm ws (ws.length - 1)).toNat (G.ix (cwd raw ws f) (ws.length - 1))
theorem Et(raw:List UInt8)(ws:List Int)(f:Int):(stepW raw ws f).length=raw.length:=by simp[stepW]
theorem Je(raw:List UInt8)(ws:List Int)(f:Int)(h:2<=ws.length):(cwd raw ws f).length=ws.length:=by unfold cwd;rw[G.Jr,eX,List.length_take];omega
theorem yR{l m:List UInt8}{i:Nat}(h:i<l.length):G.ix (l++m) i=G.ix l i:=by unfold G.ix;rw[List.getD_eq_getElem?_getD,List.getD_eq_getElem?_getD,List.getElem?_append_left h]
theorem mQ{l:List Int}{k i:Nat}(h:i<k):dm (l.take k) i=dm l i:=by simp[dm,h]
theorem abe(raw:List UInt8)(ws:List Int)(f:Int)(i:Nat)(h:i<ws.length - 2):G.ix (cwd raw ws f) i=sym raw f (dm ws i):=by
 have hl:i<(oD raw (ws.take (ws.length - 2)) f).length:=by rw[eX,List.length_take]; omega
 unfold cwd G.enc;rw[yR hl,Gp _ _ _ _ (by rw[eX]at hl; exact hl),mQ h]
theorem set_self(l:List UInt8)(i:Nat):l.set i (G.ix l i)=l:=by
 apply G.Dp
 ·simp
 ·intro j hj;by_cases h:i<l.length
  ·rw[DL _ _ _ _ h]; split
   ·next e=>rw[e]
   ·rfl
  ·rw[List.set_eq_of_length_le (by omega)]
theorem Nh(raw:List UInt8)(ws:List Int)(f:Int)(s:List UInt8):∀k,(∀i,i<k->G.ix s i=sym raw f (dm ws i))->EJ raw ws f s k=raw
 | 0,_=>rfl
 | k+1,h=>by
   have ih:=Nh raw ws f s k (fun i hi=>h i (by omega));unfold EJ;rw[ih];split
   ·rfl
   ·next hf=>
    rw[h k (by omega)];unfold sym;rw[zi hf];exact set_self _ _
theorem X9(raw:List UInt8)(ws:List Int)(f:Int)(hL:2<=ws.length)(h1:f<=dm ws (ws.length - 2))(h2:f<=dm ws (ws.length - 1)):XY raw ws f (cwd raw ws f)=stepW raw ws f:=by
 have hs:=Nh raw ws f (cwd raw ws f) (ws.length - 2) (fun i hi=>abe raw ws f i hi);obtain⟨n,hn⟩:∃n,ws.length=n+2:=⟨ws.length - 2,by omega⟩;have e1:ws.length - 2=n:=by omega
 have e2:ws.length - 1=n+1:=by omega
 rw[e1]at hs h1;rw[e2]at h2;unfold XY stepW;rw[e1,e2,hn];show(if dm ws (n+1)<f then EJ raw ws f (cwd raw ws f) (n+1) else(EJ raw ws f (cwd raw ws f) (n+1)).set (dm ws (n+1)).toNat (G.ix (cwd raw ws f) (n+1)))=_;rw[zi (by omega)]
 congr 1
 show(if dm ws n<f then EJ raw ws f (cwd raw ws f) n else(EJ raw ws f (cwd raw ws f) n).set (dm ws n).toNat (G.ix (cwd raw ws f) n))=_;rw[zi (by omega),hs]
theorem YE{k:Nat}(hk:k<138):16<=dm (wd k) ((wd k).length - 2)/\16<=dm (wd k) ((wd k).length - 1):=by
 rw[kN];unfold wd;by_cases h:k<86
 ·rw[zj h,zj h];show 16<=dm (pw k) 24/\16<=dm (pw k) 25;rw[JL _ _ (by omega),JL _ _ (by omega)];unfold pf; omega
 ·rw[zi h,zi h];show 16<=dm (qw (k - 86)) 43/\16<=dm (qw (k - 86)) 44;rw[Gm,Gn];omega
def ji(raw:List UInt8)(f:Int):Nat->List UInt8
 | 0=>raw
 | k+1=>stepW (ji raw f k) (wd k) f
theorem iR(raw:List UInt8)(f:Int):∀k,(ji raw f k).length=raw.length
 | 0=>rfl
 | k+1=>by rw[ji,Et,iR raw f k]
theorem SG(raw:List UInt8)(f:Int)(k:Nat)(hk:k<138)(hf:f<=16):XY (ji raw f k) (wd k) f (cwd (ji raw f k) (wd k) f)=ji raw f (k+1):=by have h:=YE hk;have hl:=kN k;exact X9 _ _ _ (by rw[hl]; split <;> omega) (by omega) (by omega)
theorem UR{P:Program}{t e:TypeId}(ht:P.underlying t=some (.slice e))(hs:(P.info? e).map (·.size)=some 1){v:Value}{l:List Int}{w:World}(h:uS w v l)(hi:Nat)(h2:hi<=l.length):
 ∃v',(∀W,uS W v l->uS W v' (l.take hi))/\∀(y:Int)(w':World),y=hi->(Instr.slice t v none (some (.int .i64 y)) none).run P w'=.ok v' w':=by
 obtain⟨h0,⟨a,c,b,off,rfl,hc,hcell⟩,hr⟩:=h;cases hq:P.info? e with
 | none=>simp[hq]at hs
 | some i=>
   have hs1:i.size=1:=by simpa[hq]using hs
   refine⟨.slice (if c=0 then a else a.map (·.add (0 * 1))) hi c,fun W hW=>?_,?_⟩
   ·obtain⟨_,⟨a',c',b',off',e1,hc',hcell'⟩,hr'⟩:=hW;injection e1 with e1 e2 e3
    subst e1 e3;have hL:(l.take hi).length=hi:=by rw[List.length_take]; omega
    refine⟨by rw[hL]; omega,⟨_,c,b',off',by rw[hL],by rw[hL]; omega,fun j hj=>?_⟩,fun j hj=>?_⟩
    ·rw[hL]at hj;obtain⟨g1,g2⟩:=hcell' j (by omega);exact⟨by rw[g1]; split <;> simp[Addr.add],by rw[mQ hj]; exact g2⟩
    ·rw[hL]at hj;rw[mQ hj];exact hr' j (by omega)
   ·rintro y w' rfl;simp[Instr.slice,run_underlying ht,Instr.sliceBounds,run_sliceBound,sizeOf,typeInfo,hq,(by omega:hi<=c)]
theorem adG(m i:Nat):pf m i=12+m+86 * i:=by unfold pf; omega
theorem adQ(k i:Nat)(hk:k<138)(hi:i<(wd k).length):
 (k<86/\i<26/\dm (wd k) i=12+k+86 * i)\/(86<=k/\i<43/\dm (wd k) i=qf (k - 86) i)\/(86<=k/\i=43/\dm (wd k) i=2162+k)\/(86<=k/\i=44/\dm (wd k) i=2214+k):=by
 rw[kN]at hi;unfold wd;by_cases h:k<86
 ·rw[zj h]at hi ⊢;exact .inl ⟨h,hi,by rw[JL _ _ hi,adG]⟩
 ·rw[zi h]at hi ⊢;by_cases h1:i<43
  ·exact .inr (.inl ⟨by omega,h1,abd _ _ h1⟩)
  ·by_cases h2:i=43
   ·subst h2; exact .inr (.inr (.inl ⟨by omega,rfl,by rw[Gm]; omega⟩))
   ·obtain rfl:i=44:=by omega
    exact .inr (.inr (.inr ⟨by omega,rfl,by rw[Gn]; omega⟩))
theorem Vj{k b:Nat}(hk:k<138)(hb:b<(wd k).length)(hb2:(wd k).length - 2<=b):2076<=dm (wd k) b:=by
 have hl:=kN k;rcases adQ k b hk hb with ⟨g1,g2,g3⟩ | ⟨g1,g2,g3⟩ | ⟨g1,g2,g3⟩ | ⟨g1,g2,g3⟩ <;> rw[g3]
 ·rw[zj g1]at hl; omega
 ·rw[zi (by omega)]at hl; omega
 ·omega
 ·omega
theorem NL(k:Nat):26<=(wd k).length/\(wd k).length<=45:=by rw[kN]; split <;> omega
theorem Zx{k i:Nat}(hk:k<138)(hi:i<(wd k).length):12<=dm (wd k) i/\dm (wd k) i<2352:=Zw hk _ (iZ hi)
theorem TQ{R:List UInt8}{k:Nat}(hk:k<138)(hl:R.length=2352)(f:Int)(x:Nat)(hx1:(x:Int)≠dm (wd k) ((wd k).length - 2))(hx2:(x:Int)≠dm (wd k) ((wd k).length - 1)):G.ix (stepW R (wd k) f) x=G.ix R x:=by have h2:=NL k;have b1:=Zx hk (show(wd k).length - 2<(wd k).length by omega);have b2:=Zx hk (show(wd k).length - 1<(wd k).length by omega);unfold stepW;rw[DL _ _ _ _ (by rw[List.length_set]; omega),zi (by omega),DL _ _ _ _ (by omega),zi (by omega)]
theorem Bj{raw:List UInt8}{f:Int}(hl:raw.length=2352)(x:Nat)(hx:x<2076):∀k,k<=138->G.ix (ji raw f k) x=G.ix raw x
 | 0,_=>rfl
 | k+1,hk=>by have h2:=NL k;rw[ji,TQ (by omega) (by rw[iR]; exact hl) f x (by have:=Vj (show k<138 by omega) (show(wd k).length - 2<(wd k).length by omega) (zl _); omega) (by have:=Vj (show k<138 by omega) (show(wd k).length - 1<(wd k).length by omega) (by omega); omega)];exact Bj hl x hx k (by omega)
theorem yQ{l m:List Int}{i:Nat}(h:i<l.length):dm (l++m) i=dm l i:=by unfold dm;rw[List.getD_eq_getElem?_getD,List.getD_eq_getElem?_getD,List.getElem?_append_left h]
theorem Gl(l:List Int)(x:Int):dm (l++[x]) l.length=x:=by simp[dm]
structure Inv (c R:List UInt8) (S:List Int):Prop where
 len:R.length=2352
 diff:∀x:Nat,x<2352->G.ix R x≠G.ix c x->(x:Int) ∈ S
end W8
namespace W8
open Go.RowKit Go.Shelf
def qR(w:World)(e g cap:Nat)(l:List Int):Prop:=
 ∃cur:Array Value,w.heap[g]? = some (.cells cur e (0,0))/\l.length<=cap/\cur.size=cap/\cur.toList.take l.length=is l
section
variable {w:World} {e g cap:Nat} {l:List Int}
theorem qR.le(h:qR w e g cap l):l.length<=cap:=by obtain⟨cur,hg,hl,_⟩:=h;exact hl
theorem qR.cell(h:qR w e g cap l)(j:Nat)(hj:j<l.length):w.cell? ⟨g,j,none⟩=some (.int .i64 (dm l j)):=by obtain⟨cur,hg,hl,hs,ht⟩:=h;rw[cell_of_row w g j cur e _ hg,<-vz hj,<-ht,List.getElem?_take,zj hj];simp
theorem qR.frozen(h:qR w e g cap l)(j:Nat):w.frozen? ⟨g,j,none⟩=false:=by obtain⟨cur,hg,hl,hs,ht⟩:=h;simp only[World.frozen?,hg,Bool.and_eq_false_iff,decide_eq_false_iff_not];right; omega
theorem qR.store(h:qR w e g cap l)(j:Nat)(c:Int)(hj:j<l.length):qR (w.setCell ⟨g,j,none⟩ (.int .i64 c)) e g cap (l.set j c):=by
 obtain⟨cur,hg,hl,hs,ht⟩:=h;refine⟨cur.setIfInBounds j (.int .i64 c),?_,by simpa using hl,by simpa using hs,?_⟩
 ·rw[setCell_eq_setRow w g j cur e _ (.int .i64 c) hg];exact setRow_heap w g cur _ e _ hg
 ·rw[Array.toList_setIfInBounds,List.length_set,List.take_set,ht];simp[is,List.map_set]
theorem qR.DZ{base n:Nat}(h:w.ownsRow base e 1 (.slice (some ⟨g,0,none⟩) n cap) n (is l)):qR w e g cap l/\n=l.length/\base<=g:=by
 have hl:l.length=n:=by have:=h.1; simpa[mP]using this
 rcases h.2 with ⟨h',_⟩ | ⟨g',cap',cur,h',hb,hg,hn,hm,hs,ht⟩
 ·simp at h'
 ·simp only[Value.slice.injEq,Option.some.injEq,Addr.mk.injEq,and_true,true_and]at h';obtain⟨rfl,rfl⟩:=h';exact⟨⟨cur,hg,by omega,by simpa using hs,by rw[hl]; simpa using ht⟩,hl.symm,hb⟩
end
theorem qB{w:World}{g:Nat}:∀(vs:List Value)(o:Nat)(W:World),w.grownBy W (some g)->w.grownBy (W.setCells g o vs) (some g)
 | [],_,_,h=>h
 | v :: r,o,W,h=>qB r (o+1) _ (pg h o v)
theorem DK(l:List Int)(k i:Nat)(c:Int)(h:k<l.length):dm (l.set k c) i=if i=k then c else dm l i:=by
 unfold dm;rw[List.getD_eq_getElem?_getD,List.getD_eq_getElem?_getD,List.getElem?_set];by_cases e:i=k
 ·subst e; rw[zj rfl,zj rfl,zj h]; rfl
 ·rw[zi e,zi (Ne.symm e)]
end W8
namespace xA
open Go.RowKit
theorem IX(l:List UInt8)(w:World)(hl:l.length=2352):Calls prog 148 #[.string (str l),.int .i64 12] w (uM (bn l 12) (bn l 13) (bn l 14) w):=by
 have hsz:(str l).size=2352:=by rw[ax,hl]
 have hx0:=fun W=>Em (P:=prog) underlying9 l 12 (by omega) 12 rfl W
 have hx1:=fun W=>Em (P:=prog) underlying9 l 13 (by omega) 13 rfl W
 have hx2:=fun W=>Em (P:=prog) underlying9 l 14 (by omega) 14 rfl W
 obtain⟨b0,b0'⟩:=RF l 12;obtain⟨b1,b1'⟩:=RF l 13;obtain⟨b2,b2'⟩:=RF l 14;clear hl;generalize str l=S at hsz hx0 hx1 hx2 ⊢;generalize bn l 12=x at *;generalize bn l 13=y at *;generalize bn l 14=z at *;have hz3:=YO;go_enter func148,ntmps148;go_wp2_with fail;clear hsz hz3;obtain⟨gR,hgR⟩:∃g,g=w.heap.size:=⟨_,rfl⟩;obtain⟨gL,hgL⟩:∃g,g=w.heap.size+1:=⟨_,rfl⟩;have hR:MB ((w.alloc (mo 0 0 0)).alloc (.cells #[.int .i64 0,.int .i64 0,.int .i64 0] 325)) gR 0 0 0:=by rw[hgR]; exact(Bx.new w _ (mc 0 0 0)).alloc _
 have hL:Bx ((w.alloc (mo 0 0 0)).alloc (.cells #[.int .i64 0,.int .i64 0,.int .i64 0] 325)) gL 325 (c3 0 (aG x).1 (aG y).1 (aG z).1):=Bx.adA w _ _ (mc 0 0 0) gL hgL;have hle:=((zB w.heap.size w).alloc (zl _) (mo 0 0 0)).alloc (by simp) (.cells #[.int .i64 0,.int .i64 0,.int .i64 0] 325);generalize (w.alloc (mo 0 0 0)).alloc (.cells #[.int .i64 0,.int .i64 0,.int .i64 0] 325)=w1 at hR hL hle ⊢;have OE:w.heap.size<=gR:=by omega
 have Xk:w.heap.size<=gL:=by omega
 have hne:gL≠gR:=by omega
 simp only[<-hgL];simp only[<-hgR];obtain⟨B,VL⟩:∃B,B=w.heap.size:=⟨_,rfl⟩;rw[<-VL]at hle OE Xk;have HB:=zH VL;clear hgR hgL VL
 go_loopw [22] (fun vi wr=>∃(i:Nat),i<=3/\vi=.int .i64 i/\Hid (okN i x y z)/\Hid (MB wr gR 0 0 0)/\Hid (Bx wr gL 325 (c3 i (aG x).1 (aG y).1 (aG z).1))/\Below B w wr) (fun vi _=>3 - (RowKit.intOf vi).toNat)
 case atStart=>exact⟨0,by omega,rfl,zH ⟨fun h=>by omega,fun h=>by omega,fun h=>by omega⟩,zH hR,zH hL,hle⟩
 case round=>
  clear hR hL hle;obtain⟨i,hi,rfl,HO,HR,HL,hb⟩:=hrel;by_cases h3:i=3
  ·subst h3;have hO:(aG x).2=0/\(aG y).2=0/\(aG z).2=0:=⟨HO.out.1 (by omega),HO.out.2.1 (by omega),HO.out.2.2 (by omega)⟩;have ni:=zH hO;have hL:Bx wr gL 325 (mc (aG x).1 (aG y).1 (aG z).1):=HL.out;have c0:=hL.cell (i:=0) rfl;have c1:=hL.cell (i:=1) rfl;have c2:=hL.cell (i:=2) rfl;have HJ:=zH (fun W=>TS (aG x).1 (aG y).1 (aG z).1 W);clear hL hO hx0 hx1 hx2 HL HO hi;have HY:vB (aG x).1 (aG y).1 (aG z).1=true->okD x y z:=fun h=>⟨ni.out.1,ni.out.2.1,ni.out.2.2,h⟩
   have HN:vB (aG x).1 (aG y).1 (aG z).1=false->¬ okD x y z:=fun h e=>by rw[e.2.2.2]at h; cases h
   have HY:=zH HY; have HN:=zH HN;have HZ:Hid (∀W',Below B w W'->Below w.heap.size w W'):=zH fun W' h=>by rw[<-HB.out]; exact h
   have hBs:B<=wr.heap.size:=zT (Nat.le_of_eq HB.out) hb.size;generalize hm1:(aG x).1=m at *;generalize hm2:(aG y).1=s at *;generalize hm3:(aG z).1=f at *;have HM1:=zH hm1; have HM2:=zH hm2; have HM3:=zH hm3;clear hm1 hm2 hm3;go_wp2_with fail;refine(HJ.out _).mono ?_;rintro e w2 ⟨rfl,hb2⟩;have hM2:=HR.out.call hb2;have hle2:=hb.trans (hb2.mono hBs);have hs2:B<=w2.heap.size:=zT hBs hb2.size;clear hb2 c0 c1 c2;cases hv:vB m s f with
   | true=>
     have hok:=HY.out hv;have HK:=zH hok;clear hok;have hf:=hM2.free;have hM4:MB ((bg w2 gR 0 (mc m s f)).alloc (mo m s f)) gR m s f:=(hM2.bg (mc m s f) 0).alloc _;have Tv:Below B w ((bg w2 gR 0 (mc m s f)).alloc (mo m s f)):=(Below.bg OE (mc m s f) 0 hle2).alloc (by simp[bg]; exact hs2) _;have ZW:=zH hM4; have jE:=zH (HZ.out _ Tv);have q0:=hM2.cell (i:=0) rfl;have q1:=hM2.cell (i:=1) rfl;have q2:=hM2.cell (i:=2) rfl;have hlt:=hM2.lt;clear hM4 Tv hM2 hv hle2;go_wp2_with fail;have r0:=ZW.out.cell (i:=0) rfl;have r1:=ZW.out.cell (i:=1) rfl;have r2:=ZW.out.cell (i:=2) rfl;simp only[bg,Nat.zero_add,Nat.reduceAdd]at r0 r1 r2;exact zr (v:=.tuple #[iV m s f,.int .i64 0]) (by simp[results,results148,go_sem,q0,q1,q2,hlt]) rfl (uM.yes HK.out jE.out (by rw[HM1.out,HM2.out,HM3.out]))
   | false=>
     have hok:=HN.out hv;have HK:=zH hok;clear hok;have hf:=hM2.free;have hM4:MB ((bg w2 gR 0 (mc 0 0 0)).alloc (mo m s f)) gR 0 0 0:=(hM2.bg (mc 0 0 0) 0).alloc _;have Tv:Below B w ((bg w2 gR 0 (mc 0 0 0)).alloc (mo m s f)):=(Below.bg OE (mc 0 0 0) 0 hle2).alloc (by simp[bg]; exact hs2) _;have ZW:=zH hM4; have jE:=zH (HZ.out _ Tv);have q0:=hM2.cell (i:=0) rfl;have q1:=hM2.cell (i:=1) rfl;have q2:=hM2.cell (i:=2) rfl;have hlt:=hM2.lt;clear hM4 Tv hM2 hv hle2;go_wp2_with fail;have r0:=ZW.out.cell (i:=0) rfl;have r1:=ZW.out.cell (i:=1) rfl;have r2:=ZW.out.cell (i:=2) rfl;simp only[bg,Nat.zero_add,Nat.reduceAdd]at r0 r1 r2;exact zr (v:=.tuple #[iV 0 0 0,.int .i64 10]) (by simp[results,results148,go_sem,q0,q1,q2,hlt]) rfl (uM.no HK.out jE.out rfl)
  by_cases h0:i=0
  ·subst h0;have HU:=zH (fun W=>vW x W b0 b0');have hL:Bx wr gL 325 (c3 0 (aG x).1 (aG y).1 (aG z).1):=HL.out;have hbs:=hb.size;rcases zY x with he | he
   ·have HE:=zH he;clear he h3 HL;have hf:=hL.free;have hlt:=hL.lt;have hq:wr.cell? ⟨gL,0,none⟩=some (.int .i64 0):=hL.cell (i:=0) rfl;have HL2:Hid (Bx (wr.setCell ⟨gL,0,none⟩ (.int .i64 (aG x).1)) gL 325 (c3 1 (aG x).1 (aG y).1 (aG z).1)):=zH (hL.set 0 _);have HR2:Hid (MB (wr.setCell ⟨gL,0,none⟩ (.int .i64 (aG x).1)) gR 0 0 0):=zH (HR.out.far (p:=⟨gL,0,none⟩) hne _);have hb2:Below B w (wr.setCell ⟨gL,0,none⟩ (.int .i64 (aG x).1)):=hb.setCell (p:=⟨gL,0,none⟩) Xk _;have ER:Hid (∀W,Calls prog 234 #[.int .u8 x] W (R2 (.int .i64 (aG x).1) (.int .i64 0) W)):=zH (fun W=>by have:=HU.out W; rwa[HE.out]at this);clear hL HR HU hb hbs;generalize (aG x).1=uu at HL2 HR2 hb2 ER;go_wp2_with fail;refine(ER.out _).mono ?_;rintro e w2 ⟨rfl,rfl⟩;go_wp2_with fail;first
    | (go_roundw
       case rel=>exact⟨1,by omega,by go_num,zH ⟨fun _=>HE.out,fun h=>by omega,fun h=>by omega⟩,HR2,HL2,hb2⟩
       case measure=>simp[RowKit.intOf])
    | exact⟨⟨1,by omega,by go_num,zH ⟨fun _=>HE.out,fun h=>by omega,fun h=>by omega⟩,HR2,HL2,hb2⟩,by simp[RowKit.intOf]⟩
   ·have HE:=zH he;have HNO:=zH (D6 (x:=x) (y:=y) (z:=z) (by first | exact .inl he | exact .inr (.inl he) | exact .inr (.inr he)));clear he h3 HL hL;have hf:=HR.out.free;have hlt:=HR.out.lt;have q0:=HR.out.cell (i:=0) rfl;have q1:=HR.out.cell (i:=1) rfl;have q2:=HR.out.cell (i:=2) rfl;have HR2:Hid (MB (bg wr gR 0 (mc 0 0 0)) gR 0 0 0):=zH (HR.out.bg (mc 0 0 0) 0);have hb2:Below B w (bg wr gR 0 (mc 0 0 0)):=Below.bg OE (mc 0 0 0) 0 hb;rw[HB.out]at hb2;have jE:=zH hb2;have ER:Hid (∀W,Calls prog 234 #[.int .u8 x] W (R2 (.int .i64 (aG x).1) (.int .i64 2) W)):=zH (fun W=>by have:=HU.out W; rwa[HE.out]at this);clear HR HU hb hbs hb2;generalize (aG x).1=uu at ER;go_wp2_with fail;refine(ER.out _).mono ?_;rintro e w2 ⟨rfl,rfl⟩;go_wp2_with fail;have r0:=HR2.out.cell (i:=0) rfl;have r1:=HR2.out.cell (i:=1) rfl;have r2:=HR2.out.cell (i:=2) rfl;simp only[bg,Nat.zero_add,Nat.reduceAdd]at r0 r1 r2;exact zr (v:=.tuple #[iV 0 0 0,.int .i64 10]) (by simp[results,results148,go_sem,q0,q1,q2]) rfl (uM.no HNO.out jE.out rfl)
  by_cases h1:i=1
  ·subst h1;have HU:=zH (fun W=>vW y W b1 b1');have hL:Bx wr gL 325 (c3 1 (aG x).1 (aG y).1 (aG z).1):=HL.out;have hbs:=hb.size;rcases zY y with he | he
   ·have HE:=zH he;clear he h3 HL;have hf:=hL.free;have hlt:=hL.lt;have hq:wr.cell? ⟨gL,1,none⟩=some (.int .i64 0):=hL.cell (i:=1) rfl;have HL2:Hid (Bx (wr.setCell ⟨gL,1,none⟩ (.int .i64 (aG y).1)) gL 325 (c3 2 (aG x).1 (aG y).1 (aG z).1)):=zH (hL.set 1 _);have HR2:Hid (MB (wr.setCell ⟨gL,1,none⟩ (.int .i64 (aG y).1)) gR 0 0 0):=zH (HR.out.far (p:=⟨gL,1,none⟩) hne _);have hb2:Below B w (wr.setCell ⟨gL,1,none⟩ (.int .i64 (aG y).1)):=hb.setCell (p:=⟨gL,1,none⟩) Xk _;have ER:Hid (∀W,Calls prog 234 #[.int .u8 y] W (R2 (.int .i64 (aG y).1) (.int .i64 0) W)):=zH (fun W=>by have:=HU.out W; rwa[HE.out]at this);clear hL HR HU hb hbs;generalize (aG y).1=uu at HL2 HR2 hb2 ER;go_wp2_with fail;refine(ER.out _).mono ?_;rintro e w2 ⟨rfl,rfl⟩;go_wp2_with fail;first
    | (go_roundw
       case rel=>exact⟨2,by omega,by go_num,zH ⟨fun _=>HO.out.1 (by omega),fun _=>HE.out,fun h=>by omega⟩,HR2,HL2,hb2⟩
       case measure=>simp[RowKit.intOf])
    | exact⟨⟨2,by omega,by go_num,zH ⟨fun _=>HO.out.1 (by omega),fun _=>HE.out,fun h=>by omega⟩,HR2,HL2,hb2⟩,by simp[RowKit.intOf]⟩
   ·have HE:=zH he;have HNO:=zH (D6 (x:=x) (y:=y) (z:=z) (by first | exact .inl he | exact .inr (.inl he) | exact .inr (.inr he)));clear he h3 HL hL;have hf:=HR.out.free;have hlt:=HR.out.lt;have q0:=HR.out.cell (i:=0) rfl;have q1:=HR.out.cell (i:=1) rfl;have q2:=HR.out.cell (i:=2) rfl;have HR2:Hid (MB (bg wr gR 0 (mc 0 0 0)) gR 0 0 0):=zH (HR.out.bg (mc 0 0 0) 0);have hb2:Below B w (bg wr gR 0 (mc 0 0 0)):=Below.bg OE (mc 0 0 0) 0 hb;rw[HB.out]at hb2;have jE:=zH hb2;have ER:Hid (∀W,Calls prog 234 #[.int .u8 y] W (R2 (.int .i64 (aG y).1) (.int .i64 2) W)):=zH (fun W=>by have:=HU.out W; rwa[HE.out]at this);clear HR HU hb hbs hb2;generalize (aG y).1=uu at ER;go_wp2_with fail;refine(ER.out _).mono ?_;rintro e w2 ⟨rfl,rfl⟩;go_wp2_with fail;have r0:=HR2.out.cell (i:=0) rfl;have r1:=HR2.out.cell (i:=1) rfl;have r2:=HR2.out.cell (i:=2) rfl;simp only[bg,Nat.zero_add,Nat.reduceAdd]at r0 r1 r2;exact zr (v:=.tuple #[iV 0 0 0,.int .i64 10]) (by simp[results,results148,go_sem,q0,q1,q2]) rfl (uM.no HNO.out jE.out rfl)
  by_cases h2:i=2
  ·subst h2;have HU:=zH (fun W=>vW z W b2 b2');have hL:Bx wr gL 325 (c3 2 (aG x).1 (aG y).1 (aG z).1):=HL.out;have hbs:=hb.size;rcases zY z with he | he
   ·have HE:=zH he;clear he h3 HL;have hf:=hL.free;have hlt:=hL.lt;have hq:wr.cell? ⟨gL,2,none⟩=some (.int .i64 0):=hL.cell (i:=2) rfl;have HL2:Hid (Bx (wr.setCell ⟨gL,2,none⟩ (.int .i64 (aG z).1)) gL 325 (c3 3 (aG x).1 (aG y).1 (aG z).1)):=zH (hL.set 2 _);have HR2:Hid (MB (wr.setCell ⟨gL,2,none⟩ (.int .i64 (aG z).1)) gR 0 0 0):=zH (HR.out.far (p:=⟨gL,2,none⟩) hne _);have hb2:Below B w (wr.setCell ⟨gL,2,none⟩ (.int .i64 (aG z).1)):=hb.setCell (p:=⟨gL,2,none⟩) Xk _;have ER:Hid (∀W,Calls prog 234 #[.int .u8 z] W (R2 (.int .i64 (aG z).1) (.int .i64 0) W)):=zH (fun W=>by have:=HU.out W; rwa[HE.out]at this);clear hL HR HU hb hbs;generalize (aG z).1=uu at HL2 HR2 hb2 ER;go_wp2_with fail;refine(ER.out _).mono ?_;rintro e w2 ⟨rfl,rfl⟩;go_wp2_with fail;first
    | (go_roundw
       case rel=>exact⟨3,by omega,by go_num,zH ⟨fun _=>HO.out.1 (by omega),fun _=>HO.out.2.1 (by omega),fun _=>HE.out⟩,HR2,HL2,hb2⟩
       case measure=>simp[RowKit.intOf])
    | exact⟨⟨3,by omega,by go_num,zH ⟨fun _=>HO.out.1 (by omega),fun _=>HO.out.2.1 (by omega),fun _=>HE.out⟩,HR2,HL2,hb2⟩,by simp[RowKit.intOf]⟩
   ·have HE:=zH he;have HNO:=zH (D6 (x:=x) (y:=y) (z:=z) (by first | exact .inl he | exact .inr (.inl he) | exact .inr (.inr he)));clear he h3 HL hL;have hf:=HR.out.free;have hlt:=HR.out.lt;have q0:=HR.out.cell (i:=0) rfl;have q1:=HR.out.cell (i:=1) rfl;have q2:=HR.out.cell (i:=2) rfl;have HR2:Hid (MB (bg wr gR 0 (mc 0 0 0)) gR 0 0 0):=zH (HR.out.bg (mc 0 0 0) 0);have hb2:Below B w (bg wr gR 0 (mc 0 0 0)):=Below.bg OE (mc 0 0 0) 0 hb;rw[HB.out]at hb2;have jE:=zH hb2;have ER:Hid (∀W,Calls prog 234 #[.int .u8 z] W (R2 (.int .i64 (aG z).1) (.int .i64 2) W)):=zH (fun W=>by have:=HU.out W; rwa[HE.out]at this);clear HR HU hb hbs hb2;generalize (aG z).1=uu at ER;go_wp2_with fail;refine(ER.out _).mono ?_;rintro e w2 ⟨rfl,rfl⟩;go_wp2_with fail;have r0:=HR2.out.cell (i:=0) rfl;have r1:=HR2.out.cell (i:=1) rfl;have r2:=HR2.out.cell (i:=2) rfl;simp only[bg,Nat.zero_add,Nat.reduceAdd]at r0 r1 r2;exact zr (v:=.tuple #[iV 0 0 0,.int .i64 10]) (by simp[results,results148,go_sem,q0,q1,q2]) rfl (uM.no HNO.out jE.out rfl)
  omega
end xA
end Go.Proofs.YtfnehkmhcmkhjaaGreat
