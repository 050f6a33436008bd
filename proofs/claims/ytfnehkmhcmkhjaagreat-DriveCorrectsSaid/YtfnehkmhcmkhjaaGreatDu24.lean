/- Parts -/
import Derived.Test.YtfnehkmhcmkhjaaGreatDu19
import Derived.Test.YtfnehkmhcmkhjaaGreatDu10
import Derived.Test.YtfnehkmhcmkhjaaGreatDu14
import Derived.Test.YtfnehkmhcmkhjaaGreatDu17
import Derived.Maps.OwnRows
import Derived.Maps.GroupsBeside
import Derived.ArgAppend
import Derived.Deep.Upon
set_option maxRecDepth 100000
set_option maxHeartbeats 8000000
set_option linter.unusedVariables false
namespace Go.Proofs.YtfnehkmhcmkhjaaGreat
open Tryz
namespace T7
open Go Go.RowKit
def AO(l:List UInt8)(k j:Nat):UInt8:=if 12<=j/\j<12+k then G.ix l j^^^Qb (j-12) 8 else G.ix l j
def AP(l:List UInt8)(k:Nat):List UInt8:=(List.range 2352).map (AO l k)
def sK(l:List UInt8):List UInt8:=AP l 2340
theorem jr(l:List UInt8)(k:Nat):(AP l k).length=2352:=by simp[AP]
theorem Dx(l:List UInt8)(k:Nat){j:Nat}(h:j<2352):(AP l k)[j]? = some (AO l k j):=by simp[AP,h]
theorem Dy(l:List UInt8)(k:Nat){j:Nat}(h:j<2352):G.ix (AP l k) j=AO l k j:=by unfold G.ix;rw[Ya,Dx l k h];rfl
theorem JS{l:List UInt8}(h:l.length=2352):AP l 0=l:=by
 apply YS;intro j;by_cases hj:j<2352
 ·rw[Dx l 0 hj];unfold AO;rw[zi (by omega),Ye (by omega)];unfold G.ix;rw[Ya,Ye (by omega)];rfl
 ·rw[Yh (by rw[jr];omega),Yh (by omega)]
theorem abb(l:List UInt8){k:Nat}(h:k<2340):(AP l k).set (12+k) (G.ix l (12+k)^^^Qb k 8)=AP l (k+1):=by
 apply YS;intro j;by_cases hj:j<2352
 ·rw[Dx l _ hj,YP];by_cases e:12+k=j
  ·rw[zj e,zj (by rw[jr];omega),<-e];unfold AO;rw[zj (by omega),show 12+k-12=k from by omega]
  ·rw[zi e,Dx l k hj];unfold AO;by_cases h2:12<=j/\j<12+k
   ·rw[zj h2,zj (by omega)]
   ·rw[zi h2,zi (by omega)]
 ·rw[Yh (by rw[Yu,jr];omega),Yh (by rw[jr];omega)]
theorem aeL(l:List UInt8){k:Nat}(h:k<2340):G.ix (AP l k) (12+k)=G.ix l (12+k):=by rw[Dy l k (by omega)];unfold AO;rw[zi (by omega)]
theorem zg(l:List UInt8):(sK l).length=2352:=jr l _
theorem abd{l:List UInt8}(h:l.length=2352):sK (sK l)=l:=by
 conv=>rhs;rw[<-JS h]
 unfold sK;refine Xo λj hj=>?_
 have hj:=Yx.1 hj;show AO (AP l 2340) 2340 j=AO l 0 j;unfold AO;rw[Dy l 2340 hj];unfold AO;by_cases h2:12<=j/\j<12+2340
 ·rw[zj h2,zj h2,zi (by omega),UInt8.xor_assoc,UInt8.xor_self,UInt8.xor_zero]
 ·rw[zi h2,zi h2,zi (by omega)]
theorem aj3{k:Nat}(h:k<2340):(bs (xh 2340))[k]? = some (B (Qb k 8)):=by simp[bs,xh,h]
theorem zk(l:List UInt8)(hl:l.length=2352)(w:World):
 Calls prog 69 #[.string (str l)] w λe w'=>e=.returned (.tuple #[.string (str (sK l)),.int .i64 0])/\Below w.heap.size w w':=by
 obtain⟨s,hs⟩:∃s,s=str l:=⟨_,rfl⟩;have hsz:s.size=2352:=by rw[hs,au,hl]
 have hsd:s.data.toList=l:=by rw[hs];rfl
 have HK0:=zH (JS hl);have HSD:=zH hsd;have HSZ:=zH hsz;have HSQ:=zH (λW=>Ny 2340 (by omega) (by omega) W);rw[<-hs];clear hs hsd hl;have q0:(((2352:Nat):Int) != 2352)=false:=rfl;go_enter func69,ntmps69;go_upto_region 4 with (first
  | (refine gZ rfl _ rfl underlying9 underlying65 underlying5 rfl ?_
     intro w1 cap hr1 hb1 hcap1)
  |fail)
 rw[HSD.out,<-HK0.out]at hr1;obtain⟨g,hg⟩:∃g,g=w.heap.size:=⟨_,rfl⟩;have HGW:=zH hg;rw[<-hg]at hr1 ⊢;have HR1:=zH hr1;have HB1:=zH hb1;clear hr1 hb1 hcap1 hg;go_wp2_with fail;refine(HSQ.out w1).mono ?_;rintro e w2 ⟨gk,rfl,hgk,hxk,hb2⟩;have HR2:=zH (HR1.out.below hb2);have HB2:=zH (HB1.out.trans (hb2.mono HB1.out.size));have CX:=zH hxk;have apc:g<gk:=zL HR1.out.lt hgk;clear hb2 hxk hgk;go_wp2_with fail
 go_loopw [13] (λvk wr=>∃k:Nat,k<=2340/\vk=.int .i64 (k:Nat)/\Row wr 5 g cap (AP l k)/\Bx wr gk 5 (bs (xh 2340))/\Below w.heap.size w wr) (λvk _=>2340-(RowKit.intOf vk).toNat)
 case atStart=>exact⟨0,by omega,rfl,HR2.out,CX.out,HB2.out⟩
 case round=>
  obtain⟨k,hk,rfl,hr,hx,hb⟩:=hrel;have HX:=zH hx;have HB:=zH hb;have HR:=zH hr;by_cases hlt:k<2340
  ·have hc:=hr.cell (12+k) (by rw[jr];omega);rw[aeL l hlt]at hc;have hf:=hr.frozen (12+k) (by have:=hr.le;rw[jr]at this;omega);have hkc:=hx.cell (aj3 hlt);have hst:=hr.store (12+k) (G.ix l (12+k)^^^Qb k 8) (by rw[jr];omega);rw[abb l hlt]at hst;obtain⟨x,hxx⟩:∃x,x=G.ix l (12+k):=⟨_,rfl⟩;obtain⟨y,hyy⟩:∃y,y=Qb k 8:=⟨_,rfl⟩;rw[<-hxx]at hc hst;rw[<-hyy]at hkc hst;have hw1:IntKind.i64.wrap (12+(k:Int))=12+(k:Int):=IntWalk.i64_in _ (by omega);have hix:=λw'=>aB underlying65 sizeU8s (a:=some ⟨g,0,none⟩) (n:=2352) (cap:=cap) (k:=12+k) (b:=g) (off:=0) rfl (by omega) (12+(k:Int)) (by omega) w'
   have hix2:=λw'=>aB underlying65 sizeU8s (a:=some ⟨gk,0,none⟩) (n:=2340) (cap:=2340) (k:=k) (b:=gk) (off:=0) rfl hlt (k:Int) rfl w'
   simp only[Yy,Yf]at hix hix2;have hxb:Value.int .u8 (bits .xor .u8 (x.toNat:Int) (y.toNat:Int))=B (x^^^y):=Yp (Value.int .u8) (GH x y);have HXB:=zH hxb;have HST:Hid (Row (wr.setCell ⟨g,12+k,none⟩ (B (x^^^y))) 5 g cap (AP l (k+1))):=zH hst;clear hr hx hb hst hxx hyy hxb;go_upto_region 8 with (fail)
   go_still_tail 11,(by kernel_rfl);repeat still_step
   change wpList _ _ _ _ _ wr.drew;go_wp2_with fail;rw[HXB.out];have hdr:=(zB (wr.setCell ⟨g,12+k,none⟩ (B (x^^^y))).heap.size (wr.setCell ⟨g,12+k,none⟩ (B (x^^^y)))).drew;have HE1:=zH (HST.out.below hdr);have HE2:=zH ((HX.out.far (p:=⟨g,12+k,none⟩) (by simp only;omega) (B (x^^^y))).call hdr);have HE3:=zH ((HB.out.setCell (p:=⟨g,12+k,none⟩) (by rw[HGW.out];exact zl _) (B (x^^^y))).drew);go_roundw;case rel=>exact⟨k+1,by omega,by go_num,HE1.out,HE2.out,HE3.out⟩
   case measure=>simp[RowKit.intOf];omega
  ·obtain rfl:k=2340:=by omega
   have hrd:=hr.rd (by rw[jr];omega);rw[jr]at hrd;have hcx:=eX (P:=prog) underlying65 underlying5 underlying9 hrd;clear hr hx hb hrd;go_wp2_with fail;go_ret2;exact⟨rfl,HB.out⟩
end T7
namespace T7
open Go Go.RowKit Ih
theorem Gj{P:Program}{t:TypeId}(ht:P.underlying t=some .string)(l:List UInt8)(lo hi:Nat)(h1:lo<=hi)(h2:hi<=l.length)(x y:Int)(hx:x=lo)(hy:y=hi)(w:World):
 (Instr.slice t (.string (str l)) (some (.int .i64 x)) (some (.int .i64 y)) none).run P w=.ok (.string (str ((l.drop lo).take (hi-lo)))) w:=by
 subst hx hy;have e:(str l).extract lo hi=str ((l.drop lo).take (hi-lo)):=by apply ByteArray.ext;rw[ByteArray.data_extract];simp[str]
 simp[Instr.slice,YH ht,Instr.sliceBounds,run_sliceBound,au,h2,h1,e]
theorem aeX{P:Program}{t:TypeId}(ht:P.underlying t=some .string)(l:List UInt8)(lo:Nat)(h1:lo<=l.length)(x:Int)(hx:x=lo)(w:World):
 (Instr.slice t (.string (str l)) (some (.int .i64 x)) none none).run P w=.ok (.string (str (l.drop lo))) w:=by
 subst hx;have e:(str l).extract lo l.length=str (l.drop lo):=by apply ByteArray.ext;rw[ByteArray.data_extract];simp[str];exact YE (by simp)
 simp[Instr.slice,YH ht,Instr.sliceBounds,run_sliceBound,au,h1,e]
theorem Gl{P:Program}{t:TypeId}(ht:P.underlying t=some .string)(l:List UInt8)(hi:Nat)(h2:hi<=l.length)(y:Int)(hy:y=hi)(w:World):
 (Instr.slice t (.string (str l)) none (some (.int .i64 y)) none).run P w=.ok (.string (str (l.take hi))) w:=by
 subst hy;have e:(str l).extract 0 hi=str (l.take hi):=by apply ByteArray.ext;rw[ByteArray.data_extract];simp[str]
 simp[Instr.slice,YH ht,Instr.sliceBounds,run_sliceBound,au,h2,e]
theorem ahQ(l m:List UInt8):str l++str m=str (l++m):=by apply ByteArray.ext;simp[str]
def oU:List UInt8:=[0,255,255,255,255,255,255,255,255,255,255,0]
def syV:List Value:=bs oU
def sw:Nat->Array Value
 |0=>Array.replicate 12 (.int .u8 0)
 |k+1=>if k=0 then sw 0 else(sw k).setIfInBounds k (.int .u8 255)
theorem NH:∀k,(sw k).size=12
 |0=>by simp[sw]
 | k+1=>by
   rw[sw];split
   ·simp[sw]
   ·rw[Array.size_setIfInBounds,NH k]
theorem ahR(k i:Nat)(h:i<12):∃v,(sw k)[i]? = some v:=by
 have:i<(sw k).size:=by rw[NH];exact h
 exact⟨_,XK this⟩
theorem akp:sw 11=syV.toArray:=by kernel_rfl
theorem ah8:∀w,(zeroValue 239).run prog w=.ok (.agg (sw 0)) w:=λ_=>by kernel_rfl
theorem Rk(w:World):Calls prog 138 #[] w λe w'=>e=.returned (.agg syV.toArray)/\Below w.heap.size w w':=by
 have hz:=ah8;go_enter func138,ntmps138;go_wp2_with fail;have h0:((w.alloc (.cells (sw 0) 239)).alloc (.cells (sw 0) 239)).heap[w.heap.size]? = some (.cells (sw 0) 239):=heap_alloc2_old _ _ _;have h1:((w.alloc (.cells (sw 0) 239)).alloc (.cells (sw 0) 239)).heap[w.heap.size+1]? = some (.cells (sw 0) 239):=heap_alloc2_new _ _ _;have h2:Below w.heap.size w ((w.alloc (.cells (sw 0) 239)).alloc (.cells (sw 0) 239)):=((zB _ _).alloc (zl _) _).alloc (by simp) _;generalize (w.alloc (.cells (sw 0) 239)).alloc (.cells (sw 0) 239)=w1 at h0 h1 h2 ⊢;clear hz
 go_loopw [2] (λvk wr=>∃k:Nat,1<=k/\k<=11/\vk=.int .i64 k/\wr.heap[w.heap.size]? = some (.cells (sw 0) 239)/\wr.heap[w.heap.size+1]? = some (.cells (sw k) 239)/\Below w.heap.size w wr) (λvk _=>11-(RowKit.intOf vk).toNat)
 case atStart=>exact⟨1,by omega,by omega,rfl,h0,(by rw[show sw 1=sw 0 from by simp[sw]];exact h1),h2⟩
 case round=>
  obtain⟨k,hk1,hk,rfl,g0,g1,g2⟩:=hrel;clear h0 h1 h2;by_cases hlt:k<11
  ·obtain⟨v,hv⟩:=ahR k k (by omega);have hc:wr.cell? ⟨w.heap.size+1,k,none⟩=some v:=by rw[Xd wr _ k _ _ _ g1];exact hv
   have hf:=frozen_of_row wr _ k _ _ g1;clear hv;have G0:=zH g0;have G1:=zH g1;clear g0 g1;have hk12:k<12:=by omega
   go_wp2_with fail;go_roundw;case rel=>
    refine⟨k+1,by omega,by omega,by go_num,?_,?_,g2.setCell (by simp) _⟩
    ·rw[heap_setCell_other _ _ _ _ (by simp)];exact G0.out
    ·rw[sw,zi (by omega)];exact heap_setCell_same _ _ _ _ _ _ G1.out
   case measure=>simp[RowKit.intOf];omega
  ·obtain rfl:k=11:=by omega
   rw[akp]at g1;have G0:=zH g0;have G1:=zH g1;clear g0 g1;have hi:(prog.info? 239).map (·.size)=some syV.toArray.size:=by kernel_rfl
   have h1:syV.toArray.all (·.oneCell')=true:=by kernel_rfl
   go_wp2_with (first|(refine wpList_load_row rfl 239 _ rfl _ rfl 239 _ _ _ G1.out underlying239 rfl hi ?_)|(refine XZ rfl 239 _ _ rfl w.heap.size syV.toArray rfl rfl 239 _ G0.out hi (by rw[NH];rfl) h1 ?_));exact zr (v:=.agg syV.toArray) (results_cell_row rfl _ _ w.heap.size 239 syV.toArray (0,0) _ rfl (XP _ _ _ _ _ _ G0.out) underlying239 rfl hi) rfl ⟨rfl,Below.setRow g2 (zl _) _⟩
def Qe:Value:=.agg #[.int .u8 1,.int .i64 16,.int .i64 2048,.int .i64 0]
theorem Je(w:World):Calls prog 147 #[Qe] w λe w'=>e=.returned (.int .i64 2064)/\Below w.heap.size w w':=by unfold Qe;go_enter func147,ntmps147;go_wp2_with fail;go_ret;exact⟨rfl,(zB _ _).alloc (zl _) _⟩
theorem uT(w:World):Calls prog 135 #[.int .i64 0] w λe w'=>e=.returned (.tuple #[Qe,.bool true])/\Below w.heap.size w w':=by unfold Qe;go_enter func135,ntmps135;go_wp2_with fail;refine zr (v:=.tuple #[.agg #[.int .u8 1,.int .i64 16,.int .i64 2048,.int .i64 0],.bool true]) (by simp[results,results135,go_sem]) rfl ⟨rfl,((zB _ _).alloc (zl _) _).alloc (by simp) _⟩
theorem add_any(p l:List UInt8)(g:Nat)(w:World)(hx:Bx w g 9 [.string (str l)])(hl:l.length+p.length<=1000000):
 Calls prog 139 #[.string (str p),.pointer (some ⟨g,0,none⟩)] w λe w'=>e=.returned (.tuple #[])/\w'=w.setCell ⟨g,0,none⟩ (.string (str (l++p))):=by
 have c0:=hx.cell (i:=0) rfl;have f0:=hx.free 0;have HS:Hid (str l++str p=str (l++p)):=zH (ahQ _ _);have h1:=au l;have h2:=au p;go_enter func139,ntmps139;go_wp2_with fail;rw[HS.out];go_end0;exact⟨rfl,rfl⟩
def Q5(aj:Int)(d:List UInt8):Value:=.agg #[.int .i64 aj,.int .i64 0,.int .i64 0,.int .i64 0,.int .i64 0,.int .i64 0,.string (str d)]
theorem aeY(aj:Int)(d:List UInt8)(w:World)(h0:-150<=aj)(h1:aj<=449849)(hd:d.length=2048):
 Calls prog 134 #[Q5 aj d] w λe w'=>e=.returned (.bool true)/\Below w.heap.size w w':=by
 have hA:=(zB w.heap.size w).alloc (zl _) (.cells #[.int .i64 aj,.int .i64 0,.int .i64 0,.int .i64 0,.int .i64 0,.int .i64 0,.string (str d)] 157);have hx:=Bx.new w 157 [.int .i64 aj,.int .i64 0,.int .i64 0,.int .i64 0,.int .i64 0,.int .i64 0,.string (str d)];change Bx (w.alloc (.cells #[.int .i64 aj,.int .i64 0,.int .i64 0,.int .i64 0,.int .i64 0,.int .i64 0,.string (str d)] 157)) _ _ _ at hx;have hsz:=au d;rw[hd]at hsz;have hsz2:(str d).data.size=2048:=hsz;have HM:=zH (λW=>Rl aj W h0 h1);have HL:=zH uT;unfold Qe at HL;unfold Q5;obtain⟨S,hS⟩:∃S,S=str d:=⟨_,rfl⟩;rw[<-hS]at hA hx hsz hsz2 ⊢;clear hS;obtain⟨b,hb⟩:∃b,b=w.heap.size:=⟨_,rfl⟩;have HB:=zH hb;rw[<-hb]at hx;have HX:=zH hx;have HA:=zH hA;have c0:=hx.cell (i:=0) rfl;have c1:=hx.cell (i:=1) rfl;clear hA hx hb;go_enter func134,ntmps134;go_upto_region 1 with (fail)
 rw[<-HB.out];generalize w.alloc (.cells #[.int .i64 aj,.int .i64 0,.int .i64 0,.int .i64 0,.int .i64 0,.int .i64 0,.string S] 157)=w1 at *;go_wp2_with fail;refine(HL.out w1).mono ?_;rintro e w2 ⟨rfl,hb2⟩;have CX:=zH ((HX.out.call hb2).alloc (.cells #[.int .u8 1,.int .i64 16,.int .i64 2048,.int .i64 0] 231));have HA2:=zH ((HA.out.trans (hb2.mono HA.out.size)).alloc (by have:=HA.out.size;have:=hb2.size;omega) (.cells #[.int .u8 1,.int .i64 16,.int .i64 2048,.int .i64 0] 231));have hl2:=Bx.new w2 231 [.int .u8 1,.int .i64 16,.int .i64 2048,.int .i64 0];change Bx (w2.alloc (.cells #[.int .u8 1,.int .i64 16,.int .i64 2048,.int .i64 0] 231)) _ _ _ at hl2;obtain⟨lb,hlb⟩:∃lb,lb=w2.heap.size:=⟨_,rfl⟩;have HLB:=zH hlb;rw[<-hlb]at hl2;have HL2:=zH hl2;clear hb2 hl2 hlb c0 c1;have c0:=CX.out.cell (i:=0) rfl;go_upto_region 2 with (fail)
 rw[<-HLB.out];generalize w2.alloc (.cells #[.int .u8 1,.int .i64 16,.int .i64 2048,.int .i64 0] 231)=w3 at *;go_wp2_with fail;refine(HM.out w3).mono ?_;rintro e w4 ⟨rfl,hb4⟩;have hm:(adU (aj+150))=.agg #[.int .i64 (Q.mM (aj+150)),.int .i64 (Q.mS (aj+150)),.int .i64 (Q.mF (aj+150))]:=rfl;rw[hm];have Aa:=zH ((CX.out.call hb4).alloc (.cells #[.int .i64 (Q.mM (aj+150)),.int .i64 (Q.mS (aj+150)),.int .i64 (Q.mF (aj+150))] 235));have HL4:=zH ((HL2.out.call hb4).alloc (.cells #[.int .i64 (Q.mM (aj+150)),.int .i64 (Q.mS (aj+150)),.int .i64 (Q.mF (aj+150))] 235));have HA4:=zH ((HA2.out.trans (hb4.mono HA2.out.size)).alloc (by have:=HA2.out.size;have:=hb4.size;omega) (.cells #[.int .i64 (Q.mM (aj+150)),.int .i64 (Q.mS (aj+150)),.int .i64 (Q.mF (aj+150))] 235));clear hb4 c0 hm;have c1:=Aa.out.cell (i:=1) rfl;have c2:=Aa.out.cell (i:=2) rfl;have c3:=Aa.out.cell (i:=3) rfl;have c4:=Aa.out.cell (i:=4) rfl;have c5:=Aa.out.cell (i:=5) rfl;have c6:=Aa.out.cell (i:=6) rfl;have l2:=HL4.out.cell (i:=2) rfl;go_wp2_with fail;go_ret;exact⟨rfl,HA4.out⟩
theorem OY(l:List UInt8)(hl:l.length<=1000000)(w:World):Calls prog 140 #[.string (str l),.int .i64 0] w λe w'=>e=.returned (.string (str (mD (uJ 0 l))))/\Below w.heap.size w w':=by
 have hlt:uJ 0 l<4294967296:=TC (by omega) l;have HE:Hid (∀W,Calls prog 227 #[.string (str l)] W λe w'=>e=.returned (.int .u32 (uJ 0 l:Nat))/\Below W.heap.size W w'):=zH (λW=>af7 (str l) W (by rw[au];exact hl));have HC:=zH (λW=>Lp (uJ 0 l) W hlt);have hsl:∀W,(Instr.slice 9 (.string (str l)) (some (.int .i64 0)) none none).run prog W=.ok (.string (str l)) W:=λW=>by have h:=aeX (P:=prog) underlying9 l 0 (by omega) 0 rfl W;rwa[List.drop_zero]at h
 generalize uJ 0 l=c at *;generalize str l=S at *;go_enter func140,ntmps140;go_wp2_with fail;refine(HE.out w).mono ?_;rintro e w1 ⟨rfl,hb1⟩;go_wp2_with fail;refine(HC.out w1).mono ?_;rintro e w2 ⟨rfl,hb2⟩;have HB:=zH (hb1.trans (hb2.mono hb1.size));clear hb1 hb2;go_wp2_with fail;go_ret;exact⟨rfl,HB.out⟩
def nD(aj:Int):List UInt8:=CY (Q.mM (aj+150)) (Q.mS (aj+150)) (Q.mF (aj+150))
theorem sV(aj:Int):(nD aj).length=3:=rfl
def eY(aj:Int)(d:List UInt8):List UInt8:=((oU++nD aj)++[1])++d
def OG(aj:Int)(d:List UInt8):List UInt8:=(eY aj d++mD (uJ 0 (eY aj d)))++List.replicate 284 0
theorem pV(aj:Int){d:List UInt8}(h:d.length=2048):(eY aj d).length=2064:=by simp[eY,sV,oU,h]
theorem qg(c:Nat):(mD c).length=4:=rfl
theorem qP(aj:Int){d:List UInt8}(h:d.length=2048):(OG aj d).length=2352:=by unfold OG;rw[Yb,Yb,pV aj h,qg,Yq]
theorem Dq{aj:Int}(h0:-150<=aj)(h1:aj<=449849):okA (Q.mM (aj+150)) (Q.mS (aj+150)) (Q.mF (aj+150)):=by unfold okA Q.mM Q.mS Q.mF;omega
theorem VN(aj:Int)(d:List UInt8)(w:World)(h0:-150<=aj)(h1:aj<=449849)(hd:d.length=2048):
 Calls prog 70 #[Q5 aj d] w λe w'=>e=.returned (.tuple #[.string (str (OG aj d)),.int .i64 0])/\Below w.heap.size w w':=by
 have HV:=zH (λW=>aeY aj d W h0 h1 hd);have HL:=zH uT;have HM:=zH (λW=>Rl aj W h0 h1);have HE:=zH (λW=>abX _ _ _ W (Dq h0 h1));have HS:=zH Rk;have hm:(adU (aj+150))=.agg #[.int .i64 (Q.mM (aj+150)),.int .i64 (Q.mS (aj+150)),.int .i64 (Q.mF (aj+150))]:=rfl;have hm2:jK (Q.mM (aj+150)) (Q.mS (aj+150)) (Q.mF (aj+150))=.agg #[.int .i64 (Q.mM (aj+150)),.int .i64 (Q.mS (aj+150)),.int .i64 (Q.mF (aj+150))]:=rfl;rw[hm]at HM;rw[hm2]at HE;change Hid (∀W,Calls _ _ _ W (R2B (.string (str (nD aj))) (.int .i64 0) W)) at HE;clear hm hm2;generalize hqm:Q.mM (aj+150)=qm at *;generalize hqs:Q.mS (aj+150)=qs at *;generalize hqf:Q.mF (aj+150)=qf at *;clear hqm hqs hqf;unfold Qe at HL;unfold Q5 at HV ⊢;have hsv:syV = [.int .u8 0,.int .u8 255,.int .u8 255,.int .u8 255,.int .u8 255,.int .u8 255,.int .u8 255,.int .u8 255,.int .u8 255,.int .u8 255,.int .u8 255,.int .u8 0]:=by kernel_rfl
 have KG:=zH hsv;rw[hsv]at HS;clear hsv;obtain⟨w1,hw1⟩:∃w1,w1=w.alloc (.cells #[.int .i64 aj,.int .i64 0,.int .i64 0,.int .i64 0,.int .i64 0,.int .i64 0,.string (str d)] 157):=⟨_,rfl⟩;have hA:=(zB w.heap.size w).alloc (zl _) (.cells #[.int .i64 aj,.int .i64 0,.int .i64 0,.int .i64 0,.int .i64 0,.int .i64 0,.string (str d)] 157);obtain⟨b,hb⟩:∃b,b=w.heap.size:=⟨_,rfl⟩;have hx:Bx w1 b 157 [.int .i64 aj,.int .i64 0,.int .i64 0,.int .i64 0,.int .i64 0,.int .i64 0,.string (str d)]:=by rw[hw1,hb];exact Bx.new w _ _
 rw[<-hw1]at hA;have HB:=zH hb;have HW1:Hid (w.alloc (.cells #[.int .i64 aj,.int .i64 0,.int .i64 0,.int .i64 0,.int .i64 0,.int .i64 0,.string (str d)] 157)=w1):=zH hw1.symm;have HX1:=zH hx;have HA1:=zH hA;have c0:=hx.cell (i:=0) rfl;have c1:=hx.cell (i:=1) rfl;have c2:=hx.cell (i:=2) rfl;have c3:=hx.cell (i:=3) rfl;have c4:=hx.cell (i:=4) rfl;have c5:=hx.cell (i:=5) rfl;have c6:=hx.cell (i:=6) rfl;clear hw1 hA hb hx;go_enter func70,ntmps70;go_upto_region 1 with (fail)
 rw[HW1.out,<-HB.out];go_wp2_with fail;refine(HV.out w1).mono ?_;rintro e w2 ⟨rfl,hb2⟩;have CX:=zH (HX1.out.call hb2);have HA2:=zH (HA1.out.trans (hb2.mono HA1.out.size));clear hb2 c0 c1 c2 c3 c4 c5 c6;have c1:=CX.out.cell (i:=1) rfl;go_wp2_with fail;refine(HL.out w2).mono ?_;rintro e w3 ⟨rfl,hb3⟩;obtain⟨lb,hlb⟩:∃lb,lb=w3.heap.size:=⟨_,rfl⟩;obtain⟨w4,hw4⟩:∃w4,w4=w3.alloc (.cells #[.int .u8 1,.int .i64 16,.int .i64 2048,.int .i64 0] 231):=⟨_,rfl⟩;have xy:=(zB w3.heap.size w3).alloc (zl _) (.cells #[.int .u8 1,.int .i64 16,.int .i64 2048,.int .i64 0] 231);rw[<-hw4]at xy;have hb4:=hb3.trans (xy.mono hb3.size);have HL4:Hid (Bx w4 lb 231 [.int .u8 1,.int .i64 16,.int .i64 2048,.int .i64 0]):=zH (by rw[hw4,hlb];exact Bx.new w3 _ _);have Aa:=zH (CX.out.call hb4);have HA4:=zH (HA2.out.trans (hb4.mono HA2.out.size));have Ie:Hid (w3.alloc (.cells #[.int .u8 1,.int .i64 16,.int .i64 2048,.int .i64 0] 231)=w4):=zH hw4.symm;have HLB:=zH hlb;clear hb3 xy hb4 hw4 hlb c1;go_upto_region 4 with (fail)
 rw[Ie.out,<-HLB.out];have c0:=Aa.out.cell (i:=0) rfl;go_wp2_with fail;refine(HM.out w4).mono ?_;rintro e w5 ⟨rfl,hb5⟩;obtain⟨mb,hmb⟩:∃mb,mb=w5.heap.size:=⟨_,rfl⟩;obtain⟨w6,hw6⟩:∃w6,w6=w5.alloc (.cells #[.int .i64 qm,.int .i64 qs,.int .i64 qf] 235):=⟨_,rfl⟩;have Uc:=(zB w5.heap.size w5).alloc (zl _) (.cells #[.int .i64 qm,.int .i64 qs,.int .i64 qf] 235);rw[<-hw6]at Uc;have hb6:=hb5.trans (Uc.mono hb5.size);have hm6:Bx w6 mb 235 [.int .i64 qm,.int .i64 qs,.int .i64 qf]:=by rw[hw6,hmb];exact Bx.new w5 _ _
 have RH:=zH (Aa.out.call hb6);have HL6:=zH (HL4.out.call hb6);have HA6:=zH (HA4.out.trans (hb6.mono HA4.out.size));have HW6:Hid (w5.alloc (.cells #[.int .i64 qm,.int .i64 qs,.int .i64 qf] 235)=w6):=zH hw6.symm;have HMB:=zH hmb;clear hb5 Uc hb6 hw6 hmb c0;go_upto_region 5 with (fail)
 rw[HW6.out,<-HMB.out];have c0:=hm6.cell (i:=0) rfl;have c1:=hm6.cell (i:=1) rfl;have c2:=hm6.cell (i:=2) rfl;clear hm6;go_wp2_with fail;refine(HE.out w6).mono ?_;rintro e w7 ⟨rfl,hb7⟩;clear c0 c1 c2;have Ou:=zH (RH.out.call hb7);have HL7:=zH (HL6.out.call hb7);have HA7:=zH (HA6.out.trans (hb7.mono HA6.out.size));clear hb7;go_wp2_with fail;refine(HS.out w7).mono ?_;rintro e w8 ⟨rfl,hb8⟩;have HX8:=zH (Ou.out.call hb8);have HL8:=zH (HL7.out.call hb8);have HA8:=zH (HA7.out.trans (hb8.mono HA7.out.size));clear hb8;go_upto_region 7 with (fail)
 obtain⟨fb,hfb⟩:∃fb,fb=w8.heap.size:=⟨_,rfl⟩;obtain⟨w9,Md⟩:∃w9,w9=w8.alloc (.cells #[.int .u8 0,.int .u8 255,.int .u8 255,.int .u8 255,.int .u8 255,.int .u8 255,.int .u8 255,.int .u8 255,.int .u8 255,.int .u8 255,.int .u8 255,.int .u8 0] 239):=⟨_,rfl⟩;have hA9:=(zB w8.heap.size w8).alloc (zl _) (.cells #[.int .u8 0,.int .u8 255,.int .u8 255,.int .u8 255,.int .u8 255,.int .u8 255,.int .u8 255,.int .u8 255,.int .u8 255,.int .u8 255,.int .u8 255,.int .u8 0] 239);rw[<-Md]at hA9;have hf9:Bx w9 fb 239 (bs oU):=by rw[show bs oU=syV from rfl,KG.out,Md,hfb];exact Bx.new w8 _ _
 have hrd:Rd w9 (.slice (some ⟨fb,0,none⟩) 12 12) oU:=⟨by decide,some ⟨fb,0,none⟩,12,fb,0,rfl,by decide,λi hi=>⟨rfl,by rw[Yf];exact hf9.cell (jh hi)⟩⟩;have hcv:=eX (P:=prog) underlying65 underlying5 underlying9 hrd;have HX9:=zH (HX8.out.call hA9);have HL9:=zH (HL8.out.call hA9);have HA9:=zH (HA8.out.trans (hA9.mono HA8.out.size));have HF9:=zH hf9;rw[<-Md,<-hfb];clear hA9 hf9 hrd Md hfb;obtain⟨rb,hrb⟩:∃rb,rb=w9.heap.size:=⟨_,rfl⟩;obtain⟨w10,agE⟩:∃w10,w10=w9.alloc (.cells #[.string (str oU)] 9):=⟨_,rfl⟩;have hA10:=(zB w9.heap.size w9).alloc (zl _) (.cells #[.string (str oU)] 9);rw[<-agE]at hA10;have ame:Bx w10 rb 9 [.string (str oU)]:=by rw[agE,hrb];exact Bx.new w9 _ _
 have akY:=zH ame;have Ig:=zH (HX9.out.call hA10);have anz:=zH (HL9.out.call hA10);have am2:=zH (HA9.out.trans (hA10.mono HA9.out.size));have anQ:Hid (w9.alloc (.cells #[.string (str oU)] 9)=w10):=zH agE.symm;have HRB:=zH hrb;have hbr:b<rb:=by rw[hrb];exact HX9.out.lt
 have hlr:lb<rb:=by rw[hrb];exact HL9.out.lt
 have hwr:w.heap.size<=rb:=by rw[hrb];exact HA9.out.size
 clear hA10 ame agE hrb;go_upto_region 8 with (fail)
 rw[anQ.out,<-HRB.out];have wB:=zH (add_any (nD aj) oU rb w10 akY.out (by rw[sV];decide));go_wp2_with fail;refine wB.out.mono ?_;rintro e w' ⟨rfl,rfl⟩;have hr:=akY.out.set 0 (.string (str (oU++(nD aj))));rw[List.set_cons_zero]at hr;have anR:=zH (Ig.out.far (p:=⟨rb,0,none⟩) (by simp only;omega) (.string (str (oU++(nD aj)))));have akU:=zH (anz.out.far (p:=⟨rb,0,none⟩) (by simp only;omega) (.string (str (oU++(nD aj)))));have akz:=zH (am2.out.setCell (p:=⟨rb,0,none⟩) hwr (.string (str (oU++(nD aj)))));generalize w10.setCell ⟨rb,0,none⟩ (.string (str (oU++(nD aj))))=Zg at *;have anH:=zH hr;clear hr wB;obtain⟨w12,agF⟩:∃w12,w12=Zg.alloc (.cells #[.int .u8 1] 5):=⟨_,rfl⟩;have aac:=(zB Zg.heap.size Zg).alloc (zl _) (.cells #[.int .u8 1] 5);rw[<-agF]at aac;have hrd:=Rd.lit Zg [1] 5 (by decide);have hcv2:=eX (P:=prog) underlying65 underlying5 underlying9 hrd;change (convert 65 9 (.slice (some ⟨Zg.heap.size,0,none⟩) 1 1)).run prog (Zg.alloc (.cells #[.int .u8 1] 5))=.ok (.string (str [1])) (Zg.alloc (.cells #[.int .u8 1] 5)) at hcv2;have anS:=zH (anR.out.call aac);have anA:=zH (akU.out.call aac);have akZ:=zH (anH.out.call aac);have am3:=zH (akz.out.trans (aac.mono akz.out.size));have l0:=akU.out.cell (i:=0) rfl;clear aac hrd;have wB:=zH (add_any [1] (oU++nD aj) rb w12 akZ.out (by simp only[Yb,sV,Yn,YC,show oU.length=12 from rfl];omega));rw[agF]at wB;go_wp2_with fail;refine wB.out.mono ?_;rintro e w' ⟨rfl,rfl⟩;have hr:=akZ.out.set 0 (.string (str ((oU++nD aj)++[1])));rw[List.set_cons_zero]at hr;have aiY:=zH (anS.out.far (p:=⟨rb,0,none⟩) (by simp only;omega) (.string (str ((oU++nD aj)++[1]))));have anB:=zH (anA.out.far (p:=⟨rb,0,none⟩) (by simp only;omega) (.string (str ((oU++nD aj)++[1]))));have am4:=zH (am3.out.setCell (p:=⟨rb,0,none⟩) hwr (.string (str ((oU++nD aj)++[1]))));rw[<-agF];generalize w12.setCell ⟨rb,0,none⟩ (.string (str ((oU++nD aj)++[1])))=w13 at *;have ak0:=zH hr;clear hr wB;clear hcv2 l0 agF hcv;have c1:=aiY.out.cell (i:=1) rfl;have c6:=aiY.out.cell (i:=6) rfl;have wB:=zH (add_any d ((oU++nD aj)++[1]) rb w13 ak0.out (by simp only[Yb,sV,hd,Yn,YC,show oU.length=12 from rfl];omega));go_wp2_with fail;refine wB.out.mono ?_;rintro e w' ⟨rfl,rfl⟩;have hr:=ak0.out.set 0 (.string (str (((oU++nD aj)++[1])++d)));rw[List.set_cons_zero]at hr;have anT:=zH (aiY.out.far (p:=⟨rb,0,none⟩) (by simp only;omega) (.string (str (((oU++nD aj)++[1])++d))));have akV:=zH (anB.out.far (p:=⟨rb,0,none⟩) (by simp only;omega) (.string (str (((oU++nD aj)++[1])++d))));have akA:=zH (am4.out.setCell (p:=⟨rb,0,none⟩) hwr (.string (str (((oU++nD aj)++[1])++d))));generalize w13.setCell ⟨rb,0,none⟩ (.string (str (((oU++nD aj)++[1])++d)))=w14 at *;have aiT:=zH hr;clear hr wB;clear c1 c6;change Hid (Bx w14 rb 9 [.string (str (eY aj d))]) at aiT;have hbl:=pV aj hd;have HCO:=zH (λW=>OY (eY aj d) (by omega) W);have r0:=aiT.out.cell (i:=0) rfl;have l3:=akV.out.cell (i:=3) rfl;go_wp2_with fail;refine(HCO.out w14).mono ?_;rintro e w15 ⟨rfl,ac4⟩;have ak1:=zH (aiT.out.call ac4);have anU:=zH (anT.out.call ac4);have anC:=zH (akV.out.call ac4);have am5:=zH (akA.out.trans (ac4.mono akA.out.size));clear ac4 r0 l3;have wB:=zH (add_any (mD (uJ 0 (eY aj d))) (eY aj d) rb w15 ak1.out (by rw[qg,hbl];decide));go_wp2_with fail;refine wB.out.mono ?_;rintro e w' ⟨rfl,rfl⟩;have hr:=ak1.out.set 0 (.string (str (eY aj d++mD (uJ 0 (eY aj d)))));rw[List.set_cons_zero]at hr;have aoY:=zH (anU.out.far (p:=⟨rb,0,none⟩) (by simp only;omega) (.string (str (eY aj d++mD (uJ 0 (eY aj d))))));have aoX:=zH (anC.out.far (p:=⟨rb,0,none⟩) (by simp only;omega) (.string (str (eY aj d++mD (uJ 0 (eY aj d))))));have akB:=zH (am5.out.setCell (p:=⟨rb,0,none⟩) hwr (.string (str (eY aj d++mD (uJ 0 (eY aj d))))));generalize w15.setCell ⟨rb,0,none⟩ (.string (str (eY aj d++mD (uJ 0 (eY aj d)))))=w16 at *;have ak2:=zH hr;clear hr wB;have r0:=ak2.out.cell (i:=0) rfl;have hl4:(str (eY aj d++mD (uJ 0 (eY aj d)))).size=2068:=by rw[au,Yb,hbl,qg]
 have hl5:(str (eY aj d++mD (uJ 0 (eY aj d)))).data.size=2068:=hl4;have hl6:(eY aj d++mD (uJ 0 (eY aj d))).length=2068:=by rw[Yb,hbl,qg]
 have Zq:Hid (OG aj d=(eY aj d++mD (uJ 0 (eY aj d)))++List.replicate 284 0):=zH rfl;obtain⟨Z,hZ⟩:∃Z:List UInt8,Z=List.replicate 284 0:=⟨_,rfl⟩;have HZ:=zH hZ;rw[<-hZ]at Zq;clear hZ;generalize eY aj d++mD (uJ 0 (eY aj d))=L4 at *;have HL6:=zH hl6;go_upto_region 16 with (fail)
 go_wp2_with (first
  | (refine fM rfl _ _ rfl (base:=w16.heap.size) underlying65 infoU8s 284 rfl rfl (by omega) (by omega) (by omega) (zl _) ?_
     intro w17 ajV alX;rw[<-HZ.out]at ajV;have hrd:=Rd.nU ajV (by omega);have hcv:=eX (P:=prog) underlying65 underlying5 underlying9 hrd;have ajE:=(zB w16.heap.size w16).grown alX (zl _) (λk hk=>by cases hk);have ak3:=zH (ak2.out.call ajE);have am6:=zH (akB.out.trans (ajE.mono akB.out.size));have wB:=zH (add_any (Z) L4 rb w17 ak3.out (by rw[HL6.out,HZ.out,Yq];decide));clear ajV alX hrd ajE)
  |fail)
 refine wB.out.mono ?_;rintro e w' ⟨rfl,rfl⟩;have hr:=ak3.out.set 0 (.string (str (L4++Z)));rw[List.set_cons_zero]at hr;have am7:=zH (am6.out.setCell (p:=⟨rb,0,none⟩) hwr (.string (str (L4++Z))));generalize w17.setCell ⟨rb,0,none⟩ (.string (str (L4++Z)))=w18 at *;have r1:=hr.cell (i:=0) rfl;clear hr wB r0;go_wp2_with fail;go_ret2;exact⟨by rw[Zq.out];rfl,am7.out⟩
end T7
namespace wu
open Go.RowKit Go.Maps C9
open W8 (is)
open Go.WideElems (Fit rd rg)
open Go.ChangeShapes (lits)
def GrD(D:DataW Unit)(f:Nat->List Int):Prop:=∀i:Nat,i<5000->(D.atKey (.int .i64 (i:Nat)) .nil=.nil/\f i = [])\/D.atKey (.int .i64 (i:Nat)) .nil=.slice (lits .i64 (f i)) []
theorem Zi{i:Nat}(h:i<5000):(Lit.int .i64 (i:Nat)).wf=true:=by simp[Lit.wf,IntKind.min,IntKind.max,IntKind.signed,IntKind.bits];omega
theorem xw:∀w,(zeroValue 31).run prog w=.ok (.slice none 0 0) w:=λ_=>by kernel_rfl
theorem Qh{a b:List Int}(h:(lits .i64 a:List (DataW Unit))=lits .i64 b):a=b:=by unfold lits at h;exact(List.map_inj_right (λx y e=>by simpa using e)).1 h
theorem aet{w:World}{base b n:Nat}{D:DataW Unit}(h:w.ownsGroups prog 3 base 3 .i64 b n D):∃D2:DataW Value,w.ownsMap prog 3 Mp.CO b n D2:=by obtain⟨es,clock,hb,F,hs,_,_⟩:=h;refine⟨_,es,clock,hb,⟨F.size,F.stamped,λx hx=>?_⟩,hs,rfl⟩;obtain⟨y,hy⟩:=F.reads x hx;have hk:=Go.WideElems.rd_key hy;exact⟨(y.1,.held x.val),by simp[rd,hk,Mp.CO]⟩
theorem LoM.adZ{w:World}{base b N:Nat}{D:DataW Unit}{n:Nat}{scr:List Sc}(h:w.ownsGroups prog 3 base 3 .i64 b N D)(hN:N<=100000000)(hn:n<=4096)(hD:GrD D (fE n scr)):LoM w (some b) n scr:=by
 obtain⟨D2,h2⟩:=aet h;refine⟨N,hN,D2,h2,λi hi=>?_⟩;have hkey:=keyOf_int_mk underlying3 (Zi (show i<5000 by omega));obtain⟨v,zs,hrun,hat,hown,_,_⟩:=h.at jC underlying164 (xw w) (by unfold maxLen;omega) hkey;obtain⟨v2,ps,hrun2,LP⟩:=h2.lookup jC underlying164 (xw w) (zd:=.held (.slice none 0 0)) (zp:=[]) rfl hkey;rw[hrun]at hrun2;obtain rfl:v=v2:=by simpa using hrun2
 refine⟨v,?_,?_⟩
 ·simp only[Mp.CO,YA,XX]at LP;exact LP.1.symm
 ·have hz:zs=fE n scr i:=by
   rcases hD i (by omega) with ⟨h3,h4⟩|h3
   ·rw[h3]at hat;rcases hown.datum (H:=Unit) with ⟨_,h5⟩|h5
    ·rw[h5,h4]
    ·rw[h5]at hat;cases hat
   ·rw[h3]at hat;rcases hown.datum (H:=Unit) with ⟨h5,_⟩|h5
    ·rw[h5]at hat;cases hat
    ·rw[h5]at hat;injection hat with e1 _
     exact(Qh e1).symm
  subst hz;have hl:(fE n scr i).length<=2352:=by unfold fE;rw[YQ];exact zT (YN _ _) (by rw[List.length_range];exact zl _)
  exact W8.lh hown.1 rfl (by omega) λx hx=>by unfold fE at hx;obtain⟨k,hk,rfl⟩:=YW.1 hx;have:=Yx.1 (YI.1 hk).1;show -9223372036854775808<=(k:Int)/\(k:Int)<=9223372036854775807;omega
theorem GrD.put{D:DataW Unit}{f:Nat->List Int}(h:GrD D f)(hm:∃es,D=.map es){i:Nat}(hi:i<5000)(v:Value)(x:Int)(hv:(rowDatum .i64 v (f i++[x]):DataW Unit)=.slice (lits .i64 (f i++[x])) []):
 GrD (D.put (.int .i64 (i:Nat)) (rowDatum .i64 v (f i++[x]))) (λj=>if j=i then f i++[x] else f j):=by
 intro j hj;obtain⟨es,rfl⟩:=hm;by_cases e:j=i
 ·subst e;right;rw[atKey_put_same (by exact⟨es,rfl⟩) (by trivial)];show _=DataW.slice (lits .i64 (if j=j then f j++[x] else f j)) [];rw[zj rfl];exact hv
 ·have hne:¬ ((j:Nat):Int)=(i:Nat):=by omega
  rw[atKey_put_other (by simpa using hne)];show(_/\(if j=i then _ else f j) = [])\/_=DataW.slice (lits .i64 (if j=i then _ else f j)) [];rw[zi e];exact h j hj
end wu
namespace wu
open Go.RowKit Go.Maps C9
open W8 (is)
theorem infoSc12:(prog.info? 78).map (λi=>(i.zero,i.size,i.bytes))=some (some (.agg (scc scz).toArray),2,16):=by kernel_rfl
theorem ahE(x:Sc):∀u∈scc x,u.oneCell'=true:=λu hu=>by simp only[scc,XW,List.not_mem_nil,or_false]at hu;rcases hu with rfl|rfl <;> rfl
theorem aba{w:World}{a:Option Addr}{scr l:List Sc}{vl:Value}(hs:xH w (.slice a scr.length scr.length) scr)(hl:xH w vl l)(h0:l≠[])(hlen:scr.length+l.length<=1000000000000)(hnil:a=none->scr = [])(ty:TypeId):
 ∃v' w',(Builtin.append_ #[27,27] ty #[.slice a scr.length scr.length,vl]).run prog w=.ok v' w'/\w'.ownsRow w.heap.size 78 2 v' (scr.length+l.length) (fH scc (scr++l))/\w.grownBy w' none:=by
 obtain⟨i0,hi,hz0,hz1,hz2⟩:=info_parts infoSc12;have hr1:=dB.reads yZ hs;have hr2:=dB.reads yZ hl;have hpos:0<l.length:=YM.2 h0;obtain⟨e1,a1,c1,b1,o1,hv1,_,hc1⟩:=hr1;obtain⟨e2,a2,c2,b2,o2,hv2,_,hc2⟩:=hr2;subst hv2;have hl2:(fH scc l).length=l.length*2:=fJ yZ l;have h2:a2=some ⟨b2,o2,none⟩:=(hc2 0 ((fH scc l)[0]'(by omega)) (Ye _)).1;subst h2;have hn2:∀j u,(fH scc l)[j]? = some u->w.cell? ((⟨b2,o2,none⟩:Addr).add j)=some u:=λj u hu=>by rw[XF];exact(hc2 j u hu).2
 rw[nM];cases a with
 | none=>
   have ajU:=hnil rfl;subst ajU;obtain⟨v',w',hrun,r1,r2,_⟩:=run_append_own (P:=prog) w w.heap.size 27 ty 78 i0 _ 2 16 underlying27 hi hz0 hz1 hz2 rfl (by decide) (.slice none 0 0) 0 [] (World.ownsRow_nil w _ _ 2) ⟨b2,o2,none⟩ l.length c2 (fH scc l) hl2 hn2 (LG ahE l) (by unfold maxLen;omega) (by omega) (zl _);exact⟨v',w',hrun,by rw[show fH scc ([]:List Sc) = [] from rfl];simpa using r1,by simpa[Value.ownBlock]using r2⟩
 | some ad=>
   have ho:∀j u,(fH scc scr)[j]? = some u->w.cell? (ad.add j)=some u:=λj u hu=>by
    obtain⟨g1,g2⟩:=hc1 j u hu;have:ad=⟨b1,o1,none⟩:=by
     injection hv1 with g3 _ _
     exact zs (g3.trans g1)
    rw[this,XF];exact g2
   obtain⟨v',w',hrun,r1,r2⟩:=run_append_arg_grows (P:=prog) w 27 ty 78 i0 _ 2 16 underlying27 hi hz0 hz1 hz2 rfl (by decide) ad scr.length scr.length (fH scc scr) (fJ yZ scr) ho ⟨b2,o2,none⟩ l.length c2 (fH scc l) hl2 hn2 (by omega) (by unfold maxLen;omega) (by omega);exact⟨v',w',hrun,r1,r2⟩
theorem Jc{P:Program}{t e:TypeId}(ht:P.underlying t=some (.slice e)){sz:Nat}(hs:(P.info? e).map (·.size)=some sz){a:Option Addr}{c:Nat}{w:World}{n:Nat}{f:Nat->List Value}(h:dU w sz (.slice a n c) n f)(hi:Nat)(h2:hi<=n):
 dU w sz (.slice a hi hi) hi f/\∀(x y:Int)(w':World),x=hi->y=hi->(Instr.slice t (.slice a n c) none (some (.int .i64 x)) (some (.int .i64 y))).run P w'=.ok (.slice a hi hi) w':=by
 obtain⟨a1,c1,b,off,hv,hc,hcell⟩:=h;injection hv with g1 g2 g3
 subst g1 g3;cases hq:P.info? e with
 |none=>simp[hq]at hs
 | some i=>
   have hs1:i.size=sz:=by simpa[hq]using hs
   refine⟨⟨a,hi,b,off,rfl,zl _,λj hj=>hcell j (by omega)⟩,?_⟩;rintro x y w' rfl rfl;have ha:¬ hi=0->Option.map (λx=>x.add 0) a=a:=λh0=>by rw[(hcell 0 (by omega)).1];simp[Addr.add]
   simp[Instr.slice,YH ht,Instr.sliceBounds,run_sliceBound,sizeOf,typeInfo,hq,(by omega:hi<=c)];exact ha
theorem NU{w:World}{ops:Array Oper}{rest:List Oper}{o:Oper}{ac:Act}{Q:Exit->Act->World->Prop}(hg:o.guard=none)(s x:Operand)
 (hop:o.op=.call {callee:=.builtin .append,args:=#[s,x],argTypes:=#[27,27]})
 {a:Option Addr}{scr l:List Sc}{vl:Value}(hs:xH w (.slice a scr.length scr.length) scr)(hl:xH w vl l)(h0:l≠[])(hlen:scr.length+l.length<=1000000000000)(hnil:a=none->scr = [])
 (hv:ac.eval s=.slice a scr.length scr.length)(hx:ac.eval x=vl)
 (hK:∀v' w',w'.ownsRow w.heap.size 78 2 v' (scr.length+l.length) (fH scc (scr++l))->w.grownBy w' none->wpList prog ops Q rest (ac.put o.dst v') w'):
 wpList prog ops Q (o::rest) ac w:=by
 refine wpList_plain hg λK hK'=>?_
 obtain⟨v',w',hrun,r1,r2⟩:=aba hs hl h0 hlen hnil o.type;unfold Oper.wp execOp;simp only[hop,resolve,invoke,builtin,Sem.run_bind,Sem.run_pure,Result.andThen_ok,List.map_toArray,Vh,Vg,hv,hx,hrun];exact hK' _ _ (hK v' w' r1 r2)
end wu
namespace wu
open Go.RowKit Go.Maps C9
open W8 (is)
open Go.ChangeShapes (lits)
theorem NS{w:World}{ops:Array Oper}{rest:List Oper}{o:Oper}{a:Act}{Q:Exit->Act->World->Prop}
 (hg:o.guard=none)(l c:Operand)(hop:o.op=Op.makeSlice 45 l c)
 {L C:Int}(n:Nat)(hl:a.eval l=.int .i64 L)(hc:a.eval c=.int .i64 C)(hL:L=(n:Int))(hC:C=(n:Int))(b3:n<=1000000)
 (hK:∀w' v,v=.slice (some ⟨w.heap.size,0,none⟩) n n->fQ w' v (List.replicate n [])->Below w.heap.size w w'->wpList prog ops Q rest (a.put o.dst v) w'):
 wpList prog ops Q (o::rest) a w:=by
 obtain⟨i0,hi,hz0,hz1,hz2⟩:=info_parts infoStr9;refine wpList_make_full w hg l c _ hop w.heap.size 9 i0 _ 1 underlying45 hi hz0 hz1 .i64 .i64 L C n hl hc hL hC (by rw[hz2];omega) (by unfold maxLen;omega) (zl _) λw' h3 h4=>hK w' _ rfl ?_ ((zB _ _).grown h4 (zl _) (λk hk=>by cases hk))
 have e1:(Value.string ⟨#[]⟩).cells=(uY []).toArray:=rfl;rw[e1,Fh uY [] 1 n (by decide) jb]at h3;have h5:w'.ownsRow w.heap.size 9 1 (.slice (some ⟨w.heap.size,0,none⟩) n n) (List.replicate n ([]:List UInt8)).length (fH uY (List.replicate n [])):=by rw[Yq];exact h3
 exact dB.bg jb h5
def Same(K:Nat->Prop)(w w':World):Prop:=∀b,K b->w'.heap[b]? = w.heap[b]?
theorem NT{w:World}{ops:Array Oper}{rest:List Oper}{o:Oper}{ac:Act}{Q:Exit->Act->World->Prop}(hg:o.guard=none)(s x:Operand)
 (hop:o.op=.call {callee:=.builtin .append,args:=#[s,x],argTypes:=#[27,27]})
 {R:Nat->Prop}{a:Option Addr}{scr l:List Sc}{vl:Value}(hs:∀w',Same R w w'->xH w' (.slice a scr.length scr.length) scr)(hR:∀b,R b->b<w.heap.size)(hl:xH w vl l)(hlen:scr.length+l.length<=1000000000000)(hnil:a=none->scr = [])
 (hv:ac.eval s=.slice a scr.length scr.length)(hx:ac.eval x=vl)
 (hK:∀v' w',(∀w2,Same (λb=>R b\/(w.heap.size<=b/\b<w'.heap.size)) w' w2->xH w2 v' (scr++l))->w.grownBy w' none->wpList prog ops Q rest (ac.put o.dst v') w'):
 wpList prog ops Q (o::rest) ac w:=by
 by_cases h0:l = []
 ·subst h0;obtain⟨a2,c2,hvl,_⟩:=dB.form hl;subst hvl;obtain⟨i0,hi,hz0,hz1,hz2⟩:=info_parts infoSc12;refine wpList_plain hg λK hK'=>?_
  have hsrc:Src prog i0.size 27 (.slice a2 ([]:List Sc).length c2) 0 [] w:=by
   cases a2 with
   |none=>exact Src.ofNil w underlying27 c2
   |some p=>exact Src.ofSlice w underlying27 p 0 c2 [] (by simp) (by simp) (by simp)
  have hrun:=run_append_nothing (P:=prog) w 27 27 o.type 78 i0 underlying27 hi a scr.length scr.length (zl _) _ hsrc;unfold Oper.wp execOp;simp only[hop,resolve,invoke,builtin,Sem.run_bind,Sem.run_pure,Result.andThen_ok,List.map_toArray,Vh,Vg,hv,hx,hrun];refine hK' _ _ (hK _ _ (λw2 h2=>?_) (World.grownBy.refl _ _));rw[List.append_nil];exact hs w2 λb hb=>h2 b (.inl hb)
 ·refine NU hg s x hop (hs w λ_ _=>rfl) hl h0 hlen hnil hv hx λv' w' h1 h2=>hK v' w' (λw2 h3=>?_) h2
  have h4:w2.ownsRow w.heap.size 78 2 v' (scr.length+l.length) (fH scc (scr++l)):=by
   refine⟨h1.1,?_⟩;rcases h1.2 with h|⟨g,cap,cur,hv,hg,hh,r⟩
   ·exact .inl h
   ·exact .inr ⟨g,cap,cur,hv,hg,(h3 g (.inr ⟨hg,(Yd.1 hh).1⟩)).trans hh,r⟩
  exact dB.bg (base:=w.heap.size) (e:=78) yZ (by rw[Yb];exact h4)
theorem vT{w w':World}{base e:Nat}{q:IntKind}{v:Value}{zs:List Int}(h:w.ownsInts base e q v zs)(hk:∀x,base<=x->x<w.heap.size->w'.heap[x]? = w.heap[x]?):w'.ownsInts base e q v zs:=by
 refine⟨⟨h.1.1,?_⟩,h.2⟩;rcases h.1.2 with h|⟨g,cap,cur,hv,hg,hh,r⟩
 ·exact .inl h
 ·exact .inr ⟨g,cap,cur,hv,hg,(hk g hg (Yd.1 hh).1).trans hh,r⟩
theorem CG{H:Type}{P:Program}{k:TypeId}{w w':World}{base e:Nat}{q:IntKind}{b n:Nat}{D:DataW H}(h:w.ownsGroups P k base e q b n D)(hk:∀x,(x=b\/base<=x)->x<w.heap.size->w'.heap[x]? = w.heap[x]?):w'.ownsGroups P k base e q b n D:=by
 obtain⟨es,clock,hb,F,hs,rfl,hbb,hlen,hap⟩:=h;have hblt:b<w.heap.size:=(Yd.1 hb).1;have hst:∀x∈es.toList,∀z,rowElem (H:=H) w base e q x.val=some z->rowElem w' base e q x.val=some z:=λx hx z hz=>by obtain⟨zs,ho,rfl⟩:=rowElem_inv hz;exact rowElem_mk (vT ho λx h1 h2=>hk x (.inr h1) h2)
 obtain⟨F1,hmap,_⟩:=F.stay hst;refine⟨es,clock,(hk b (.inl rfl) hblt).trans hb,F1,hs,by rw[hmap],hbb,λx hx zs ho=>?_,hap⟩;obtain⟨y,hy⟩:=F.reads x hx;obtain⟨z,hz,_⟩:=Go.WideElems.rd_val hy;obtain⟨zs0,ho0,_⟩:=rowElem_inv hz;rw[ho.unique (vT ho0 λx h1 h2=>hk x (.inr h1) h2)];exact hlen x hx zs0 ho0
theorem CJ{H:Type}{P:Program}{k:TypeId}{w:World}{base e:Nat}{q:IntKind}{b:Nat}(h:w.heap[b]? = some (.map #[] 0))(hb:b<base):w.ownsGroups (H:=H) P k base e q b 0 (.map []):=
 ⟨#[],0,h,⟨by simp,Go.MapKept.stamped_empty 0,by simp⟩,zl _,rfl,hb,by simp,by simp⟩
theorem Qi{w w':World}{base b n:Nat}{D:DataW Unit}(h:w.ownsGroups prog 3 base 3 .i64 b n D)(hb:w'.heap[b]? = w.heap[b]?){i:Nat}(hi:i<5000){v:Value}(hrun:(Instr.lookup 164 (.map (some b)) (.int .i64 (i:Nat)) false).run prog w=.ok v w):
 (Instr.lookup 164 (.map (some b)) (.int .i64 (i:Nat)) false).run prog w'=.ok v w':=by
 obtain⟨D2,h2⟩:=aet h;have hkey:=keyOf_int_mk underlying3 (Zi hi);have h3:w'.ownsMap prog 3 Mp.CO b n D2:=by obtain⟨es,clock,hb',F,hs,hD⟩:=h2;exact⟨es,clock,hb.trans hb',F,hs,hD⟩
 obtain⟨v2,ps,hrun2,LP⟩:=h2.lookup jC underlying164 (xw w) (zd:=.held (.slice none 0 0)) (zp:=[]) rfl hkey;obtain⟨v3,ps3,hrun3,aae⟩:=h3.lookup jC underlying164 (xw w') (zd:=.held (.slice none 0 0)) (zp:=[]) rfl hkey;rw[hrun]at hrun2;obtain rfl:v=v2:=by simpa using hrun2
 simp only[Mp.CO,YA,XX]at LP aae;have:v3=v:=by have:=aae.1.trans LP.1.symm;simpa using this
 subst this;exact hrun3
theorem GrD.snoc{D:DataW Unit}{L:List Int}{x:Int}{i:Nat}(h:GrD D (part L))(hm:∃es,D=.map es)(hi:i<5000)(hx:x/2352=(i:Int)){v:Value}(hv:(rowDatum .i64 v (part L i++[x%2352]):DataW Unit)=.slice (lits .i64 (part L i++[x%2352])) []):
 GrD (D.put (.int .i64 (i:Nat)) (rowDatum .i64 v (part L i++[x%2352]))) (part (L++[x])):=by
 have h1:=h.put hm hi v (x%2352) hv;have e:(λj=>if j=i then part L i++[x%2352] else part L j)=part (L++[x]):=by
  funext j;rw[aaC];by_cases e:j=i
  ·subst e;rw[zj rfl,zj hx]
  ·rw[zi e,zi (by omega)]
 rwa[e]at h1
theorem LoM.move{w w':World}{base b N:Nat}{D:DataW Unit}{n:Nat}{scr:List Sc}(h:w.ownsGroups prog 3 base 3 .i64 b N D)(hN:N<=100000000)(hn:n<=4096)(hD:GrD D (fE n scr))(hk:∀x,(x=b\/base<=x)->x<w.heap.size->w'.heap[x]? = w.heap[x]?):LoM w' (some b) n scr:=
 LoM.adZ (CG h hk) hN hn hD
theorem cu.abj{w w':World}{g:Nat}{L:Lay}{M:aA}{X R:Nat->Prop}(h:cu w g L M X R){v:Value}{b:Nat}{l:List Sc}
 (hx:Bx w' g 166 [.int .i64 M.kind,.int .i64 M.iL,.slice (some ⟨L.gs,0,none⟩) L.S.length L.cap,v,.map (some b)])(hb:w.grownBy w' (some g))
 (hs:∀w2,Same (λb=>R b\/(w.heap.size<=b/\b<w'.heap.size)) w' w2->xH w2 v (M.scr++l))(hl:∀w2,Same (λb=>R b\/(w.heap.size<=b/\b<w'.heap.size)) w' w2->LoM w2 (some b) M.n (M.scr++l))(hw:∀s∈l,Wf s)(hbR:w.heap.size<=b/\b<w'.heap.size):
 Ho (0,{M with scr:=M.scr++l}) g X R w (.returned (.int .i64 0)) w':=by
 have hk:∀k,k<w.heap.size->k≠g->w'.heap[k]? = w.heap[k]?:=λk h1 h2=>hb.block k h1 (λe=>h2 (zs e))
 refine⟨rfl,X,λb=>R b\/(w.heap.size<=b/\b<w'.heap.size),⟨{L with vs:=v,lo:=some b},h.secs,hx,(hk _ (h.lt _ (.inl h.xs)) (Vb h.ne)).trans h.sec,h.cap,λi p hi=>(h.maps i p hi).kept λc hc=>hk c (h.lt c (.inl (h.xm i p c hi hc))) (h.UB hi hc).1,h.inj,hs,hl,h.xg,h.xs,h.xm,?_,?_,?_,λk hk=>by obtain rfl:=zs hk;exact .inr hbR⟩,hb.os,hb.tape,hb.output,hb.size,λk h1 h2=>hk k h1 (λe=>h2 (e ▸ h.xg)),λ_ h=>.inl h,λ_ h=>h.imp id And.left⟩
 ·rintro k (h1|h1|h1)
  ·exact zL (h.lt k (.inl h1)) hb.size
  ·exact zL (h.lt k (.inr h1)) hb.size
  ·exact h1.2
 ·rintro k h1 (h2|h2)
  ·exact h.dis k h1 h2
  ·have:=h.lt k (.inl h1);omega
 ·intro s hs;rcases YX.1 hs with h1|h1
  ·exact h.wf s h1
  ·exact hw s h1
def vZ(wd wa w2 w3:World)(r:Nat)(W:World):Prop:=W=(match r with|0=>wd|1=>wa|2=>w2|_=>w3)
structure Ol (wl:World) (g b:Nat) (cs:List Value) (L:List Int) (W:World):Prop where
 x:Bx W g 166 cs
 gr:∃D:DataW Unit,W.ownsGroups prog 3 wl.heap.size 3 .i64 b L.length D/\GrD D (part L)
 le:wl.grownBy W (some b)
 lt:b<wl.heap.size/\g<wl.heap.size/\g≠b
theorem ZG(W:World)(t:TypeId)(x:Int):∀j u,[Value.int .i64 x][j]? = some u->(W.alloc (.cells #[.int .i64 x] t)).cell? ((⟨W.heap.size,0,none⟩:Addr).add j)=some u:=cell_one_new W _ t
theorem Ol.step{wl wr:World}{g b:Nat}{cs:List Value}{L:List Int}(h:Ol wl g b cs L wr){i:Nat}(hi:i<5000)(x:Int)(hx:x/2352=(i:Int))(h0:0<=x)(hL:L.length<=20000000)(ty:TypeId):
 ∃v v' w2 w3,(Instr.lookup 164 (.map (some b)) (.int .i64 (i:Nat)) false).run prog wr.drew=.ok v wr.drew/\
   (Instr.lookup 164 (.map (some b)) (.int .i64 (i:Nat)) false).run prog (wr.drew.alloc (.cells #[.int .i64 (x%2352)] 3))=.ok v (wr.drew.alloc (.cells #[.int .i64 (x%2352)] 3))/\
   (Builtin.append_ #[31,31] ty #[v,.slice (some ⟨wr.heap.size,0,none⟩) 1 1]).run prog (wr.drew.alloc (.cells #[.int .i64 (x%2352)] 3))=.ok v' w2/\
   (Instr.mapUpdate 164 (.map (some b)) (.int .i64 (i:Nat)) v').run prog w2=.ok () w3/\Ol wl g b cs (L++[x]) w3/\w2.cell? ⟨g,4,none⟩=wr.cell? ⟨g,4,none⟩:=by
 obtain⟨D,hg,hD⟩:=h.gr;have hkey:=keyOf_int_mk underlying3 (Zi hi);obtain⟨i0,hi0,hz0,hz1,hz2⟩:=info_parts infoInt9;have hgd:wr.drew.ownsGroups prog 3 wl.heap.size 3 .i64 b L.length D:=hg;obtain⟨v,zs,hrun,hat,hown,hzl,hback⟩:=hgd.at jC underlying164 (xw wr.drew) (by unfold maxLen;omega) hkey;have hxx:=h.x.lt;have hlook:=Qi (w':=wr.drew.alloc (.cells #[.int .i64 (x%2352)] 3)) hgd (by
  have hb:b<wr.drew.heap.size:=by obtain⟨es,clock,hb,_⟩:=hgd;exact(Yd.1 hb).1
  exact heap_alloc_old wr.drew _ hb) hi hrun
 have hsz:wl.heap.size<=wr.heap.size:=h.le.size;obtain⟨v',w2,hrunA,r1,r2,r3,r4⟩:=run_append_own_at (P:=prog) (wr.drew.alloc (.cells #[.int .i64 (x%2352)] 3)) wl.heap.size 31 ty 3 i0 (.int .i64 0) 1 8 underlying31 hi0 hz0 hz1 hz2 rfl (by decide) v zs.length (zs.map (Value.int .i64)) (hown.1.alloc _) ⟨wr.heap.size,0,none⟩ 1 1 [.int .i64 (x%2352)] rfl (ZG wr.drew 3 (x%2352)) (ints_oneCell .i64 [x%2352]) (by unfold maxLen;omega) (by omega) (by simp;omega);have hgb:wr.drew.grownBy w2 v.ownBlock:=(World.grownBy_alloc _ _ _).trans r2;have hwf:(Lit.int .i64 (x%2352)).wf=true:=by simp[Lit.wf,IntKind.min,IntKind.max,IntKind.signed,IntKind.bits];omega
 have hap:=hown.appended r1 hwf;obtain⟨w3,hrunU,k1,k2⟩:=hback w2 v' (zs++[x%2352]) hgb hap (by simp;omega) (r4.imp id λh=>⟨_,h,by simp⟩);have hzs:zs=part L i:=by
  rcases hD i hi with ⟨h3,h4⟩|h3
  ·rw[h3]at hat;rcases hown.datum (H:=Unit) with ⟨_,h5⟩|h5
   ·rw[h5,h4]
   ·rw[h5]at hat;cases hat
  ·rw[h3]at hat;rcases hown.datum (H:=Unit) with ⟨h5,_⟩|h5
   ·rw[h5]at hat;cases hat
   ·rw[h5]at hat;injection hat with e1 _
    exact(Qh e1).symm
 subst hzs;have hlt:=h.lt;have hvb:∀k,v.ownBlock=some k->wl.heap.size<=k:=λk hk=>(hown.1.lt k hk).1
 have hg2:w2.heap[g]? = wr.heap[g]?:=hgb.block g hxx (λe=>by have:=hvb g e.symm;omega);have hx2:Bx w2 g 166 cs:=hg2.trans h.x;have hx3:Bx w3 g 166 cs:=(k2.block g hx2.lt (λe=>hlt.2.2 (zs e))).trans hx2;refine⟨v,v',w2,w3,hrun,hlook,hrunA,hrunU,⟨hx3,⟨_,by rw[Yb];exact k1,GrD.snoc hD ?_ hi hx (hap.datum_pos (by simp))⟩,?_,hlt⟩,XC hg2⟩
 ·obtain⟨es,clock,_,_,_,rfl,_⟩:=hg;exact⟨_,rfl⟩
 ·refine⟨?_,?_,?_,zT hsz (zT hgb.size k2.size),λk h1 h2=>?_⟩
  ·exact k2.os.trans (hgb.os.trans h.le.os)
  ·exact k2.tape.trans (hgb.tape.trans h.le.tape)
  ·exact k2.output.trans (hgb.output.trans h.le.output)
  ·have e1:w2.heap[k]? = wr.heap[k]?:=hgb.block k (zL h1 hsz) (λe=>by have:=hvb k e.symm;omega);have e2:w3.heap[k]? = w2.heap[k]?:=k2.block k (zL h1 (zT hsz hgb.size)) h2;exact e2.trans (e1.trans (h.le.block k h1 h2))
theorem ags{n:Nat}(h1:1<=n)(h2:n<=4096):frN (98*(n:Int))=((98*n+108:Nat):Int):=by unfold frN;rw[zi (by omega)];omega
theorem aav{n:Nat}(h:n<=4096)(l:List Sc):(sD n l).length<=20000000:=by have:=mG l (98*n);have e:(sD n l).length=(ed l (98*n)).length:=rfl;omega
def abY(_:Nat)(_ _:World):Prop:=True
theorem eP(r:Nat)(w w':World):abY r w w':=trivial
theorem abe(F:List (List UInt8))(l:List Sc):(Q4 F l).2=if lU F.length l=false then 1 else 0:=by unfold Q4;split <;> rfl
theorem aaw{n:Nat}(h1:1<=n)(h2:n<=4096){l:List Sc}(hf:lU (98*n+108) l=true):vS (98*(n:Int)) l=(sD n l,0):=by
 unfold vS sD;have e:(98*(n:Int)).toNat=98*n:=by omega
 rw[zi (by omega),e,zi (by rw[hf];decide)]
def ahF(g b ia hz:Nat)(x:Int)(vv v2:Value)(i:Nat)(v:Value)(W:World):Prop:=match i with
 |0=>v=.pointer (some ⟨g,0,none⟩)
 |1=>v=.pointer (some ⟨g,0,none⟩)
 |2=>v=.pointer (some ⟨g,4,none⟩)
 |3=>v=.map (some b)
 |4=>v=.int .i64 (ia:Nat)
 |5=>v=.pointer (some ⟨g,0,none⟩)
 |6=>v=.pointer (some ⟨g,0,none⟩)
 |7=>v=.pointer (some ⟨g,4,none⟩)
 |8=>v=.map (some b)
 |9=>v=.int .i64 (ia:Nat)
 |10=>v=vv
 |11=>v=.int .i64 x
 |12=>v=.int .i64 (x%2352)
 |13=>v=.slice (some ⟨hz,0,none⟩) 1 1
 |14=>v=v2
 |_=>True
def aiw:Nat->Option Nat
 |13=>some 0
 |14=>some 1
 |15=>some 2
 |_=>none
theorem abf(g b ia hz:Nat)(x:Int)(vv v2:Value)(i r:Nat)(v:Value)(W W':World)(hk:∀k,aiw i=some k->k<r)(hR:(abY) r W W')(h:ahF g b ia hz x vv v2 i v W):ahF g b ia hz x vv v2 i v W':=by unfold ahF at h ⊢;split at h <;> first|exact h
theorem abh{w:World}{g:Nat}{M:aA}{X R:Nat->Prop}{N:Nat}(h:fF w g M X R)(ho:M.Ok N)(vl:Value)(l:List Sc)(hl:jw w vl l)(hl2:l.length<=1000000):
 Calls prog 45 #[.pointer (some ⟨g,0,none⟩),vl] w (Ho (M.scratch l) g X R w):=by
 obtain⟨L,hc⟩:=h;obtain⟨c0,c1,c2,c3,c4⟩:=hc.cells;have hsc:=hc.scr w λ_ _=>rfl
 obtain⟨asc,csc,hvs,hcs⟩:=dB.form hsc;rw[hvs]at c3 hsc;obtain⟨hv3,hcut⟩:=Jc underlying27 sizeSc hsc M.scr.length (zl _);have hnl:asc=none->M.scr = []:=λe=>by
  obtain⟨b,off,hcell⟩:=dB.at hsc;by_cases h3:M.scr.length=0
  ·exact XR.1 h3
  ·have:=(hcell 0 (by omega)).1;rw[e]at this;cases this
 have hsA:Hid (∀w',Same R w w'->xH w' (.slice asc M.scr.length M.scr.length) M.scr):=zH λw' h'=>by have:=hc.scr w' h';rw[hvs]at this;exact(Jc (P:=prog) underlying27 sizeSc this M.scr.length (zl _)).1
 have hRl:Hid (∀b,R b->b<w.heap.size):=zH λb hb=>hc.lt b (.inr hb)
 obtain⟨al,cl,rfl,hcl⟩:=dB.form hl.1;have HLW:Hid (∀s∈l,Wf s):=zH λs hs=>by obtain⟨i,hi,rfl⟩:=YL hs;have:=hl.2.1 i hi;rwa[yX hi]at this
 have HMW:=zH hc.wf;have HSL:=zH ho.scr;have anu:=zH ho.fit;obtain⟨n1,n2⟩:=ho.n;have HC:=zH hc;have HL:=zH hl;have HN:=zH hc.n;have ny:=zH hc.box;have hsl:=ho.scr;clear hc hsc hcs hvs c0 c1 c4 hv3 ho hcl hl;have HNL:=zH hnl;clear hnl;rw[HN.out]at c2;go_enter func45,ntmps45;go_upto_region 3 with (at_builtin;refine NT rfl _ _ rfl hsA.out hRl.out HL.out.1 (by omega) HNL.out rfl rfl ?_;intro v4 w4 hs4 hg4)
 have hb4:Below w.heap.size w w4:=(zB _ _).grown hg4 (zl _) (λk hk=>by cases hk);have xE:=zH hs4;obtain⟨av4,cv4,hv4,hc4⟩:=dB.form (hs4 w4 λ_ _=>rfl);subst hv4;have HB4:=zH hb4;have k2:=(HC.out.below hb4).cells.2.2.1;rw[HN.out]at k2;have HL4:=zH (HL.out.keep hb4);clear hs4 hg4 hb4 hc4 hcut c2 c3;go_wp2_with fail;refine(wJ _ _).mono ?_;rintro e w5 ⟨rfl,rfl⟩;rw[ags n1 n2];go_wp2_with (refine NS rfl _ _ rfl (98*M.n+108) rfl rfl rfl rfl (by omega) ?_;intro w5 v5 hv5 EP hb5);subst hv5;have HL5:=zH (HL4.out.keep hb5);have KC:=zH (HB4.out.trans (hb5.mono HB4.out.size));refine(Nc _ _ _ l _ EP (by rw[Yq];omega) HL5.out).mono ?_;rintro e w6 ⟨v6,rfl,BC,hb6⟩;have aiG:=zH (hb5.trans (hb6.mono hb5.size));have uG:=zH (KC.out.trans (hb6.mono KC.out.size));rw[abe,Yq];clear BC hb6 hb5 EP HL4 HL5 k2;by_cases hf:lU (98*M.n+108) l=false
 ·rw[zj hf];have HW:=zH (show Ho (M.scratch l) g X R w (.returned (.int .i64 1)) w6 from by
   have e:M.scratch l=(1,M):=by unfold aA.scratch;rw[zj hf]
   rw[e];exact⟨rfl,X,R,⟨L,HC.out.below uG.out⟩,.of uG.out⟩)
  go_wp2_with fail;go_ret;exact HW.out
 rw[zi hf];by_cases h256:M.scr.length+l.length > 256
 ·have HW:=zH (show Ho (M.scratch l) g X R w (.returned (.int .i64 7)) w6 from by
   have e:M.scratch l=(7,M):=by unfold aA.scratch;rw[zi hf,zj h256]
   rw[e];exact⟨rfl,X,R,⟨L,HC.out.below uG.out⟩,.of uG.out⟩)
  go_wp2_with fail;go_ret;exact HW.out
 have HZ:Hid (M.scratch l=(0,{M with scr:=M.scr++l})):=zH (by unfold aA.scratch;rw[zi hf,zi h256]);have hfa:lU (98*M.n+108) (M.scr++l)=true:=by rw[Bl,anu.out,Bool.true_and];simpa using hf
 have HF:=zH hfa;have RH:=zH (ny.out.call uG.out);have q3:=RH.out.free 3;have q4:=RH.out.free 4;have m2:=RH.out.cell (i:=2) rfl;have m3:=RH.out.cell (i:=3) rfl;have m4:=RH.out.cell (i:=4) rfl;rw[HN.out]at m2;have hmm:=@run_makeMap prog;clear hfa hf;go_upto_region 9 with (fail)
 have hx7:=RH.out.set 3 (.slice av4 (M.scr.length+l.length) cv4);generalize hw7:w6.setCell ⟨g,3,none⟩ (.slice av4 (M.scr.length+l.length) cv4)=w7 at *;have HW7:=zH hw7;clear hw7 q3 q4 m2 m3 m4;have Ou:Hid (Bx w7 g 166 [.int .i64 M.kind,.int .i64 M.iL,.slice (some ⟨L.gs,0,none⟩) L.S.length L.cap,.slice av4 (M.scr.length+l.length) cv4,.map L.lo]):=zH hx7;have q4:=Ou.out.free 4;have m4:=Ou.out.cell (i:=4) rfl;clear hx7;have q5:=(Ou.out.alloc (.map #[] 0)).free 4;have m5:=(Ou.out.alloc (.map #[] 0)).cell (i:=4) rfl;go_upto_region 10 with (fail)
 have hx8:=(Ou.out.alloc (.map #[] 0)).set 4 (.map (some w7.heap.size));have hm8:((w7.alloc (.map #[] 0)).setCell ⟨g,4,none⟩ (.map (some w7.heap.size))).heap[w7.heap.size]? = some (.map #[] 0):=(zh _ _ _ _ (by have:=Ou.out.lt;simp only[ne_eq];omega)).trans (Xl _ _);have hz8:((w7.alloc (.map #[] 0)).setCell ⟨g,4,none⟩ (.map (some w7.heap.size))).heap.size=w7.heap.size+1:=by simp
 have hg8:w7.grownBy ((w7.alloc (.map #[] 0)).setCell ⟨g,4,none⟩ (.map (some w7.heap.size))) (some g):=⟨rfl,rfl,rfl,by simp,λk h1 h2=>(zh _ _ _ k (λe=>h2 (by rw[e]))).trans (heap_alloc_old _ _ h1)⟩;generalize ((w7.alloc (.map #[] 0)).setCell ⟨g,4,none⟩ (.map (some w7.heap.size)))=w8 at *;obtain⟨b,hb⟩:∃b,b=w7.heap.size:=⟨_,rfl⟩;rw[<-hb]at hx8 hm8 hz8 ⊢;have HX8:Hid (Bx w8 g 166 [.int .i64 M.kind,.int .i64 M.iL,.slice (some ⟨L.gs,0,none⟩) L.S.length L.cap,.slice av4 (M.scr.length+l.length) cv4,.map (some b)]):=zH hx8;have HM8:=zH hm8;have HZ8:=zH hz8;have HB:=zH hb;have hzz:w6.heap.size=w7.heap.size:=by rw[<-HW7.out];simp
 have Ui:w6.grownBy w8 (some g):=by
  have h67:w6.grownBy w7 (some g):=by rw[<-HW7.out];exact⟨rfl,rfl,rfl,by simp,λk h1 h2=>zh _ _ _ k (λe=>h2 (by rw[e]))⟩
  exact h67.trans hg8
 have hgw:w.grownBy w8 (some g):=⟨Ui.os.trans uG.out.os,Ui.tape.trans uG.out.tape,Ui.output.trans uG.out.output,zT uG.out.size Ui.size,λk h1 h2=>(Ui.block k (zL h1 uG.out.size) h2).trans (uG.out.block k h1)⟩;have HG:=zH hgw;have HS8:Hid (∀w2,Same (λb=>R b\/(w.heap.size<=b/\b<w4.heap.size)) w8 w2->xH w2 (.slice av4 (M.scr.length+l.length) cv4) (M.scr++l)):=zH λw2 h2=>by
  rw[<-Yb];refine xE.out w2 λk hk=>(h2 k hk).trans ?_
  have hk4:k<w4.heap.size:=hk.elim (λh=>zL (hRl.out k h) HB4.out.size) And.right;refine(Ui.block k (zL hk4 aiG.out.size) λe=>?_).trans (aiG.out.block k hk4);obtain rfl:=zs e;rcases hk with h1|h1
  ·exact HC.out.dis _ HC.out.xg h1
  ·have:=ny.out.lt;omega
 have m2:=HX8.out.cell (i:=2) rfl;rw[HN.out]at m2;have HCS:Hid (∀w2,Same (λb=>R b\/(w.heap.size<=b/\b<w4.heap.size)) w8 w2->jw w2 (.slice av4 (M.scr.length+l.length) cv4) (M.scr++l)):=zH λw2 h2=>⟨HS8.out w2 h2,λi hi=>by
  rw[yX hi];rcases YX.1 (List.getElem_mem hi) with h1|h1
  ·exact HMW.out _ h1
  ·exact HLW.out _ h1,by rw[Yb];omega⟩
 clear q4 m4 q5 m5 hx8 hm8 hz8 hg8 hb hgw Ui;have HZZ:=zH hzz;clear hzz;go_wp2_with fail;refine(aaK _ _ _ _ (HCS.out _ λ_ _=>rfl)).mono ?_;rintro e w9 ⟨v9,rfl,Oe,xB⟩;rw[aaw n1 n2 HF.out]at Oe ⊢;obtain⟨O,hO⟩:∃O,O=sD M.n (M.scr++l):=⟨_,rfl⟩;rw[<-hO]at Oe ⊢;have hOl:O.length<=20000000:=by rw[hO];exact aav n2 _
 have HOb:Hid (∀x∈O,0<=x/\x<2352*(M.n:Int)):=zH λx hx=>by rw[hO]at hx;have:=yD (M.scr++l) (98*M.n) x hx;omega
 have HO:=zH hO;clear hO;change w9.ownsRow w8.heap.size 3 1 v9 O.length (is O) at Oe;obtain⟨a9,c9,hv9⟩:=aS Oe;subst hv9;have ac7:Ol w9 g b [.int .i64 M.kind,.int .i64 M.iL,.slice (some ⟨L.gs,0,none⟩) L.S.length L.cap,.slice av4 (M.scr.length+l.length) cv4,.map (some b)] [] w9:=by have h8:=HZ8.out;have h9:=xB.size;have hg:=HX8.out.lt;have hgl:=ny.out.lt;have hws:=uG.out.size;have hzz:=HZZ.out;have hbb:=HB.out;refine⟨HX8.out.call xB,⟨.map [],CJ ((xB.block b (by omega)).trans HM8.out) (by omega),λi _=>.inl ⟨rfl,rfl⟩⟩,World.grownBy.refl _ _,by omega,by omega,by omega⟩
 have HB9:=zH xB;have HO9:=zH Oe;clear xB Oe m2 hmm;go_wp2_with fail;generalize hcs:([.int .i64 M.kind,.int .i64 M.iL,.slice (some ⟨L.gs,0,none⟩) L.S.length L.cap,.slice av4 (M.scr.length+l.length) cv4,.map (some b)]:List Value)=cs at ac7;have afs:=zH hcs;clear hcs
 go_loopw [68] (λvk wr=>∃k:Nat,k<=O.length/\vk=.int .i64 k/\Ol w9 g b cs (O.take k) wr) (λvk _=>O.length-(RowKit.intOf vk).toNat)
 case atStart=>exact⟨0,by omega,rfl,ac7⟩
 case round=>
  clear ac7;obtain⟨k,hk,rfl,hd⟩:=hrel;by_cases hlt:k<O.length
  ·have hoW:wr.ownsRow w8.heap.size 3 1 (.slice a9 O.length c9) O.length (is O):=HO9.out.kept hd.le (.inr λe=>by
    have:=bH HO9.out b e;have:=HZ8.out;omega)
   obtain⟨ga,ca,hva,ajN,ajO⟩:=kQ hoW (by omega);simp only[YT]at hva;obtain⟨hva,_,_⟩:=hva;subst hva;have hcl:wr.cell? ⟨ga,k,none⟩=some (.int .i64 (aI O k)):=by have:=hoW.cells (g:=ga) rfl k _ (W8.wL hlt);rwa[XF,Yf]at this
   have hxb:=HOb.out _ (W8.di hlt);have hix:=λw'=>aB underlying31 sizeInt9 (cap:=c9) (n:=O.length) (k:=k) (b:=ga) (off:=0) rfl hlt _ rfl w'
   simp only[Yy,Yf]at hix;have HTK:Hid (O.take (k+1)=O.take k++[aI O k]):=zH (by rw[Yo hlt,<-W8.bT hlt]);generalize aI O k=x at *;obtain⟨ia,hi⟩:∃i:Nat,x/2352=(i:Int):=⟨(x/2352).toNat,by omega⟩;have hi5:ia<5000:=by omega
   have HD:=zH (λty=>hd.step hi5 x hi hxb.1 (by rw[Yk];omega) ty);have HDD:=zH hd;have HI:=zH hi;clear hd hoW ajN ajO;go_upto_region 15 with (fail)
   rw[hi];obtain⟨vv,v2,w2,w3,r1,r2,r3,r4,hd3,e4⟩:=HD.out 31;obtain⟨hz,hhz⟩:∃hz,hz=wr.heap.size:=⟨_,rfl⟩;rw[<-hhz]at r3;have HHZ:=zH hhz;clear HD hhz;have HR1:=zH r1;have HR2:=zH r2;have HR3:=zH r3;have HR4:=zH r4;have HD3:=zH hd3;have HE4:Hid (∀r W,vZ wr.drew (wr.drew.alloc (.cells #[.int .i64 (x%2352)] 3)) w2 w3 r W->W.cell? ⟨g,4,none⟩=some (.map (some b))):=zH λr W hc=>by
    have q0:wr.cell? ⟨g,4,none⟩=some (.map (some b)):=HDD.out.x.cell (i:=4) (by rw[<-afs.out];rfl);have q1:(wr.drew.alloc (.cells #[.int .i64 (x%2352)] 3)).cell? ⟨g,4,none⟩=some (.map (some b)):=((show Bx wr.drew g 166 cs from HDD.out.x).alloc _).cell (i:=4) (by rw[<-afs.out];rfl);have q3:w3.cell? ⟨g,4,none⟩=some (.map (some b)):=HD3.out.x.cell (i:=4) (by rw[<-afs.out];rfl);unfold vZ at hc;subst hc;split
    ·exact q0
    ·exact q1
    ·exact e4.trans q0
    ·exact q3
   clear r1 r2 r3 r4 hd3 e4 hcl hix;refine lq (by kernel_rfl) (abY) (vZ wr.drew (wr.drew.alloc (.cells #[.int .i64 (x%2352)] 3)) w2 w3) (ahF g b ia hz x vv v2) (λ_=>false) aiw 3 (by kernel_rfl) (by kernel_rfl) (.inl (by kernel_rfl)) (abf g b ia hz x vv v2) (rfl) ⟨?_,?_,?_,?s3,?_,?_,?_,?_,?s8,?_,?s10,?_,?s12,?s13,?s14,?s15,trivial⟩ ?_;all_goals first
    | (intro r a W hc hsz hold ah hnot hlo hhi hrk
       have o0:a.tmps.getD 0 undef=.pointer (some ⟨g,0,none⟩):=hold 0 (by kernel_rfl);have Qs:a.tmps.getD 12 undef=.int .i64 x:=hold 12 (by kernel_rfl);have o13:a.tmps.getD 13 undef=.int .i64 (ia:Nat):=hold 13 (by kernel_rfl);try have d0:=zV 74 (.pointer (some ⟨g,0,none⟩)) (ah 0 rfl rfl _ rfl)
       try have d1:=zV 75 (.pointer (some ⟨g,0,none⟩)) (ah 1 rfl rfl _ rfl)
       try have d5:=zV 79 (.pointer (some ⟨g,0,none⟩)) (ah 5 rfl rfl _ rfl)
       try have d6:=zV 80 (.pointer (some ⟨g,0,none⟩)) (ah 6 rfl rfl _ rfl)
       clear hsz hold ah hnot hlo hhi hrk;refine ai rfl (ag rfl) ?_;refine aG (eP _ _ _) hc rfl λK hK=>?_
       go_simp;exact hK)
    |skip
   try case s3=>
    intro r a W hc hsz hold ah hnot hlo hhi hrk;have d2:=zV 76 (.pointer (some ⟨g,4,none⟩)) (ah 2 rfl rfl _ rfl);have q4:=HE4.out r W hc;clear hsz hold ah hnot hlo hhi hrk;refine ai rfl (ag rfl) ?_;refine aG (v:=.map (some b)) (eP _ _ _) hc rfl λK hK=>?_
    go_simp;exact hK
   try case s8=>
    intro r a W hc hsz hold ah hnot hlo hhi hrk;have d7:=zV 81 (.pointer (some ⟨g,4,none⟩)) (ah 7 rfl rfl _ rfl);have q4:=HE4.out r W hc;clear hsz hold ah hnot hlo hhi hrk;refine ai rfl (ag rfl) ?_;refine aG (v:=.map (some b)) (eP _ _ _) hc rfl λK hK=>?_
    go_simp;exact hK
   try case s10=>
    intro r a W hc hsz hold ah hnot hlo hhi hrk;have d8:=zV 82 (.map (some b)) (ah 8 rfl rfl _ rfl);have d9:=zV 83 (.int .i64 (ia:Nat)) (ah 9 rfl rfl _ rfl);have hr2:=hhi 14 1 rfl (by kernel_rfl);clear hsz hold ah hnot hlo hhi hrk;refine ai rfl (ag rfl) ?_;have hL:(Instr.lookup 164 (.map (some b)) (.int .i64 (ia:Nat)) false).run prog W=.ok vv W:=by
     have hc':=hc;unfold vZ at hc';subst hc';have h01:r=0\/r=1:=by omega
     rcases h01 with rfl|rfl
     ·exact HR1.out
     ·exact HR2.out
    refine aG (v:=vv) (eP _ _ _) hc rfl λK hK=>?_
    clear hc;go_simp;exact hK
   try case s12=>
    intro r a W hc hsz hold ah hnot hlo hhi hrk;have d11:=zV 85 (.int .i64 x) (ah 11 rfl rfl _ rfl);clear hsz hold ah hnot hlo hhi hrk;refine ai rfl (ag rfl) ?_;refine aG (v:=.int .i64 (x%2352)) (eP _ _ _) hc rfl λK hK=>?_
    go_simp;rw[XG hxb.1];exact hK
   try case s13=>
    intro r a W hc hsz hold ah hnot hlo hhi hrk;have hr:=hrk 0 rfl;subst hr;have d12:=zV 86 (.int .i64 (x%2352)) (ah 12 rfl rfl _ rfl);have e12:=zq d12;clear hsz hold ah hnot hlo hhi hrk;refine ai rfl (ag rfl) ?_;refine iy (v:=.slice (some ⟨hz,0,none⟩) 1 1) (w':=wr.drew.alloc (.cells #[.int .i64 (x%2352)] 3)) (eP _ _ _) (show vZ _ _ _ _ 1 _ from rfl) rfl λK hK=>?_
    obtain rfl:W=wr.drew:=hc;go_simp;rw[<-HHZ.out];exact hK
   try case s14=>
    intro r a W hc hsz hold ah hnot hlo hhi hrk;have hr:=hrk 1 rfl;subst hr;have d10:=zV 84 vv (ah 10 rfl rfl _ rfl);have e10:=zq d10;have d13:=zV 87 (.slice (some ⟨hz,0,none⟩) 1 1) (ah 13 rfl rfl _ rfl);have e13:=zq d13;clear hsz hold ah hnot hlo hhi hrk;refine ai rfl (ag rfl) ?_;obtain rfl:W=_:=hc;have hA:=HR3.out;have v84:a.eval (.tmp 84)=vv:=d10;have v87:a.eval (.tmp 87)=.slice (some ⟨hz,0,none⟩) 1 1:=d13;refine iy (v:=v2) (w':=w2) (eP _ _ _) (show vZ _ _ _ _ 2 _ from rfl) rfl λK hK=>?_
    unfold Oper.wp execOp;simp only[resolve,invoke,builtin,Sem.run_bind,Sem.run_pure,Result.andThen_ok,List.map_toArray,Vh,Vg,v84,v87,hA];exact hK
   try case s15=>
    intro r a W hc hsz hold ah hnot hlo hhi hrk;have hr:=hrk 2 rfl;subst hr;have d3:=zV 77 (.map (some b)) (ah 3 rfl rfl _ rfl);have d4:=zV 78 (.int .i64 (ia:Nat)) (ah 4 rfl rfl _ rfl);have d14:=zV 88 v2 (ah 14 rfl rfl _ rfl);clear hsz hold ah hnot hlo hhi hrk;refine ai rfl (ag rfl) ?_;obtain rfl:W=_:=hc;have hA:=HR4.out;refine iy (v:=undef) (w':=w3) (eP _ _ _) (show vZ _ _ _ _ 3 _ from rfl) trivial λK hK=>?_
    go_simp;exact hK
   ·intro a W hC hd hsz hold hval;obtain⟨G,hG,ha⟩:=dK [74,75,76,77,78,79,80,81,82,83,84,85,86,87,88] (by kernel_rfl) hd hsz hold;rw[ha];clear ha hG hd hsz hold;simp only[cZ,Ym,List.set];have hW:W=w3:=hC;subst hW;clear hval hC;go_wp2_with fail;have HD4:=HD3.out;rw[<-HTK.out]at HD4;refine⟨⟨k+1,by omega,by go_num,HD4⟩,?_⟩;simp[RowKit.intOf];omega
  ·obtain rfl:k=O.length:=by omega
   have hdo:=hd;rw[YD]at hdo;obtain⟨D,hgr,hD⟩:=hdo.gr;rw[HO.out]at hD;have hD2:GrD D (fE M.n (M.scr++l)):=λi hi=>by have:=hD i hi;rwa[aaB]at this
   have hz7:=HB.out;have hz6:=HZZ.out;have hwb:w.heap.size<=b:=by have:=uG.out.size;omega
   have h48:w4.heap.size<=b:=by have:=aiG.out.size;omega
   have hz8:=HZ8.out;have h89:=HB9.out.size;have h9r:=hdo.le.size;have hfin:=cu.abj HC.out (w':=wr) (v:=.slice av4 (M.scr.length+l.length) cv4) (b:=b) (l:=l) (by rw[afs.out];exact hdo.x)
    ⟨hdo.le.os.trans (HB9.out.os.trans HG.out.os),hdo.le.tape.trans (HB9.out.tape.trans HG.out.tape),hdo.le.output.trans (HB9.out.output.trans HG.out.output),by omega,λk h1 h2=>(hdo.le.block k (by omega) (λe=>by have:=zs e;omega)).trans ((HB9.out.block k (by omega)).trans (HG.out.block k h1 h2))⟩
    (λw2 h2=>HS8.out w2 λk hk=>by
     have hk4:k<w4.heap.size:=hk.elim (λh=>zL (hRl.out k h) HB4.out.size) And.right;exact(h2 k (hk.imp id λh=>⟨h.1,by omega⟩)).trans ((hdo.le.block k (by omega) (λe=>by have:=zs e;omega)).trans (HB9.out.block k (by omega))))
    (λw2 h2=>LoM.move hgr (by omega) n2 hD2 λk hk hlt=>h2 k (.inr ⟨by omega,hlt⟩)) HLW.out ⟨hwb,by omega⟩
   rw[<-HZ.out]at hfin;have Zq:=zH hfin;clear hfin hD2 hD hgr hdo hd hz7 hz6 hwb h48 hz8 h89 h9r;go_wp2_with fail;go_ret;exact Zq.out
end wu
end Go.Proofs.YtfnehkmhcmkhjaaGreat
