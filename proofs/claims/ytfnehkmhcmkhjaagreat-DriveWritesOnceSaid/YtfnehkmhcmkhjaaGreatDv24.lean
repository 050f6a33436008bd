/- Parts:XId XIe XIf -/
import Derived.Test.YtfnehkmhcmkhjaaGreatDvAl
import Derived.Test.YtfnehkmhcmkhjaaGreatDv20
set_option maxRecDepth 100000
set_option maxHeartbeats 8000000
set_option linter.unusedVariables false
namespace Go.Proofs.YtfnehkmhcmkhjaaGreat
open Tryz
namespace T7
open Go Go.RowKit
def vN(l:List UInt8)(k j:Nat):UInt8:=if 12<=j/\j<12+k then G.ix l j ^^^ Gq (j - 12) 8 else G.ix l j
def vO(l:List UInt8)(k:Nat):List UInt8:=(List.range 2352).map (vN l k)
def oG(l:List UInt8):List UInt8:=vO l 2340
theorem iG(l:List UInt8)(k:Nat):(vO l k).length=2352:=by simp[vO]
theorem xP(l:List UInt8)(k:Nat){j:Nat}(h:j<2352):(vO l k)[j]? = some (vN l k j):=by simp[vO,h]
theorem xQ(l:List UInt8)(k:Nat){j:Nat}(h:j<2352):G.ix (vO l k) j=vN l k j:=by unfold G.ix;rw[List.getD_eq_getElem?_getD,xP l k h]; rfl
theorem BV{l:List UInt8}(h:l.length=2352):vO l 0=l:=by
 apply List.ext_getElem?;intro j;by_cases hj:j<2352
 ·rw[xP l 0 hj];unfold vN;rw[zi (by omega),List.getElem?_eq_getElem (by omega)];unfold G.ix;rw[List.getD_eq_getElem?_getD,List.getElem?_eq_getElem (by omega)]; rfl
 ·rw[List.getElem?_eq_none (by rw[iG]; omega),List.getElem?_eq_none (by omega)]
theorem P9(l:List UInt8){k:Nat}(h:k<2340):(vO l k).set (12+k) (G.ix l (12+k) ^^^ Gq k 8)=vO l (k+1):=by
 apply List.ext_getElem?;intro j;by_cases hj:j<2352
 ·rw[xP l _ hj,List.getElem?_set];by_cases e:12+k=j
  ·rw[zj e,zj (by rw[iG]; omega),<-e];unfold vN;rw[zj (by omega),show 12+k - 12=k from by omega]
  ·rw[zi e,xP l k hj];unfold vN;by_cases h2:12<=j/\j<12+k
   ·rw[zj h2,zj (by omega)]
   ·rw[zi h2,zi (by omega)]
 ·rw[List.getElem?_eq_none (by rw[List.length_set,iG]; omega),List.getElem?_eq_none (by rw[iG]; omega)]
theorem UU(l:List UInt8){k:Nat}(h:k<2340):G.ix (vO l k) (12+k)=G.ix l (12+k):=by rw[xQ l k (by omega)];unfold vN;rw[zi (by omega)]
theorem uy(l:List UInt8):(oG l).length=2352:=iG l _
theorem Qa{l:List UInt8}(h:l.length=2352):oG (oG l)=l:=by
 conv=>rhs; rw[<-BV h]
 unfold oG;refine List.map_congr_left fun j hj=>?_
 have hj:=List.mem_range.1 hj;show vN (vO l 2340) 2340 j=vN l 0 j;unfold vN;rw[xQ l 2340 hj];unfold vN;by_cases h2:12<=j/\j<12+2340
 ·rw[zj h2,zj h2,zi (by omega),UInt8.xor_assoc,UInt8.xor_self,UInt8.xor_zero]
 ·rw[zi h2,zi h2,zi (by omega)]
theorem abg{k:Nat}(h:k<2340):(bs (sH 2340))[k]? = some (B (Gq k 8)):=by simp[bs,sH,h]
theorem uz(l:List UInt8)(hl:l.length=2352)(w:World):
 Calls prog 69 #[.string (str l)] w fun e w'=>e=.returned (.tuple #[.string (str (oG l)),.int .i64 0])/\Below w.heap.size w w':=by
 obtain⟨s,hs⟩:∃s,s=str l:=⟨_,rfl⟩;have hsz:s.size=2352:=by rw[hs,ax,hl]
 have hsd:s.data.toList=l:=by rw[hs]; rfl
 have HK0:=zH (BV hl);have QI:=zH hsd;have QJ:=zH hsz;have HSQ:=zH (fun W=>Ep 2340 (by omega) (by omega) W);rw[<-hs];clear hs hsd hl;have q0:(((2352:Nat):Int) != 2352)=false:=rfl;go_enter func69,ntmps69;go_upto_region 4 with (first
  | (refine jh rfl _ rfl underlying9 underlying65 underlying5 rfl ?_
     intro w1 cap hr1 hb1 hcap1)
  | fail)
 rw[QI.out,<-HK0.out]at hr1;obtain⟨g,hg⟩:∃g,g=w.heap.size:=⟨_,rfl⟩;have HGW:=zH hg;rw[<-hg]at hr1 ⊢;have HR1:=zH hr1;have HB1:=zH hb1;clear hr1 hb1 hcap1 hg;go_wp2_with fail;refine(HSQ.out w1).mono ?_;rintro e w2 ⟨gk,rfl,hgk,hxk,hb2⟩;have HR2:=zH (HR1.out.below hb2);have HB2:=zH (HB1.out.trans (hb2.mono HB1.out.size));have LG:=zH hxk;have afB:g<gk:=zL HR1.out.lt hgk;clear hb2 hxk hgk;go_wp2_with fail
 go_loopw [13] (fun vk wr=>∃k:Nat,k<=2340/\vk=.int .i64 (k:Nat)/\Row wr 5 g cap (vO l k)/\Bx wr gk 5 (bs (sH 2340))/\Below w.heap.size w wr) (fun vk _=>2340 - (RowKit.intOf vk).toNat)
 case atStart=>exact⟨0,by omega,rfl,HR2.out,LG.out,HB2.out⟩
 case round=>
  obtain⟨k,hk,rfl,hr,hx,hb⟩:=hrel;have HX:=zH hx;have HB:=zH hb;have HR:=zH hr;by_cases hlt:k<2340
  ·have hc:=hr.cell (12+k) (by rw[iG]; omega);rw[UU l hlt]at hc;have hf:=hr.frozen (12+k) (by have:=hr.le; rw[iG]at this; omega);have hkc:=hx.cell (abg hlt);have hst:=hr.store (12+k) (G.ix l (12+k) ^^^ Gq k 8) (by rw[iG]; omega);rw[P9 l hlt]at hst;obtain⟨x,hxx⟩:∃x,x=G.ix l (12+k):=⟨_,rfl⟩;obtain⟨y,hyy⟩:∃y,y=Gq k 8:=⟨_,rfl⟩;rw[<-hxx]at hc hst;rw[<-hyy]at hkc hst;have hw1:IntKind.i64.wrap (12+(k:Int))=12+(k:Int):=IntWalk.i64_in _ (by omega);have hix:=fun w'=>aH underlying65 sizeU8s (a:=some ⟨g,0,none⟩) (n:=2352) (cap:=cap) (k:=12+k) (b:=g) (off:=0) rfl (by omega) (12+(k:Int)) (by omega) w'
   have hix2:=fun w'=>aH underlying65 sizeU8s (a:=some ⟨gk,0,none⟩) (n:=2340) (cap:=2340) (k:=k) (b:=gk) (off:=0) rfl hlt (k:Int) rfl w'
   simp only[Nat.mul_one,Nat.zero_add]at hix hix2;have hxb:Value.int .u8 (bits .xor .u8 (x.toNat:Int) (y.toNat:Int))=B (x ^^^ y):=congrArg (Value.int .u8) (YJ x y);have HXB:=zH hxb;have HST:Hid (Row (wr.setCell ⟨g,12+k,none⟩ (B (x ^^^ y))) 5 g cap (vO l (k+1))):=zH hst;clear hr hx hb hst hxx hyy hxb;go_upto_region 8 with (fail)
   go_still_tail 11,(by kernel_rfl);repeat still_step
   change wpList _ _ _ _ _ wr.drew;go_wp2_with fail;rw[HXB.out];have hdr:=(zB (wr.setCell ⟨g,12+k,none⟩ (B (x ^^^ y))).heap.size (wr.setCell ⟨g,12+k,none⟩ (B (x ^^^ y)))).drew;have HE1:=zH (HST.out.below hdr);have HE2:=zH ((HX.out.far (p:=⟨g,12+k,none⟩) (by simp only; omega) (B (x ^^^ y))).call hdr);have HE3:=zH ((HB.out.setCell (p:=⟨g,12+k,none⟩) (by rw[HGW.out]; exact zl _) (B (x ^^^ y))).drew);go_roundw;case rel=>exact⟨k+1,by omega,by go_num,HE1.out,HE2.out,HE3.out⟩
   case measure=>simp[RowKit.intOf]; omega
  ·obtain rfl:k=2340:=by omega
   have hrd:=hr.rd (by rw[iG]; omega);rw[iG]at hrd;have hcx:=dV (P:=prog) underlying65 underlying5 underlying9 hrd;clear hr hx hb hrd;go_wp2_with fail;go_ret2;exact⟨rfl,HB.out⟩
end T7
namespace T7
open Go Go.RowKit xA
theorem aft{P:Program}{t:TypeId}(ht:P.underlying t=some .string)(l:List UInt8)(lo hi:Nat)(h1:lo<=hi)(h2:hi<=l.length)(x y:Int)(hx:x=lo)(hy:y=hi)(w:World):
 (Instr.slice t (.string (str l)) (some (.int .i64 x)) (some (.int .i64 y)) none).run P w=.ok (.string (str ((l.drop lo).take (hi - lo)))) w:=by
 subst hx hy;have e:(str l).extract lo hi=str ((l.drop lo).take (hi - lo)):=by apply ByteArray.ext;rw[ByteArray.data_extract];simp[str]
 simp[Instr.slice,run_underlying ht,Instr.sliceBounds,run_sliceBound,ax,h2,h1,e]
theorem U6{P:Program}{t:TypeId}(ht:P.underlying t=some .string)(l:List UInt8)(lo:Nat)(h1:lo<=l.length)(x:Int)(hx:x=lo)(w:World):
 (Instr.slice t (.string (str l)) (some (.int .i64 x)) none none).run P w=.ok (.string (str (l.drop lo))) w:=by
 subst hx;have e:(str l).extract lo l.length=str (l.drop lo):=by apply ByteArray.ext;rw[ByteArray.data_extract];simp[str];exact List.take_of_length_le (by simp)
 simp[Instr.slice,run_underlying ht,Instr.sliceBounds,run_sliceBound,ax,h1,e]
theorem zW{P:Program}{t:TypeId}(ht:P.underlying t=some .string)(l:List UInt8)(hi:Nat)(h2:hi<=l.length)(y:Int)(hy:y=hi)(w:World):
 (Instr.slice t (.string (str l)) none (some (.int .i64 y)) none).run P w=.ok (.string (str (l.take hi))) w:=by
 subst hy;have e:(str l).extract 0 hi=str (l.take hi):=by apply ByteArray.ext;rw[ByteArray.data_extract];simp[str]
 simp[Instr.slice,run_underlying ht,Instr.sliceBounds,run_sliceBound,ax,h2,e]
theorem Yr(l m:List UInt8):str l++str m=str (l++m):=by apply ByteArray.ext;simp[str]
def lS:List UInt8:=[0,255,255,255,255,255,255,255,255,255,255,0]
def VQ:List Value:=bs lS
def sw:Nat->Array Value
 | 0=>Array.replicate 12 (.int .u8 0)
 | k+1=>if k=0 then sw 0 else(sw k).setIfInBounds k (.int .u8 255)
theorem Ew:∀k,(sw k).size=12
 | 0=>by simp[sw]
 | k+1=>by
   rw[sw];split
   ·simp[sw]
   ·rw[Array.size_setIfInBounds,Ew k]
theorem Yt(k i:Nat)(h:i<12):∃v,(sw k)[i]? = some v:=by
 have:i<(sw k).size:=by rw[Ew]; exact h
 exact⟨_,Array.getElem?_eq_getElem this⟩
theorem abI:sw 11=VQ.toArray:=by kernel_rfl
theorem YN:∀w,(zeroValue 239).run prog w=.ok (.agg (sw 0)) w:=fun _=>by kernel_rfl
theorem Ib(w:World):Calls prog 138 #[] w fun e w'=>e=.returned (.agg VQ.toArray)/\Below w.heap.size w w':=by
 have hz:=YN;go_enter func138,ntmps138;go_wp2_with fail;have h0:((w.alloc (.cells (sw 0) 239)).alloc (.cells (sw 0) 239)).heap[w.heap.size]? = some (.cells (sw 0) 239):=heap_alloc2_old _ _ _;have h1:((w.alloc (.cells (sw 0) 239)).alloc (.cells (sw 0) 239)).heap[w.heap.size+1]? = some (.cells (sw 0) 239):=heap_alloc2_new _ _ _;have h2:Below w.heap.size w ((w.alloc (.cells (sw 0) 239)).alloc (.cells (sw 0) 239)):=((zB _ _).alloc (zl _) _).alloc (by simp) _;generalize (w.alloc (.cells (sw 0) 239)).alloc (.cells (sw 0) 239)=w1 at h0 h1 h2 ⊢;clear hz
 go_loopw [2] (fun vk wr=>∃k:Nat,1<=k/\k<=11/\vk=.int .i64 k/\wr.heap[w.heap.size]? = some (.cells (sw 0) 239)/\wr.heap[w.heap.size+1]? = some (.cells (sw k) 239)/\Below w.heap.size w wr) (fun vk _=>11 - (RowKit.intOf vk).toNat)
 case atStart=>exact⟨1,by omega,by omega,rfl,h0,(by rw[show sw 1=sw 0 from by simp[sw]]; exact h1),h2⟩
 case round=>
  obtain⟨k,hk1,hk,rfl,g0,g1,g2⟩:=hrel;clear h0 h1 h2;by_cases hlt:k<11
  ·obtain⟨v,hv⟩:=Yt k k (by omega);have hc:wr.cell? ⟨w.heap.size+1,k,none⟩=some v:=by rw[cell_of_row wr _ k _ _ _ g1]; exact hv
   have hf:=frozen_of_row wr _ k _ _ g1;clear hv;have G0:=zH g0; have G1:=zH g1; clear g0 g1;have hk12:k<12:=by omega
   go_wp2_with fail;go_roundw;case rel=>
    refine⟨k+1,by omega,by omega,by go_num,?_,?_,g2.setCell (by simp) _⟩
    ·rw[heap_setCell_other _ _ _ _ (by simp)]; exact G0.out
    ·rw[sw,zi (by omega)];exact heap_setCell_same _ _ _ _ _ _ G1.out
   case measure=>simp[RowKit.intOf]; omega
  ·obtain rfl:k=11:=by omega
   rw[abI]at g1;have G0:=zH g0; have G1:=zH g1; clear g0 g1;have hi:(prog.info? 239).map (·.size)=some VQ.toArray.size:=by kernel_rfl
   have h1:VQ.toArray.all (·.oneCell')=true:=by kernel_rfl
   go_wp2_with (first | (refine wpList_load_row rfl 239 _ rfl _ rfl 239 _ _ _ G1.out underlying239 rfl hi ?_) | (refine wpList_store_row rfl 239 _ _ rfl w.heap.size VQ.toArray rfl rfl 239 _ G0.out hi (by rw[Ew]; rfl) h1 ?_));exact zr (v:=.agg VQ.toArray) (results_cell_row rfl _ _ w.heap.size 239 VQ.toArray (0,0) _ rfl (setRow_heap _ _ _ _ _ _ G0.out) underlying239 rfl hi) rfl ⟨rfl,Below.setRow g2 (zl _) _⟩
def Gv:Value:=.agg #[.int .u8 1,.int .i64 16,.int .i64 2048,.int .i64 0]
theorem Bi(w:World):Calls prog 147 #[Gv] w fun e w'=>e=.returned (.int .i64 2064)/\Below w.heap.size w w':=by unfold Gv;go_enter func147,ntmps147;go_wp2_with fail;go_ret;exact⟨rfl,(zB _ _).alloc (zl _) _⟩
theorem qC(w:World):Calls prog 135 #[.int .i64 0] w fun e w'=>e=.returned (.tuple #[Gv,.bool true])/\Below w.heap.size w w':=by unfold Gv;go_enter func135,ntmps135;go_wp2_with fail;refine zr (v:=.tuple #[.agg #[.int .u8 1,.int .i64 16,.int .i64 2048,.int .i64 0],.bool true]) (by simp[results,results135,go_sem]) rfl ⟨rfl,((zB _ _).alloc (zl _) _).alloc (by simp) _⟩
theorem add_any(p l:List UInt8)(g:Nat)(w:World)(hx:Bx w g 9 [.string (str l)])(hl:l.length+p.length<=1000000):
 Calls prog 139 #[.string (str p),.pointer (some ⟨g,0,none⟩)] w fun e w'=>e=.returned (.tuple #[])/\w'=w.setCell ⟨g,0,none⟩ (.string (str (l++p))):=by
 have c0:=hx.cell (i:=0) rfl;have f0:=hx.free 0;have HS:Hid (str l++str p=str (l++p)):=zH (Yr _ _);have h1:=ax l;have h2:=ax p;go_enter func139,ntmps139;go_wp2_with fail;rw[HS.out];go_end0;exact⟨rfl,rfl⟩
def Hw(aj:Int)(d:List UInt8):Value:=.agg #[.int .i64 aj,.int .i64 0,.int .i64 0,.int .i64 0,.int .i64 0,.int .i64 0,.string (str d)]
theorem U7(aj:Int)(d:List UInt8)(w:World)(h0:-150<=aj)(h1:aj<=449849)(hd:d.length=2048):
 Calls prog 134 #[Hw aj d] w fun e w'=>e=.returned (.bool true)/\Below w.heap.size w w':=by
 have hA:=(zB w.heap.size w).alloc (zl _) (.cells #[.int .i64 aj,.int .i64 0,.int .i64 0,.int .i64 0,.int .i64 0,.int .i64 0,.string (str d)] 157);have hx:=Bx.new w 157 [.int .i64 aj,.int .i64 0,.int .i64 0,.int .i64 0,.int .i64 0,.int .i64 0,.string (str d)];change Bx (w.alloc (.cells #[.int .i64 aj,.int .i64 0,.int .i64 0,.int .i64 0,.int .i64 0,.int .i64 0,.string (str d)] 157)) _ _ _ at hx;have hsz:=ax d;rw[hd]at hsz;have hsz2:(str d).data.size=2048:=hsz;have HM:=zH (fun W=>Ic aj W h0 h1);have HL:=zH qC;unfold Gv at HL;unfold Hw;obtain⟨S,hS⟩:∃S,S=str d:=⟨_,rfl⟩;rw[<-hS]at hA hx hsz hsz2 ⊢;clear hS;obtain⟨b,hb⟩:∃b,b=w.heap.size:=⟨_,rfl⟩;have HB:=zH hb;rw[<-hb]at hx;have HX:=zH hx;have HA:=zH hA;have c0:=hx.cell (i:=0) rfl;have c1:=hx.cell (i:=1) rfl;clear hA hx hb;go_enter func134,ntmps134;go_upto_region 1 with (fail)
 rw[<-HB.out];generalize w.alloc (.cells #[.int .i64 aj,.int .i64 0,.int .i64 0,.int .i64 0,.int .i64 0,.int .i64 0,.string S] 157)=w1 at *;go_wp2_with fail;refine(HL.out w1).mono ?_;rintro e w2 ⟨rfl,hb2⟩;have LG:=zH ((HX.out.call hb2).alloc (.cells #[.int .u8 1,.int .i64 16,.int .i64 2048,.int .i64 0] 231));have HA2:=zH ((HA.out.trans (hb2.mono HA.out.size)).alloc (by have:=HA.out.size; have:=hb2.size; omega) (.cells #[.int .u8 1,.int .i64 16,.int .i64 2048,.int .i64 0] 231));have hl2:=Bx.new w2 231 [.int .u8 1,.int .i64 16,.int .i64 2048,.int .i64 0];change Bx (w2.alloc (.cells #[.int .u8 1,.int .i64 16,.int .i64 2048,.int .i64 0] 231)) _ _ _ at hl2;obtain⟨lb,hlb⟩:∃lb,lb=w2.heap.size:=⟨_,rfl⟩;have VY:=zH hlb;rw[<-hlb]at hl2;have HL2:=zH hl2;clear hb2 hl2 hlb c0 c1;have c0:=LG.out.cell (i:=0) rfl;go_upto_region 2 with (fail)
 rw[<-VY.out];generalize w2.alloc (.cells #[.int .u8 1,.int .i64 16,.int .i64 2048,.int .i64 0] 231)=w3 at *;go_wp2_with fail;refine(HM.out w3).mono ?_;rintro e w4 ⟨rfl,hb4⟩;have hm:(Ub (aj+150))=.agg #[.int .i64 (Q.mM (aj+150)),.int .i64 (Q.mS (aj+150)),.int .i64 (Q.mF (aj+150))]:=rfl;rw[hm];have ny:=zH ((LG.out.call hb4).alloc (.cells #[.int .i64 (Q.mM (aj+150)),.int .i64 (Q.mS (aj+150)),.int .i64 (Q.mF (aj+150))] 235));have HL4:=zH ((HL2.out.call hb4).alloc (.cells #[.int .i64 (Q.mM (aj+150)),.int .i64 (Q.mS (aj+150)),.int .i64 (Q.mF (aj+150))] 235));have ZE:=zH ((HA2.out.trans (hb4.mono HA2.out.size)).alloc (by have:=HA2.out.size; have:=hb4.size; omega) (.cells #[.int .i64 (Q.mM (aj+150)),.int .i64 (Q.mS (aj+150)),.int .i64 (Q.mF (aj+150))] 235));clear hb4 c0 hm;have c1:=ny.out.cell (i:=1) rfl;have c2:=ny.out.cell (i:=2) rfl;have c3:=ny.out.cell (i:=3) rfl;have c4:=ny.out.cell (i:=4) rfl;have c5:=ny.out.cell (i:=5) rfl;have c6:=ny.out.cell (i:=6) rfl;have l2:=HL4.out.cell (i:=2) rfl;go_wp2_with fail;go_ret;exact⟨rfl,ZE.out⟩
theorem Fh(l:List UInt8)(hl:l.length<=1000000)(w:World):Calls prog 140 #[.string (str l),.int .i64 0] w fun e w'=>e=.returned (.string (str (jX (qy 0 l))))/\Below w.heap.size w w':=by
 have hlt:qy 0 l<4294967296:=Jp (by omega) l;have HE:Hid (∀W,Calls prog 227 #[.string (str l)] W fun e w'=>e=.returned (.int .u32 (qy 0 l:Nat))/\Below W.heap.size W w'):=zH (fun W=>WU (str l) W (by rw[ax]; exact hl));have HC:=zH (fun W=>Di (qy 0 l) W hlt);have hsl:∀W,(Instr.slice 9 (.string (str l)) (some (.int .i64 0)) none none).run prog W=.ok (.string (str l)) W:=fun W=>by have h:=U6 (P:=prog) underlying9 l 0 (by omega) 0 rfl W;rwa[List.drop_zero]at h
 generalize qy 0 l=c at *;generalize str l=S at *;go_enter func140,ntmps140;go_wp2_with fail;refine(HE.out w).mono ?_;rintro e w1 ⟨rfl,hb1⟩;go_wp2_with fail;refine(HC.out w1).mono ?_;rintro e w2 ⟨rfl,hb2⟩;have HB:=zH (hb1.trans (hb2.mono hb1.size));clear hb1 hb2;go_wp2_with fail;go_ret;exact⟨rfl,HB.out⟩
def kP(aj:Int):List UInt8:=Ah (Q.mM (aj+150)) (Q.mS (aj+150)) (Q.mF (aj+150))
theorem oN(aj:Int):(kP aj).length=3:=rfl
def eG(aj:Int)(d:List UInt8):List UInt8:=((lS++kP aj)++[1])++d
def E8(aj:Int)(d:List UInt8):List UInt8:=(eG aj d++jX (qy 0 (eG aj d)))++List.replicate 284 0
theorem mg(aj:Int){d:List UInt8}(h:d.length=2048):(eG aj d).length=2064:=by simp[eG,oN,lS,h]
theorem mr(c:Nat):(jX c).length=4:=rfl
theorem qp(aj:Int){d:List UInt8}(h:d.length=2048):(E8 aj d).length=2352:=by unfold E8;rw[List.length_append,List.length_append,mg aj h,mr,List.length_replicate]
theorem xJ{aj:Int}(h0:-150<=aj)(h1:aj<=449849):okA (Q.mM (aj+150)) (Q.mS (aj+150)) (Q.mF (aj+150)):=by unfold okA Q.mM Q.mS Q.mF;omega
theorem LM(aj:Int)(d:List UInt8)(w:World)(h0:-150<=aj)(h1:aj<=449849)(hd:d.length=2048):
 Calls prog 70 #[Hw aj d] w fun e w'=>e=.returned (.tuple #[.string (str (E8 aj d)),.int .i64 0])/\Below w.heap.size w w':=by
 have HV:=zH (fun W=>U7 aj d W h0 h1 hd);have HL:=zH qC;have HM:=zH (fun W=>Ic aj W h0 h1);have HE:=zH (fun W=>Rk _ _ _ W (xJ h0 h1));have HS:=zH Ib;have hm:(Ub (aj+150))=.agg #[.int .i64 (Q.mM (aj+150)),.int .i64 (Q.mS (aj+150)),.int .i64 (Q.mF (aj+150))]:=rfl;have hm2:iV (Q.mM (aj+150)) (Q.mS (aj+150)) (Q.mF (aj+150))=.agg #[.int .i64 (Q.mM (aj+150)),.int .i64 (Q.mS (aj+150)),.int .i64 (Q.mF (aj+150))]:=rfl;rw[hm]at HM;rw[hm2]at HE;change Hid (∀W,Calls _ _ _ W (R2B (.string (str (kP aj))) (.int .i64 0) W)) at HE;clear hm hm2;generalize hqm:Q.mM (aj+150)=qm at *;generalize hqs:Q.mS (aj+150)=qs at *;generalize hqf:Q.mF (aj+150)=qf at *;clear hqm hqs hqf;unfold Gv at HL;unfold Hw at HV ⊢;have hsv:VQ = [.int .u8 0,.int .u8 255,.int .u8 255,.int .u8 255,.int .u8 255,.int .u8 255,.int .u8 255,.int .u8 255,.int .u8 255,.int .u8 255,.int .u8 255,.int .u8 0]:=by kernel_rfl
 have wC:=zH hsv;rw[hsv]at HS;clear hsv;obtain⟨w1,hw1⟩:∃w1,w1=w.alloc (.cells #[.int .i64 aj,.int .i64 0,.int .i64 0,.int .i64 0,.int .i64 0,.int .i64 0,.string (str d)] 157):=⟨_,rfl⟩;have hA:=(zB w.heap.size w).alloc (zl _) (.cells #[.int .i64 aj,.int .i64 0,.int .i64 0,.int .i64 0,.int .i64 0,.int .i64 0,.string (str d)] 157);obtain⟨b,hb⟩:∃b,b=w.heap.size:=⟨_,rfl⟩;have hx:Bx w1 b 157 [.int .i64 aj,.int .i64 0,.int .i64 0,.int .i64 0,.int .i64 0,.int .i64 0,.string (str d)]:=by rw[hw1,hb]; exact Bx.new w _ _
 rw[<-hw1]at hA;have HB:=zH hb;have HW1:Hid (w.alloc (.cells #[.int .i64 aj,.int .i64 0,.int .i64 0,.int .i64 0,.int .i64 0,.int .i64 0,.string (str d)] 157)=w1):=zH hw1.symm;have HX1:=zH hx;have HA1:=zH hA;have c0:=hx.cell (i:=0) rfl;have c1:=hx.cell (i:=1) rfl;have c2:=hx.cell (i:=2) rfl;have c3:=hx.cell (i:=3) rfl;have c4:=hx.cell (i:=4) rfl;have c5:=hx.cell (i:=5) rfl;have c6:=hx.cell (i:=6) rfl;clear hw1 hA hb hx;go_enter func70,ntmps70;go_upto_region 1 with (fail)
 rw[HW1.out,<-HB.out];go_wp2_with fail;refine(HV.out w1).mono ?_;rintro e w2 ⟨rfl,hb2⟩;have LG:=zH (HX1.out.call hb2);have HA2:=zH (HA1.out.trans (hb2.mono HA1.out.size));clear hb2 c0 c1 c2 c3 c4 c5 c6;have c1:=LG.out.cell (i:=1) rfl;go_wp2_with fail;refine(HL.out w2).mono ?_;rintro e w3 ⟨rfl,hb3⟩;obtain⟨lb,hlb⟩:∃lb,lb=w3.heap.size:=⟨_,rfl⟩;obtain⟨w4,hw4⟩:∃w4,w4=w3.alloc (.cells #[.int .u8 1,.int .i64 16,.int .i64 2048,.int .i64 0] 231):=⟨_,rfl⟩;have wH:=(zB w3.heap.size w3).alloc (zl _) (.cells #[.int .u8 1,.int .i64 16,.int .i64 2048,.int .i64 0] 231);rw[<-hw4]at wH;have hb4:=hb3.trans (wH.mono hb3.size);have HL4:Hid (Bx w4 lb 231 [.int .u8 1,.int .i64 16,.int .i64 2048,.int .i64 0]):=zH (by rw[hw4,hlb]; exact Bx.new w3 _ _);have ny:=zH (LG.out.call hb4);have ZE:=zH (HA2.out.trans (hb4.mono HA2.out.size));have V7:Hid (w3.alloc (.cells #[.int .u8 1,.int .i64 16,.int .i64 2048,.int .i64 0] 231)=w4):=zH hw4.symm;have VY:=zH hlb;clear hb3 wH hb4 hw4 hlb c1;go_upto_region 4 with (fail)
 rw[V7.out,<-VY.out];have c0:=ny.out.cell (i:=0) rfl;go_wp2_with fail;refine(HM.out w4).mono ?_;rintro e w5 ⟨rfl,hb5⟩;obtain⟨mb,hmb⟩:∃mb,mb=w5.heap.size:=⟨_,rfl⟩;obtain⟨w6,hw6⟩:∃w6,w6=w5.alloc (.cells #[.int .i64 qm,.int .i64 qs,.int .i64 qf] 235):=⟨_,rfl⟩;have QL:=(zB w5.heap.size w5).alloc (zl _) (.cells #[.int .i64 qm,.int .i64 qs,.int .i64 qf] 235);rw[<-hw6]at QL;have hb6:=hb5.trans (QL.mono hb5.size);have hm6:Bx w6 mb 235 [.int .i64 qm,.int .i64 qs,.int .i64 qf]:=by rw[hw6,hmb]; exact Bx.new w5 _ _
 have IV:=zH (ny.out.call hb6);have HL6:=zH (HL4.out.call hb6);have ZH:=zH (ZE.out.trans (hb6.mono ZE.out.size));have HW6:Hid (w5.alloc (.cells #[.int .i64 qm,.int .i64 qs,.int .i64 qf] 235)=w6):=zH hw6.symm;have HMB:=zH hmb;clear hb5 QL hb6 hw6 hmb c0;go_upto_region 5 with (fail)
 rw[HW6.out,<-HMB.out];have c0:=hm6.cell (i:=0) rfl;have c1:=hm6.cell (i:=1) rfl;have c2:=hm6.cell (i:=2) rfl;clear hm6;go_wp2_with fail;refine(HE.out w6).mono ?_;rintro e w7 ⟨rfl,hb7⟩;clear c0 c1 c2;have LH:=zH (IV.out.call hb7);have HL7:=zH (HL6.out.call hb7);have HA7:=zH (ZH.out.trans (hb7.mono ZH.out.size));clear hb7;go_wp2_with fail;refine(HS.out w7).mono ?_;rintro e w8 ⟨rfl,hb8⟩;have QK:=zH (LH.out.call hb8);have HL8:=zH (HL7.out.call hb8);have HA8:=zH (HA7.out.trans (hb8.mono HA7.out.size));clear hb8;go_upto_region 7 with (fail)
 obtain⟨fb,hfb⟩:∃fb,fb=w8.heap.size:=⟨_,rfl⟩;obtain⟨w9,Xu⟩:∃w9,w9=w8.alloc (.cells #[.int .u8 0,.int .u8 255,.int .u8 255,.int .u8 255,.int .u8 255,.int .u8 255,.int .u8 255,.int .u8 255,.int .u8 255,.int .u8 255,.int .u8 255,.int .u8 0] 239):=⟨_,rfl⟩;have hA9:=(zB w8.heap.size w8).alloc (zl _) (.cells #[.int .u8 0,.int .u8 255,.int .u8 255,.int .u8 255,.int .u8 255,.int .u8 255,.int .u8 255,.int .u8 255,.int .u8 255,.int .u8 255,.int .u8 255,.int .u8 0] 239);rw[<-Xu]at hA9;have Zi:Bx w9 fb 239 (bs lS):=by rw[show bs lS=VQ from rfl,wC.out,Xu,hfb];exact Bx.new w8 _ _
 have hrd:Rd w9 (.slice (some ⟨fb,0,none⟩) 12 12) lS:=⟨by decide,some ⟨fb,0,none⟩,12,fb,0,rfl,by decide,fun i hi=>⟨rfl,by rw[Nat.zero_add]; exact Zi.cell (jK hi)⟩⟩;have hcv:=dV (P:=prog) underlying65 underlying5 underlying9 hrd;have V8:=zH (QK.out.call hA9);have HL9:=zH (HL8.out.call hA9);have HA9:=zH (HA8.out.trans (hA9.mono HA8.out.size));have HF9:=zH Zi;rw[<-Xu,<-hfb];clear hA9 Zi hrd Xu hfb;obtain⟨rb,hrb⟩:∃rb,rb=w9.heap.size:=⟨_,rfl⟩;obtain⟨w10,Xp⟩:∃w10,w10=w9.alloc (.cells #[.string (str lS)] 9):=⟨_,rfl⟩;have hA10:=(zB w9.heap.size w9).alloc (zl _) (.cells #[.string (str lS)] 9);rw[<-Xp]at hA10;have adh:Bx w10 rb 9 [.string (str lS)]:=by rw[Xp,hrb]; exact Bx.new w9 _ _
 have ach:=zH adh;have aeG:=zH (V8.out.call hA10);have aen:=zH (HL9.out.call hA10);have adX:=zH (HA9.out.trans (hA10.mono HA9.out.size));have aeD:Hid (w9.alloc (.cells #[.string (str lS)] 9)=w10):=zH Xp.symm;have YU:=zH hrb;have hbr:b<rb:=by rw[hrb]; exact V8.out.lt
 have hlr:lb<rb:=by rw[hrb]; exact HL9.out.lt
 have hwr:w.heap.size<=rb:=by rw[hrb]; exact HA9.out.size
 clear hA10 adh Xp hrb;go_upto_region 8 with (fail)
 rw[aeD.out,<-YU.out];have rJ:=zH (add_any (kP aj) lS rb w10 ach.out (by rw[oN]; decide));go_wp2_with fail;refine rJ.out.mono ?_;rintro e w' ⟨rfl,rfl⟩;have hr:=ach.out.set 0 (.string (str (lS++(kP aj))));rw[List.set_cons_zero]at hr;have jT:=zH (aeG.out.far (p:=⟨rb,0,none⟩) (by simp only; omega) (.string (str (lS++(kP aj)))));have ace:=zH (aen.out.far (p:=⟨rb,0,none⟩) (by simp only; omega) (.string (str (lS++(kP aj)))));have abU:=zH (adX.out.setCell (p:=⟨rb,0,none⟩) hwr (.string (str (lS++(kP aj)))));generalize w10.setCell ⟨rb,0,none⟩ (.string (str (lS++(kP aj))))=QT at *;have aew:=zH hr;clear hr rJ;obtain⟨w12,Xq⟩:∃w12,w12=QT.alloc (.cells #[.int .u8 1] 5):=⟨_,rfl⟩;have OB:=(zB QT.heap.size QT).alloc (zl _) (.cells #[.int .u8 1] 5);rw[<-Xq]at OB;have hrd:=Rd.lit QT [1] 5 (by decide);have hcv2:=dV (P:=prog) underlying65 underlying5 underlying9 hrd;change (convert 65 9 (.slice (some ⟨QT.heap.size,0,none⟩) 1 1)).run prog (QT.alloc (.cells #[.int .u8 1] 5))=.ok (.string (str [1])) (QT.alloc (.cells #[.int .u8 1] 5)) at hcv2;have aeH:=zH (jT.out.call OB);have aeo:=zH (ace.out.call OB);have aci:=zH (aew.out.call OB);have adY:=zH (abU.out.trans (OB.mono abU.out.size));have l0:=ace.out.cell (i:=0) rfl;clear OB hrd;have rJ:=zH (add_any [1] (lS++kP aj) rb w12 aci.out (by simp only[List.length_append,oN,List.length_cons,List.length_nil,show lS.length=12 from rfl]; omega));rw[Xq]at rJ;go_wp2_with fail;refine rJ.out.mono ?_;rintro e w' ⟨rfl,rfl⟩;have hr:=aci.out.set 0 (.string (str ((lS++kP aj)++[1])));rw[List.set_cons_zero]at hr;have aab:=zH (aeH.out.far (p:=⟨rb,0,none⟩) (by simp only; omega) (.string (str ((lS++kP aj)++[1]))));have aep:=zH (aeo.out.far (p:=⟨rb,0,none⟩) (by simp only; omega) (.string (str ((lS++kP aj)++[1]))));have adZ:=zH (adY.out.setCell (p:=⟨rb,0,none⟩) hwr (.string (str ((lS++kP aj)++[1]))));rw[<-Xq];generalize w12.setCell ⟨rb,0,none⟩ (.string (str ((lS++kP aj)++[1])))=w13 at *;have acj:=zH hr;clear hr rJ;clear hcv2 l0 Xq hcv;have c1:=aab.out.cell (i:=1) rfl;have c6:=aab.out.cell (i:=6) rfl;have rJ:=zH (add_any d ((lS++kP aj)++[1]) rb w13 acj.out (by simp only[List.length_append,oN,hd,List.length_cons,List.length_nil,show lS.length=12 from rfl]; omega));go_wp2_with fail;refine rJ.out.mono ?_;rintro e w' ⟨rfl,rfl⟩;have hr:=acj.out.set 0 (.string (str (((lS++kP aj)++[1])++d)));rw[List.set_cons_zero]at hr;have aeI:=zH (aab.out.far (p:=⟨rb,0,none⟩) (by simp only; omega) (.string (str (((lS++kP aj)++[1])++d))));have acf:=zH (aep.out.far (p:=⟨rb,0,none⟩) (by simp only; omega) (.string (str (((lS++kP aj)++[1])++d))));have abV:=zH (adZ.out.setCell (p:=⟨rb,0,none⟩) hwr (.string (str (((lS++kP aj)++[1])++d))));generalize w13.setCell ⟨rb,0,none⟩ (.string (str (((lS++kP aj)++[1])++d)))=w14 at *;have Z7:=zH hr;clear hr rJ;clear c1 c6;change Hid (Bx w14 rb 9 [.string (str (eG aj d))]) at Z7;have hbl:=mg aj hd;have HCO:=zH (fun W=>Fh (eG aj d) (by omega) W);have r0:=Z7.out.cell (i:=0) rfl;have l3:=acf.out.cell (i:=3) rfl;go_wp2_with fail;refine(HCO.out w14).mono ?_;rintro e w15 ⟨rfl,Tj⟩;have ack:=zH (Z7.out.call Tj);have aeJ:=zH (aeI.out.call Tj);have aeq:=zH (acf.out.call Tj);have ad1:=zH (abV.out.trans (Tj.mono abV.out.size));clear Tj r0 l3;have rJ:=zH (add_any (jX (qy 0 (eG aj d))) (eG aj d) rb w15 ack.out (by rw[mr,hbl]; decide));go_wp2_with fail;refine rJ.out.mono ?_;rintro e w' ⟨rfl,rfl⟩;have hr:=ack.out.set 0 (.string (str (eG aj d++jX (qy 0 (eG aj d)))));rw[List.set_cons_zero]at hr;have acu:=zH (aeJ.out.far (p:=⟨rb,0,none⟩) (by simp only; omega) (.string (str (eG aj d++jX (qy 0 (eG aj d))))));have afs:=zH (aeq.out.far (p:=⟨rb,0,none⟩) (by simp only; omega) (.string (str (eG aj d++jX (qy 0 (eG aj d))))));have abW:=zH (ad1.out.setCell (p:=⟨rb,0,none⟩) hwr (.string (str (eG aj d++jX (qy 0 (eG aj d))))));generalize w15.setCell ⟨rb,0,none⟩ (.string (str (eG aj d++jX (qy 0 (eG aj d)))))=w16 at *;have acm:=zH hr;clear hr rJ;have r0:=acm.out.cell (i:=0) rfl;have hl4:(str (eG aj d++jX (qy 0 (eG aj d)))).size=2068:=by rw[ax,List.length_append,hbl,mr]
 have hl5:(str (eG aj d++jX (qy 0 (eG aj d)))).data.size=2068:=hl4;have hl6:(eG aj d++jX (qy 0 (eG aj d))).length=2068:=by rw[List.length_append,hbl,mr]
 have EO:Hid (E8 aj d=(eG aj d++jX (qy 0 (eG aj d)))++List.replicate 284 0):=zH rfl;obtain⟨Z,hZ⟩:∃Z:List UInt8,Z=List.replicate 284 0:=⟨_,rfl⟩;have HZ:=zH hZ;rw[<-hZ]at EO;clear hZ;generalize eG aj d++jX (qy 0 (eG aj d))=L4 at *;have HL6:=zH hl6;go_upto_region 16 with (fail)
 go_wp2_with (first
  | (refine lC rfl _ _ rfl (base:=w16.heap.size) underlying65 infoU8s 284 rfl rfl (by omega) (by omega) (by omega) (zl _) ?_
     intro w17 aa7 ac7;rw[<-HZ.out]at aa7;have hrd:=Rd.nO aa7 (by omega);have hcv:=dV (P:=prog) underlying65 underlying5 underlying9 hrd;have aaQ:=(zB w16.heap.size w16).grown ac7 (zl _) (fun k hk=>by cases hk);have acn:=zH (acm.out.call aaQ);have ad2:=zH (abW.out.trans (aaQ.mono abW.out.size));have rJ:=zH (add_any (Z) L4 rb w17 acn.out (by rw[HL6.out,HZ.out,List.length_replicate]; decide));clear aa7 ac7 hrd aaQ)
  | fail)
 refine rJ.out.mono ?_;rintro e w' ⟨rfl,rfl⟩;have hr:=acn.out.set 0 (.string (str (L4++Z)));rw[List.set_cons_zero]at hr;have ad3:=zH (ad2.out.setCell (p:=⟨rb,0,none⟩) hwr (.string (str (L4++Z))));generalize w17.setCell ⟨rb,0,none⟩ (.string (str (L4++Z)))=w18 at *;have r1:=hr.cell (i:=0) rfl;clear hr rJ r0;go_wp2_with fail;go_ret2;exact⟨by rw[EO.out]; rfl,ad3.out⟩
end T7
end Go.Proofs.YtfnehkmhcmkhjaaGreat
