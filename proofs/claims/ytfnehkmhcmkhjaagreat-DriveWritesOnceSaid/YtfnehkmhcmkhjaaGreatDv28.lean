/- Parts:XGd XHa XHfx -/
import Derived.Test.YtfnehkmhcmkhjaaGreatDvAl
import Derived.Test.YtfnehkmhcmkhjaaGreatDv25
import Derived.Test.YtfnehkmhcmkhjaaGreatDv22
set_option maxRecDepth 100000
set_option maxHeartbeats 8000000
set_option linter.unusedVariables false
namespace Go.Proofs.YtfnehkmhcmkhjaaGreat
open Tryz
namespace oH
open Go.RowKit Go.Maps C9
open W8 (is)
def lU(b:Bool)(w:World)(e:Ending)(w':World):Prop:=e=.returned (.bool b)/\Below w.heap.size w w'
theorem iY{M:aP}{a:Int}(h:¬ ((0<=a/\a<M.n)/\M.Ja a.toNat)):M.kQ a=false:=by unfold aP.kQ; rw[decide_eq_false_iff_not]; exact h
theorem oU{M:aP}{a:Int}(h:(0<=a/\a<M.n)/\M.Ja a.toNat):M.kQ a=true:=by unfold aP.kQ; simp only[h,and_self,decide_true]
theorem Aq{w:World}{g:Nat}{M:aP}{X R:Nat->Prop}{N:Nat}(h:gZ w g M X R)(ho:M.Ok N)(a:Int)(hr:¬ (0<=a/\a<(M.n:Int))):
 Calls prog 73 #[.pointer (some ⟨g,0,none⟩),.int .i64 a] w (lU false w):=by
 obtain⟨L,hc⟩:=h;have HH:=zH (nY hc ho.n.2 a);rw[zf hr]at HH;clear hc ho hr;go_enter func73,ntmps73;go_wp2_with fail;refine HH.out.mono ?_;rintro e w' ⟨rfl,rfl⟩;go_wp2_with fail;go_ret;exact⟨rfl,zB _ _⟩
theorem Fb{w:World}{g:Nat}{M:aP}{X R:Nat->Prop}{N:Nat}(h:gZ w g M X R)(ho:M.Ok N){k:Nat}(hk:k<M.n)(h1:(M.sec k).st≠1):
 Calls prog 73 #[.pointer (some ⟨g,0,none⟩),.int .i64 (k:Nat)] w (lU false w):=by
 obtain⟨L,hc⟩:=h;have HM:Hid (gZ w g M X R):=zH ⟨L,hc⟩;have HH:=zH (nY hc ho.n.2 (k:Int));rw[zt (show 0<=(k:Int)/\(k:Int)<(M.n:Int) by omega)]at HH;obtain⟨c0,c1,c2,c3,c4⟩:=hc.cells;rw[hc.n]at c2;have nz:k<L.S.length:=by rw[hc.n]; exact hk
 have hst3:=(ho.sec k hk).st;have s0:=hc.gJ nz (j:=0) (by decide);have s4:=hc.gJ nz (j:=4) (by decide);simp only[rH,List.getElem?_cons_zero,List.getElem?_cons_succ,hc.at_,Nat.add_zero]at s0 s4;have VN:=mD HM.out ho hk;clear hc ho c0 c1 c3 c4 s4 VN;have q:(((M.sec k).st:Int) != 1)=true:=by rw[bne_iff_ne]; omega
 generalize M.n=n at *;clear h1;go_enter func73,ntmps73;go_wp2_with fail;refine HH.out.mono ?_;rintro e w' ⟨rfl,rfl⟩;go_wp2_with fail;go_ret;exact⟨rfl,zB _ _⟩
theorem Dc{w:World}{g:Nat}{M:aP}{X R:Nat->Prop}{N:Nat}(h:gZ w g M X R)(ho:M.Ok N){k:Nat}(hk:k<M.n)(h1:(M.sec k).st=1)(hg:M.gone k≠[]):
 Calls prog 73 #[.pointer (some ⟨g,0,none⟩),.int .i64 (k:Nat)] w (lU false w):=by
 obtain⟨L,hc⟩:=h;have HM:Hid (gZ w g M X R):=zH ⟨L,hc⟩;have HH:=zH (nY hc ho.n.2 (k:Int));rw[zt (show 0<=(k:Int)/\(k:Int)<(M.n:Int) by omega)]at HH;obtain⟨c0,c1,c2,c3,c4⟩:=hc.cells;rw[hc.n]at c2;have nz:k<L.S.length:=by rw[hc.n]; exact hk
 have hst3:=(ho.sec k hk).st;have s0:=hc.gJ nz (j:=0) (by decide);have s4:=hc.gJ nz (j:=4) (by decide);simp only[rH,List.getElem?_cons_zero,List.getElem?_cons_succ,hc.at_,Nat.add_zero]at s0 s4;have VN:=mD HM.out ho hk;have HE:=zH VN;have hgl:(M.gone k).length<=2352:=by unfold aP.gone;rw[List.length_map];exact zT (List.length_filter_le _ _) (by simp)
 have hgp:0<(M.gone k).length:=List.length_pos_iff.2 hg;clear hc ho c0 c1 c3 c4 s4 VN hg;have q:(((M.sec k).st:Int) != 1)=false:=by rw[bne_eq_false_iff_eq]; omega
 generalize M.n=n at *;clear h1;go_enter func73,ntmps73;go_wp2_with fail;refine HH.out.mono ?_;rintro e w' ⟨rfl,rfl⟩;go_wp2_with fail;refine HE.out.mono ?_;rintro e w3 ⟨v3,rfl,ho3,hb3⟩;obtain⟨a3,c3,rfl⟩:=bu ho3;have hB:decide (0<((M.gone k).length:Int))=true:=zt (by omega);have HB:=zH hb3;clear ho3 hb3;go_wp2_with fail;go_ret;exact⟨rfl,HB.out⟩
theorem Ff{w:World}{g:Nat}{M:aP}{X R:Nat->Prop}{N:Nat}{L:Lay}(h:fE w g L M X R)(ho:M.Ok N){k:Nat}(hk:k<M.n)(h1:(M.sec k).st=1)(hg:M.gone k = [])(hch:(bF jS L.S k).c=none):
 Calls prog 73 #[.pointer (some ⟨g,0,none⟩),.int .i64 (k:Nat)] w (lU (M.kQ (k:Nat)) w):=by
 have hc:=h;clear h;have HM:Hid (gZ w g M X R):=zH ⟨L,hc⟩;have HH:=zH (nY hc ho.n.2 (k:Int));rw[zt (show 0<=(k:Int)/\(k:Int)<(M.n:Int) by omega)]at HH;obtain⟨c0,c1,c2,c3,c4⟩:=hc.cells;rw[hc.n]at c2;have nz:k<L.S.length:=by rw[hc.n]; exact hk
 have hst3:=(ho.sec k hk).st;have s0:=hc.gJ nz (j:=0) (by decide);have s4:=hc.gJ nz (j:=4) (by decide);simp only[rH,List.getElem?_cons_zero,List.getElem?_cons_succ,hc.at_,Nat.add_zero]at s0 s4;have VN:=mD HM.out ho hk;have hcm:QD w (bF jS L.S k).c (M.sec k).ch:=by have:=hc.maps k false nz;unfold SM.W at this;rwa[zi (by decide),hc.at_]at this
 rw[hch]at s4 hcm;have HE:=zH VN;have HC:=zH hc;have HG:=zH hg;have H1:=zH h1;have HCM:=zH hcm;have q:(((M.sec k).st:Int) != 1)=false:=by rw[bne_eq_false_iff_eq]; omega
 have HK:Hid (0<=(k:Int)/\(k:Int)<M.n):=zH (by omega);have A7:=zH nz;have Ir:=zH hch;obtain⟨n,hn⟩:∃n,n=M.n:=⟨_,rfl⟩;rw[<-hn]at c2;have hkn:k<n:=by omega
 have A8:=zH hn;clear hc ho c0 c1 c3 c4 VN hn hch hcm hg h1 hst3 hk nz;go_enter func73,ntmps73;go_wp2_with fail;refine HH.out.mono ?_;rintro e w' ⟨rfl,rfl⟩;go_wp2_with fail;refine HE.out.mono ?_;rintro e w3 ⟨v3,rfl,ho3,hb3⟩;rw[HG.out]at ho3;obtain⟨a3,c3,rfl⟩:=bu ho3;have hcc:=HC.out.below hb3;have c2':=hcc.cells.2.2.1;rw[hcc.n,<-A8.out]at c2';have s4':=hcc.gJ A7.out (j:=4) (by decide);simp only[rH,List.getElem?_cons_zero,List.getElem?_cons_succ,Ir.out]at s4';have HB:=zH hb3;clear ho3 hb3 hcc c2 s0 s4 HE HH;simp only[List.length_nil];have hrg:=run_range_nilMap (P:=prog) w3 173 3 5 underlying173;have hnx:∀ty,(Instr.next (.pointer (some ⟨w3.heap.size,0,none⟩)) false ty).run prog (w3.alloc (.mapIter none 0 #[] 0))=_:=fun ty=>run_next_nilMap _ ty 0 0 #[]
 go_wp2_with fail;refine wp_loop_rounds 1 ?_;rw[rounds_succ];have HT:Hid (lU (M.kQ (k:Nat)) w (.returned (.bool true)) (w3.alloc (.mapIter none 0 #[] 0))):=zH (by
  rw[oU ⟨HK.out,by rw[Int.toNat_natCast]; exact⟨H1.out,HG.out,fun j _=>HCM.out j⟩⟩];exact⟨rfl,HB.out.alloc HB.out.size _⟩)
 go_wp2_with fail;go_ret;exact HT.out
theorem Fe{w:World}{g:Nat}{M:aP}{X R:Nat->Prop}{N:Nat}{L:Lay}(h:fE w g L M X R)(ho:M.Ok N){k:Nat}(hk:k<M.n)(h1:(M.sec k).st=1)(hg:M.gone k = []){b:Nat}(hch:(bF jS L.S k).c=some b):
 Calls prog 73 #[.pointer (some ⟨g,0,none⟩),.int .i64 (k:Nat)] w (lU (M.kQ (k:Nat)) w):=by
 have hc:=h;clear h;have HM:Hid (gZ w g M X R):=zH ⟨L,hc⟩;have HH:=zH (nY hc ho.n.2 (k:Int));rw[zt (show 0<=(k:Int)/\(k:Int)<(M.n:Int) by omega)]at HH;obtain⟨c0,c1,c2,c3,c4⟩:=hc.cells;rw[hc.n]at c2;have nz:k<L.S.length:=by rw[hc.n]; exact hk
 have hst3:=(ho.sec k hk).st;have s0:=hc.gJ nz (j:=0) (by decide);have s4:=hc.gJ nz (j:=4) (by decide);simp only[rH,List.getElem?_cons_zero,List.getElem?_cons_succ,hc.at_,Nat.add_zero]at s0 s4;have VN:=mD HM.out ho hk;have hcm:QD w (bF jS L.S k).c (M.sec k).ch:=by have:=hc.maps k false nz;unfold SM.W at this;rwa[zi (by decide),hc.at_]at this
 rw[hch]at s4 hcm;have HE:=zH VN;have HC:=zH hc;have HG:=zH hg;have H1:=zH h1;have HCM:=zH hcm;have q:(((M.sec k).st:Int) != 1)=false:=by rw[bne_eq_false_iff_eq]; omega
 have HK:Hid (0<=(k:Int)/\(k:Int)<M.n):=zH (by omega);have A7:=zH nz;have Ir:=zH hch;obtain⟨n,hn⟩:∃n,n=M.n:=⟨_,rfl⟩;rw[<-hn]at c2;have hkn:k<n:=by omega
 have A8:=zH hn;clear hc ho c0 c1 c3 c4 VN hn hch hcm hg h1 hst3 hk nz;go_enter func73,ntmps73;go_wp2_with fail;refine HH.out.mono ?_;rintro e w' ⟨rfl,rfl⟩;go_wp2_with fail;refine HE.out.mono ?_;rintro e w3 ⟨v3,rfl,ho3,hb3⟩;rw[HG.out]at ho3;obtain⟨a3,c3,rfl⟩:=bu ho3;have hcc:=HC.out.below hb3;have c2':=hcc.cells.2.2.1;rw[hcc.n,<-A8.out]at c2';have s4':=hcc.gJ A7.out (j:=4) (by decide);simp only[rH,List.getElem?_cons_zero,List.getElem?_cons_succ,Ir.out]at s4';have HB:=zH hb3;clear ho3 hb3 hcc c2 s0 s4 HE HH;simp only[List.length_nil];obtain⟨D,hown,hbd,hat⟩:=HCM.out.kept (w':=w3) fun c hc=>HB.out.block c (by
  obtain rfl:=zs hc;obtain⟨es,clock,hb⟩:=HCM.out.map;exact(Array.getElem?_eq_some_iff.1 hb).1)
 have HBD:=zH hbd;have HAT:=zH hat;clear hbd hat;go_wp2_with (first
  | (at_range; refine wpList_range_own _ rfl _ 173 rfl 3 5 sD underlying173 _ b 2352 D rfl hown ?_; intro w0 hrg0 hg0 hs0)
  | fail)
 go_frame
 have hb0:Below w3.heap.size w3 w0:=(zB _ _).grown hg0 (zl _) (fun k hk=>by cases hk);have HB0:=zH (HB.out.trans (hb0.mono HB.out.size));have V5:=zH hrg0;have HZ0:Hid (∀j:Nat,j<2352->Maps.has D (.int .i64 (j:Nat))=false->(M.sec k).ch j=0):=zH fun j hj hh=>by
  have h1:=HAT.out j hj;rw[Maps.atKey_of_not_has hh]at h1;have h2:((M.sec k).ch j).toNat=0:=by simp at h1; omega
  exact UInt8.toNat_inj.1 h2
 have aez:=zH HB.out.size;clear hb0 hown hg0 hrg0 hs0 c2' s4';obtain⟨r,hr⟩:∃r,r=w3.heap.size:=⟨_,rfl⟩;have HRE:=zH hr;rw[<-hr]at V5 ⊢;clear hr
 go_loopw [6] (fun _ wr=>∃(left:Lit->Bool)(cnt:Nat),wr.ranges prog 3 (plainElem prog 5) b r 2352 D left cnt/\Hid (∀j:Nat,j<2352->left (.int .i64 (j:Nat))=false->(M.sec k).ch j=0)/\Below w.heap.size w wr) (fun _ wr=>wr.rangeLeft b r)
 case atStart=>exact⟨_,_,V5.out,HZ0,HB0.out⟩
 case round=>
  obtain⟨left,cnt,hrg,HZ,hb⟩:=hrel;have HBR:=zH hb;clear hb V5 HB0 HZ0;go_wp2_with (first
   | (at_next; refine wpList_next_ranges_ii _ rfl _ rfl 3 5 .i64 .u8 sD underlying3 underlying5 b r 2352 _ _ _ rfl hrg ?_ ?_)
   | fail)
  ·intro _ hl0;have HT:Hid (lU (M.kQ (k:Nat)) w (.returned (.bool true)) wr):=zH (by
    rw[oU ⟨HK.out,by rw[Int.toNat_natCast]; exact⟨H1.out,HG.out,fun j hj=>HZ.out j hj (hl0 _)⟩⟩];exact⟨rfl,HBR.out⟩)
   clear hl0 hrg;go_wp2_with fail;go_ret;exact HT.out
  ·intro x c w4 cnt4 hwx hwc hlx Xi hrg4 hlt4 hg4 hs4 afA;have hx:=HBD.out x (Maps.has_true_of_atKey Xi);obtain⟨y,rfl⟩:∃y:Nat,x=y:=⟨x.toNat,by omega⟩;have hy:y<2352:=by omega
   have hc:c=(((M.sec k).ch y).toNat:Int):=by have h1:=HAT.out y hy;rw[Xi]at h1;simpa using h1
   subst hc;have HB4:=zH (HBR.out.grown hg4 HBR.out.size (fun k hk=>by obtain rfl:=zs hk; have:=aez.out; have:=HRE.out; omega));have jE:=zH (show cnt4<cnt from hlt4);have Z9:=zH hrg;have aco:=zH hrg4;by_cases h0:(M.sec k).ch y=0
   ·have q5:((((M.sec k).ch y).toNat:Int) != 0)=false:=by rw[bne_eq_false_iff_eq,h0]; rfl
    have HZ4:Hid (∀j:Nat,j<2352->(left (.int .i64 (j:Nat)) && !(Lit.int .i64 (j:Nat)).sameKey (.int .i64 (y:Nat)))=false->(M.sec k).ch j=0):=zH fun j hj hl=>by
     by_cases e:j=y
     ·rw[e]; exact h0
     ·refine HZ.out j hj ?_;have:¬ ((j:Nat):Int)=(y:Nat):=by omega
      simpa[Lit.sameKey,this]using hl
    clear Xi hrg4 hg4 hlx hwx hwc hlt4 hrg h0;go_wp2_with fail;go_roundw;case rel=>exact⟨_,cnt4,aco.out,HZ4,HB4.out⟩
    case measure=>rw[aco.out.left_eq,Z9.out.left_eq]; exact jE.out
   ·have q5:((((M.sec k).ch y).toNat:Int) != 0)=true:=by rw[bne_iff_ne];intro e;exact h0 (UInt8.toNat_inj.1 (by simpa using e))
    have HT:Hid (lU (M.kQ (k:Nat)) w (.returned (.bool false)) w4):=zH (by
     rw[iY fun h=>h0 (h.2.2.2 y hy)];exact⟨rfl,HB4.out⟩)
    clear Xi hrg4 hg4 hlx hwx hwc hlt4 hrg h0;go_wp2_with fail;go_ret;exact HT.out
theorem WE{w:World}{g:Nat}{M:aP}{X R:Nat->Prop}{N:Nat}(h:gZ w g M X R)(ho:M.Ok N)(a:Int):
 Calls prog 73 #[.pointer (some ⟨g,0,none⟩),.int .i64 a] w (lU (M.kQ a) w):=by
 by_cases hr:0<=a/\a<(M.n:Int)
 ·obtain⟨k,rfl⟩:∃k:Nat,a=k:=⟨a.toNat,by omega⟩;have hk:k<M.n:=by omega
  by_cases h1:(M.sec k).st=1
  ·by_cases hg:M.gone k = []
   ·obtain⟨L,h⟩:=h;cases hch:(bF jS L.S k).c with
    | none=>exact Ff h ho hk h1 hg hch
    | some b=>exact Fe h ho hk h1 hg hch
   ·rw[iY fun h=>by
     rw[Int.toNat_natCast]at h;obtain⟨_,_,h2,_⟩:=h;exact hg h2]
    exact Dc h ho hk h1 hg
  ·rw[iY fun h=>h1 h.2.1];exact Fb h ho hk h1
 ·rw[iY fun h=>hr h.1];exact Aq h ho a hr
structure RS where
 s:CQ
 ae:Option Addr
 ne:Nat
 ce:Nat
 ac:Option Addr
 nc:Nat
 cc:Nat
def RS.vE(x:RS):Value:=.slice x.ae x.ne x.ce
def RS.vC(x:RS):Value:=.slice x.ac x.nc x.cc
def rz:RS:=⟨blank,none,0,0,none,0,0⟩
def PL(x:RS):List Value:=[.int .i64 x.s.st,.int .i64 x.s.cnt,.string (str x.s.raw),x.vE,x.vC]
theorem Ej(x:RS):(PL x).length=5:=rfl
def bD(b:Bool):List Value:=[.bool b]
def aeS(w:World)(v:Value)(l:List Bool):Prop:=dX false bD 1 w v l
def mkE(f:Nat->Bool):List Bool:=(List.range 2352).map f
def mkC(f:Nat->UInt8):List UInt8:=(List.range 2352).map f
def EpE(f:Nat->Bool)(l:List Bool):Prop:=(l = []/\∀k,k<2352->f k=false)\/l=mkE f
def EpC(f:Nat->UInt8)(l:List UInt8):Prop:=(l = []/\∀k,k<2352->f k=0)\/l=mkC f
structure RsW (w:World) (x:RS):Prop where
 e:∃l,aeS w x.vE l/\EpE x.s.er l
 c:∃l,Rd w x.vC l/\EpC x.s.ch l
def RdV(w:World)(v:Value)(n:Nat)(scr:List Sc):Prop:=∃dv:Nat->Value,bK w 1 v n (fun i=>[dv i])/\∀i,i<n->uS w (dv i) (gW n scr i)
def rmv(M:aP)(vL vS vD:Value):Value:=.agg #[.int .i64 M.kind,.int .i64 M.iU,vL,vS,vD]
structure RmW (w:World) (vL vS vD:Value) (M:aP) (SS:List RS):Prop where
 e:M.secs=SS.map RS.s
 l:dX rz PL 5 w vL SS
 x:∀i,i<SS.length->RsW w (bF rz SS i)
 s:aai w vS M.scr
 d:RdV w vD M.n M.scr
theorem RmW.n{w:World}{vL vS vD:Value}{M:aP}{SS:List RS}(h:RmW w vL vS vD M SS):SS.length=M.n:=by unfold aP.n; rw[h.e,List.length_map]
theorem RmW.forms{w:World}{vL vS vD:Value}{M:aP}{SS:List RS}(h:RmW w vL vS vD M SS):(∃a c,vL=.slice a M.n c)/\(∃a c,vS=.slice a M.scr.length c)/\∃a c,vD=.slice a M.n c:=by have hn:=h.n;obtain⟨a,c,e,_⟩:=dX.form h.l;obtain⟨a2,c2,e2,_⟩:=dX.form h.s;obtain⟨dv,h5,_⟩:=h.d;obtain⟨a3,c3,e3,_⟩:=h5.form;rw[hn]at e;exact⟨⟨a,c,e⟩,⟨a2,c2,e2⟩,a3,c3,e3⟩
structure Agree (P:Nat->Prop) (w W:World):Prop where
 size:w.heap.size<=W.heap.size
 eq:∀k,k<w.heap.size->P k->W.heap[k]? = w.heap[k]?
theorem Agree.refl(P:Nat->Prop)(w:World):Agree P w w:=⟨zl _,fun _ _ _=>rfl⟩
def RmF(P:Nat->Prop)(w:World)(vL vS vD:Value)(M:aP)(SS:List RS):Prop:=∀W,Agree P w W->RmW W vL vS vD M SS
section
variable {P P':Nat->Prop} {w W:World} {vL vS vD:Value} {M:aP} {SS:List RS}
theorem RmF.here(h:RmF P w vL vS vD M SS):RmW w vL vS vD M SS:=h w (Agree.refl _ _)
end
theorem infoRS:(prog.info? 193).map (fun i=>(i.zero,i.size,i.bytes))=some (some (.agg (PL rz).toArray),5,80):=by kernel_rfl
theorem Lt:∀w,(zeroValue 30).run prog w=.ok (.agg #[.int .i64 0,.int .i64 0,.slice none 0 0,.slice none 0 0,.slice none 0 0]) w:=fun _=>by kernel_rfl
theorem vH{w W:World}{base e sz n:Nat}{v:Value}{xs:List Value}(h:w.ownsRow base e sz v n xs)(hk:∀k,base<=k->k<w.heap.size->W.heap[k]? = w.heap[k]?):W.ownsRow base e sz v n xs:=by
 refine⟨h.1,?_⟩;rcases h.2 with h | ⟨g,cap,cur,hv,hg,hh,r⟩
 ·exact .inl h
 ·exact .inr ⟨g,cap,cur,hv,hg,(hk g hg (Array.getElem?_eq_some_iff.1 hh).1).trans hh,r⟩
theorem Ru{B:Nat}{w W:World}(h:Below B w W){g:Nat}(hg:B<=g)(o0 o1 o2 o3 o4:Nat)(v0 v1 v2 v3 v4:Value):Below B w (((((W.setCell ⟨g,o0,none⟩ v0).setCell ⟨g,o1,none⟩ v1).setCell ⟨g,o2,none⟩ v2).setCell ⟨g,o3,none⟩ v3).setCell ⟨g,o4,none⟩ v4):=
 (((((h.setCell (p:=⟨g,o0,none⟩) hg v0).setCell (p:=⟨g,o1,none⟩) hg v1).setCell (p:=⟨g,o2,none⟩) hg v2).setCell (p:=⟨g,o3,none⟩) hg v3).setCell (p:=⟨g,o4,none⟩) hg v4)
def iD(v:Value):List Value:=[v]
theorem infoIs:(prog.info? 31).map (fun i=>(i.zero,i.size,i.bytes))=some (some (.slice none 0 0),1,24):=by kernel_rfl
def acD(n kind en:Nat)(w:World)(e:Ending)(w':World):Prop:=∃vL vS vD SS,e=.returned (.tuple #[rmv (dO kind n en) vL vS vD,.int .i64 0])/\RmF (fun k=>w.heap.size<=k) w' vL vS vD (dO kind n en) SS/\Below w.heap.size w w'
def VI(b n:Nat)(k e:Int)(W:World):Prop:=∃g3 g5,Bx W b 30 [.int .i64 k,.int .i64 e,.slice (some ⟨g3,0,none⟩) n n,.slice none 0 0,.slice (some ⟨g5,0,none⟩) n n]/\
 W.ownsRow (b+1) 193 5 (.slice (some ⟨g3,0,none⟩) n n) n (fK PL (List.replicate n rz))/\W.ownsRow (b+1) 31 1 (.slice (some ⟨g5,0,none⟩) n n) n (fK iD (List.replicate n (.slice none 0 0)))
def BoxM(b:Nat)(W:World):Prop:=∃c0 c1 c2 c3 c4,Bx W b 30 [c0,c1,c2,c3,c4]
structure uQ (b n:Nat) (k e:Int) (w W:World):Prop where
 bl:b<=w.heap.size->Below b w W
 sz:w.heap.size<=W.heap.size
 o:∀j,j<w.heap.size->j≠b->W.heap[j]? = w.heap[j]?
 f:VI b n k e w->VI b n k e W
 cx:BoxM b w->BoxM b W
def NwC(w0:World)(b:Nat)(W:World):Prop:=Below b w0 W/\b<W.heap.size/\BoxM b W
theorem uQ.refl(b n:Nat)(k e:Int)(w:World):uQ b n k e w w:=⟨fun _=>zB _ _,zl _,fun _ _ _=>rfl,id,id⟩
theorem yY{w W:World}{base e sz n:Nat}{v:Value}{xs:List Value}(h:w.ownsRow base e sz v n xs)(hk:∀k,k<w.heap.size->base<=k->W.heap[k]? = w.heap[k]?):W.ownsRow base e sz v n xs:=vH h fun k h1 h2=>hk k h2 h1
theorem VI.keep{b n:Nat}{k e:Int}{w W:World}(h:VI b n k e w)(hb:Below w.heap.size w W):VI b n k e W:=by obtain⟨g3,g5,h1,h2,h3⟩:=h;exact⟨g3,g5,h1.call hb,bz h2 hb,bz h3 hb⟩
theorem uQ.call{b n:Nat}{k e:Int}{w W:World}(hb:Below w.heap.size w W):uQ b n k e w W:=⟨fun h=>hb.mono h,hb.size,fun j hj _=>hb.block j hj,fun h=>h.keep hb,fun⟨c0,c1,c2,c3,c4,h⟩=>⟨c0,c1,c2,c3,c4,h.call hb⟩⟩
theorem uQ.own{b n m:Nat}{k e:Int}{w W:World}(h:uQ b n k e w W){t sz:Nat}{v:Value}{xs:List Value}(ho:w.ownsRow (b+1) t sz v m xs):W.ownsRow (b+1) t sz v m xs:=yY ho fun j hj h1=>h.o j hj (by omega)
theorem Hq{n:Nat}{W:World}{v3 v5:Value}{b base:Nat}(k e:Nat)(h3:W.ownsRow b 193 5 v3 n (fK PL (List.replicate n rz)))(h5:W.ownsRow b 31 1 v5 n (fK iD (List.replicate n (.slice none 0 0))))(hb:base<=b):
 RmF (fun k=>base<=k) W v3 (.slice none 0 0) v5 (dO k n e) (List.replicate n rz):=fun W' hW=>by
 have g3:=vH h3 fun k h1 h2=>hW.eq k h2 (by omega)
 have g5:=vH h5 fun k h1 h2=>hW.eq k h2 (by omega)
 have hat:∀i,i<n->bF rz (List.replicate n rz) i=rz:=fun i hi=>by simp[bF,hi]
 refine⟨by simp[dO,rz],dX.bM Ej (by rw[List.length_replicate]; exact g3),fun i hi=>?_,dX.nil W',?_⟩
 ·rw[List.length_replicate]at hi;rw[hat i hi];exact⟨⟨[],dX.nil W',.inl ⟨rfl,fun _ _=>rfl⟩⟩,[],Rd.nil _,.inl ⟨rfl,fun _ _=>rfl⟩⟩
 ·have hn:(dO k n e).n=n:=by simp[aP.n,dO]
  rw[hn];refine⟨fun _=>.slice none 0 0,bK.bM (base:=b) (e:=31) (fun _=>rfl) ?_,fun i hi=>?_⟩
  ·have e0:fK iD (List.replicate n (.slice none 0 0))=(List.range n).flatMap fun _=>[Value.slice none 0 0]:=by unfold fK;rw[show List.replicate n (Value.slice none 0 0)=(List.range n).map fun _=>Value.slice none 0 0 from by simp[List.map_const'],List.flatMap_map];rfl
   rw[<-e0];exact g5
  ·have e:∀m,yU [] m = []:=fun m=>nM (fun f=>by
    have:Dl [] f 28 = []:=by simp[Dl,gon]
    rw[ers,this]; decide) m
   have e2:gW n ([]:List Sc) i = []:=by simp[gW,Bv,MZ,e]
   show uS _ _ (gW n [] i);rw[e2];exact⟨by simp,⟨none,0,0,0,rfl,by simp,fun i hi=>by simp at hi⟩,fun i hi=>by simp at hi⟩
def nwV(b n:Nat)(k e:Int)(i:Nat)(v:Value)(W:World):Prop:=match i with
 | 0=>v=.int .i64 k
 | 1=>v=.int .i64 e
 | 2=>v=.int .i64 (n:Nat)
 | 3=>∃g,v=.slice (some ⟨g,0,none⟩) n n/\W.ownsRow (b+1) 193 5 (.slice (some ⟨g,0,none⟩) n n) n (fK PL (List.replicate n rz))
 | 4=>v=.int .i64 (n:Nat)
 | 5=>∃g,v=.slice (some ⟨g,0,none⟩) n n/\W.ownsRow (b+1) 31 1 (.slice (some ⟨g,0,none⟩) n n) n (fK iD (List.replicate n (.slice none 0 0)))
 | 6=>∃g3 g5,v=.agg #[.int .i64 k,.int .i64 e,.slice (some ⟨g3,0,none⟩) n n,.slice none 0 0,.slice (some ⟨g5,0,none⟩) n n]/\W.ownsRow (b+1) 193 5 (.slice (some ⟨g3,0,none⟩) n n) n (fK PL (List.replicate n rz))/\W.ownsRow (b+1) 31 1 (.slice (some ⟨g5,0,none⟩) n n) n (fK iD (List.replicate n (.slice none 0 0)))
 | 7=>VI b n k e W
 | 8=>v=.int .i64 0
 | _=>True
theorem Gz(b n:Nat)(k e:Int)(i:Nat)(v:Value)(W W':World)(hR:(uQ b n k e) W W')(h:nwV b n k e i v W):nwV b n k e i v W':=by
 by_cases h3:i=3
 ·subst h3;obtain⟨g,h1,h2⟩:=h; exact⟨g,h1,hR.own h2⟩
 by_cases h5:i=5
 ·subst h5;obtain⟨g,h1,h2⟩:=h; exact⟨g,h1,hR.own h2⟩
 by_cases h6:i=6
 ·subst h6;obtain⟨g,g2,h1,h2,h3⟩:=h; exact⟨g,g2,h1,hR.own h2,hR.own h3⟩
 by_cases h7:i=7
 ·subst h7;exact hR.f h
 unfold nwV at h ⊢;split at h <;> first | exact h | exact absurd rfl h3 | exact absurd rfl h5 | exact absurd rfl h6 | exact absurd rfl h7
theorem abB(k e:Int)(n:Nat)(hk:k=1\/k=2)(s1:1<=n)(s2:n<=4096)(e1:1<=e)(e2:e<=1048576)(w:World):
 Calls prog 65 #[.int .i64 k,.int .i64 (n:Nat),.int .i64 e] w (acD n k.toNat e.toNat w):=by
 have hz:=Lt;obtain⟨w1,hw1⟩:∃w1,w1=w.alloc (.cells #[.int .i64 0,.int .i64 0,.slice none 0 0,.slice none 0 0,.slice none 0 0] 30):=⟨_,rfl⟩;have hA:=(zB w.heap.size w).alloc (zl _) (.cells #[.int .i64 0,.int .i64 0,.slice none 0 0,.slice none 0 0,.slice none 0 0] 30);rw[<-hw1]at hA;have hBx:Bx w1 w.heap.size 30 [.int .i64 0,.int .i64 0,.slice none 0 0,.slice none 0 0,.slice none 0 0]:=by rw[hw1]; exact Bx.new w _ _
 have HA:=zH hA;have vY:=zH hBx;have HW:=zH hw1;clear hA hBx hw1;have hkk:((k:Int) != 1)=false\/((k:Int) != 1)=true/\((k:Int) != 2)=false:=by rcases hk with rfl | rfl; exact .inl rfl; exact .inr ⟨rfl,rfl⟩
 rcases hk with rfl | rfl
 ·go_enter func65,ntmps65;go_upto_region 3 with (fail)
  rw[<-HW.out];obtain⟨b,hb⟩:∃b,b=w.heap.size:=⟨_,rfl⟩;rw[<-hb];have hC0:NwC w1 b w1.drew:=⟨(zB b w1).drew,by rw[hb]; exact vY.out.lt,_,_,_,_,_,by rw[hb]; exact vY.out⟩;have HB:=zH hb;clear hb;refine cu (by kernel_rfl) (uQ b n 1 e) (NwC w1 b) (nwV b n 1 e) (fun _=>false) (by kernel_rfl) (fun w w' hR hc=>⟨hc.1.trans (hR.bl (Nat.le_of_lt hc.2.1)),zL hc.2.1 hR.sz,hR.cx hc.2.2⟩) (Gz b n 1 e) (hC0) ⟨?_,?_,?_,?_,?_,?_,?_,?_,?_,trivial⟩ ?_
  ·intro a W hc hsz hold ah;have o0:a.tmps.getD 0 undef=.int .i64 1:=hold 0 (by kernel_rfl);clear hsz hold ah;refine ai rfl (ag rfl) ?_;refine ak (v:=.int .i64 1) (uQ.refl _ _ _ _ _) rfl fun K hK=>?_
   go_simp;exact hK
  ·intro a W hc hsz hold ah;have o2:a.tmps.getD 2 undef=.int .i64 e:=hold 2 (by kernel_rfl);clear hsz hold ah;refine ai rfl (ag rfl) ?_;refine ak (v:=.int .i64 e) (uQ.refl _ _ _ _ _) rfl fun K hK=>?_
   go_simp;exact hK
  ·intro a W hc hsz hold ah;have o1:a.tmps.getD 1 undef=.int .i64 (n:Nat):=hold 1 (by kernel_rfl);clear hsz hold ah;refine ai rfl (ag rfl) ?_;refine ak (v:=.int .i64 (n:Nat)) (uQ.refl _ _ _ _ _) rfl fun K hK=>?_
   go_simp;exact hK
  ·intro a W hc hsz hold ah;have d2:=zV 33 (.int .i64 (n:Nat)) (ah 2 (by kernel_rfl) rfl _ rfl);clear hsz hold ah;refine ai rfl (ag rfl) ?_;obtain⟨i0,hi,hz0,hz1,hz2⟩:=info_parts infoRS;obtain⟨W',hrun,r1,r2⟩:=run_make_full (P:=prog) (w:=W) (b+1) 26 193 i0 _ 5 underlying26 hi hz0 hz1 .i64 .i64 n (by rw[hz2]; omega) (by unfold maxLen; omega) (by have:=hc.2.1; omega);have hbW:Below W.heap.size W W':=(zB _ _).grown r2 (zl _) (fun k hk=>by cases hk);have e1:(Value.agg (PL rz).toArray).cells=(PL rz).toArray:=rfl;rw[e1,mV PL rz 5 n (by decide) Ej]at r1;refine iT (v:=.slice (some ⟨W.heap.size,0,none⟩) n n) (uQ.call hbW) ⟨_,rfl,r1⟩ fun K hK=>?_
   clear hc r1 r2;unfold Oper.wp;simp only[Array.getD_eq_getD_getElem?]at d2;simp[execOp,d2,Act.eval,hrun,Result.andThen];exact hK
  ·intro a W hc hsz hold ah;have o1:a.tmps.getD 1 undef=.int .i64 (n:Nat):=hold 1 (by kernel_rfl);clear hsz hold ah;refine ai rfl (ag rfl) ?_;refine ak (v:=.int .i64 (n:Nat)) (uQ.refl _ _ _ _ _) rfl fun K hK=>?_
   go_simp;exact hK
  ·intro a W hc hsz hold ah;have d4:=zV 35 (.int .i64 (n:Nat)) (ah 4 (by kernel_rfl) rfl _ rfl);clear hsz hold ah;refine ai rfl (ag rfl) ?_;obtain⟨i0,hi,hz0,hz1,hz2⟩:=info_parts infoIs;obtain⟨W',hrun,r1,r2⟩:=run_make_full (P:=prog) (w:=W) (b+1) 28 31 i0 _ 1 underlying28 hi hz0 hz1 .i64 .i64 n (by rw[hz2]; omega) (by unfold maxLen; omega) (by have:=hc.2.1; omega);have hbW:Below W.heap.size W W':=(zB _ _).grown r2 (zl _) (fun k hk=>by cases hk);have e1:(Value.slice none 0 0).cells=(iD (.slice none 0 0)).toArray:=rfl;rw[e1,mV iD (.slice none 0 0) 1 n (by decide) (fun _=>rfl)]at r1;refine iT (v:=.slice (some ⟨W.heap.size,0,none⟩) n n) (uQ.call hbW) ⟨_,rfl,r1⟩ fun K hK=>?_
   clear hc r1 r2;unfold Oper.wp;simp only[Array.getD_eq_getD_getElem?]at d4;simp[execOp,d4,Act.eval,hrun,Result.andThen];exact hK
  ·intro a W hc hsz hold ah;have d0:=zV 31 (.int .i64 1) (ah 0 (by kernel_rfl) rfl _ rfl);have e0:=zq d0;have d1:=zV 32 (.int .i64 e) (ah 1 (by kernel_rfl) rfl _ rfl);have e1:=zq d1;have x3:=ah 3 (by kernel_rfl) rfl _ rfl;have x5:=ah 5 (by kernel_rfl) rfl _ rfl;clear hsz hold ah;refine ai rfl (ag rfl) ?_;obtain⟨g3,hg3,ho3⟩:=x3;obtain⟨g5,hg5,JH⟩:=x5;have y3:=zq hg3;have y5:=zq hg5;have hzm:=Lt;clear hc;refine ak (v:=.agg #[.int .i64 1,.int .i64 e,.slice (some ⟨g3,0,none⟩) n n,.slice none 0 0,.slice (some ⟨g5,0,none⟩) n n]) (uQ.refl _ _ _ _ _) ⟨g3,g5,rfl,ho3,JH⟩ fun K hK=>?_
   go_simp;exact hK
  ·intro a W hc hsz hold ah;have o6:a.tmps.getD 6 undef=.pointer (some ⟨b,0,none⟩):=hold 6 (by kernel_rfl);have x6:=ah 6 (by kernel_rfl) rfl _ rfl;clear hsz hold ah;refine ai rfl (ag rfl) ?_;obtain⟨g3,g5,hv,ho3,JH⟩:=x6;obtain⟨hcb,hcl,c0,c1,c2,c3,c4,hbx⟩:=hc;have hbs:=((((hbx.set 0 (.int .i64 1)).set 1 (.int .i64 e)).set 2 (.slice (some ⟨g3,0,none⟩) n n)).set 3 (.slice none 0 0)).set 4 (.slice (some ⟨g5,0,none⟩) n n);have DF:∀j,j≠b->(((((W.setCell ⟨b,0,none⟩ (.int .i64 1)).setCell ⟨b,1,none⟩ (.int .i64 e)).setCell ⟨b,2,none⟩ (.slice (some ⟨g3,0,none⟩) n n)).setCell ⟨b,3,none⟩ (.slice none 0 0)).setCell ⟨b,4,none⟩ (.slice (some ⟨g5,0,none⟩) n n)).heap[j]? = W.heap[j]?:=fun j hj=>
    (zh _ ⟨b,4,none⟩ _ j hj).trans ((zh _ ⟨b,3,none⟩ _ j hj).trans ((zh _ ⟨b,2,none⟩ _ j hj).trans ((zh _ ⟨b,1,none⟩ _ j hj).trans (zh _ ⟨b,0,none⟩ _ j hj))))
   have hF:VI b n 1 e (((((W.setCell ⟨b,0,none⟩ (.int .i64 1)).setCell ⟨b,1,none⟩ (.int .i64 e)).setCell ⟨b,2,none⟩ (.slice (some ⟨g3,0,none⟩) n n)).setCell ⟨b,3,none⟩ (.slice none 0 0)).setCell ⟨b,4,none⟩ (.slice (some ⟨g5,0,none⟩) n n)):=
    ⟨g3,g5,hbs,yY ho3 fun j hj h1=>DF j (by omega),yY JH fun j hj h1=>DF j (by omega)⟩
   have hbf:=hbx.free;have y37:=zq hv;have z0:=hbx.cell (i:=0) rfl;have z1:=hbx.cell (i:=1) rfl;have z2:=hbx.cell (i:=2) rfl;have z3:=hbx.cell (i:=3) rfl;have z4:=hbx.cell (i:=4) rfl;have hR:uQ b n 1 e W (((((W.setCell ⟨b,0,none⟩ (.int .i64 1)).setCell ⟨b,1,none⟩ (.int .i64 e)).setCell ⟨b,2,none⟩ (.slice (some ⟨g3,0,none⟩) n n)).setCell ⟨b,3,none⟩ (.slice none 0 0)).setCell ⟨b,4,none⟩ (.slice (some ⟨g5,0,none⟩) n n)):=
    ⟨fun _=>Ru (zB b W) (zl _) 0 1 2 3 4 _ _ _ _ _,by simp,fun j _ hj=>DF j hj,fun _=>hF,fun _=>⟨_,_,_,_,_,hbs⟩⟩
   refine iT (v:=undef) hR hF fun K hK=>?_
   clear hR hF DF hbs hbx ho3 JH hcb;go_simp;exact hK
  ·intro a W hc hsz hold ah;clear hsz hold ah;refine ai rfl (ag rfl) ?_;refine ak (v:=.int .i64 0) (uQ.refl _ _ _ _ _) rfl fun K hK=>?_
   go_simp;exact hK
  ·intro a W hC hd hsz hold hval;have d6:a.tmps.getD 6 undef=.pointer (some ⟨b,0,none⟩):=hold 6 (by kernel_rfl);have d7:a.tmps.getD 7 undef=.int .i64 0:=hval 8 _ rfl rfl;clear hold;obtain⟨tm,df⟩:=a;replace hd:df = []:=hd;replace hsz:tm.size=38:=hsz;replace d6:tm.getD 6 undef=.pointer (some ⟨b,0,none⟩):=d6;replace d7:tm.getD 7 undef=.int .i64 0:=d7;subst hd;have e:tm=List.toArray (tm.getD 0 undef :: tm.getD 1 undef :: tm.getD 2 undef :: tm.getD 3 undef :: tm.getD 4 undef :: tm.getD 5 undef :: tm.getD 6 undef :: tm.getD 7 undef :: tm.getD 8 undef :: tm.getD 9 undef :: tm.getD 10 undef :: tm.getD 11 undef :: tm.getD 12 undef :: tm.getD 13 undef :: tm.getD 14 undef :: tm.getD 15 undef :: tm.getD 16 undef :: tm.getD 17 undef :: tm.getD 18 undef :: tm.getD 19 undef :: tm.getD 20 undef :: tm.getD 21 undef :: tm.getD 22 undef :: tm.getD 23 undef :: tm.getD 24 undef :: tm.getD 25 undef :: tm.getD 26 undef :: tm.getD 27 undef :: tm.getD 28 undef :: tm.getD 29 undef :: tm.getD 30 undef :: tm.getD 31 undef :: tm.getD 32 undef :: tm.getD 33 undef :: tm.getD 34 undef :: tm.getD 35 undef :: tm.getD 36 undef :: tm.getD 37 undef :: []):=IY tm 38 hsz;rw[d6,d7]at e;clear d6 d7 hsz;generalize tm.getD 0 undef=v0 at e;generalize tm.getD 1 undef=v1 at e;generalize tm.getD 2 undef=v2 at e;generalize tm.getD 3 undef=v3 at e;generalize tm.getD 4 undef=v4 at e;generalize tm.getD 5 undef=v5 at e;generalize tm.getD 8 undef=v8 at e;generalize tm.getD 9 undef=v9 at e;generalize tm.getD 10 undef=v10 at e;generalize tm.getD 11 undef=v11 at e;generalize tm.getD 12 undef=v12 at e;generalize tm.getD 13 undef=v13 at e;generalize tm.getD 14 undef=v14 at e;generalize tm.getD 15 undef=v15 at e;generalize tm.getD 16 undef=v16 at e;generalize tm.getD 17 undef=v17 at e;generalize tm.getD 18 undef=v18 at e;generalize tm.getD 19 undef=v19 at e;generalize tm.getD 20 undef=v20 at e;generalize tm.getD 21 undef=v21 at e;generalize tm.getD 22 undef=v22 at e;generalize tm.getD 23 undef=v23 at e;generalize tm.getD 24 undef=v24 at e;generalize tm.getD 25 undef=v25 at e;generalize tm.getD 26 undef=v26 at e;generalize tm.getD 27 undef=v27 at e;generalize tm.getD 28 undef=v28 at e;generalize tm.getD 29 undef=v29 at e;generalize tm.getD 30 undef=v30 at e;generalize tm.getD 31 undef=v31 at e;generalize tm.getD 32 undef=v32 at e;generalize tm.getD 33 undef=v33 at e;generalize tm.getD 34 undef=v34 at e;generalize tm.getD 35 undef=v35 at e;generalize tm.getD 36 undef=v36 at e;generalize tm.getD 37 undef=v37 at e;subst e;have hF:VI b n 1 e W:=hval 7 _ rfl rfl;clear hval;obtain⟨g3,g5,hbx,ho3,JH⟩:=hF;have q0:=hbx.cell (i:=0) rfl;have q1:=hbx.cell (i:=1) rfl;have q2:=hbx.cell (i:=2) rfl;have q3:=hbx.cell (i:=3) rfl;have q4:=hbx.cell (i:=4) rfl;have EP:=zH ho3;have QY:=zH JH;have uP:=zH hC.1;clear ho3 JH hbx hC;go_wp2_with fail;refine zr (v:=.tuple #[rmv (dO 1 n e.toNat) (.slice (some ⟨g3,0,none⟩) n n) (.slice none 0 0) (.slice (some ⟨g5,0,none⟩) n n),.int .i64 0]) (by simp[rmv,dO,results,results65,go_sem,q0,q1,q2,q3,q4]; omega) rfl ?_;exact⟨_,_,_,_,rfl,Hq 1 e.toNat EP.out QY.out (by have:=HB.out; omega),HA.out.trans (uP.out.mono (by have:=HB.out; have:=HA.out.size; omega))⟩
 ·go_enter func65,ntmps65;go_upto_region 3 with (fail)
  rw[<-HW.out];obtain⟨b,hb⟩:∃b,b=w.heap.size:=⟨_,rfl⟩;rw[<-hb];have hC0:NwC w1 b w1.drew:=⟨(zB b w1).drew,by rw[hb]; exact vY.out.lt,_,_,_,_,_,by rw[hb]; exact vY.out⟩;have HB:=zH hb;clear hb;refine cu (by kernel_rfl) (uQ b n 2 e) (NwC w1 b) (nwV b n 2 e) (fun _=>false) (by kernel_rfl) (fun w w' hR hc=>⟨hc.1.trans (hR.bl (Nat.le_of_lt hc.2.1)),zL hc.2.1 hR.sz,hR.cx hc.2.2⟩) (Gz b n 2 e) (hC0) ⟨?_,?_,?_,?_,?_,?_,?_,?_,?_,trivial⟩ ?_
  ·intro a W hc hsz hold ah;have o0:a.tmps.getD 0 undef=.int .i64 2:=hold 0 (by kernel_rfl);clear hsz hold ah;refine ai rfl (ag rfl) ?_;refine ak (v:=.int .i64 2) (uQ.refl _ _ _ _ _) rfl fun K hK=>?_
   go_simp;exact hK
  ·intro a W hc hsz hold ah;have o2:a.tmps.getD 2 undef=.int .i64 e:=hold 2 (by kernel_rfl);clear hsz hold ah;refine ai rfl (ag rfl) ?_;refine ak (v:=.int .i64 e) (uQ.refl _ _ _ _ _) rfl fun K hK=>?_
   go_simp;exact hK
  ·intro a W hc hsz hold ah;have o1:a.tmps.getD 1 undef=.int .i64 (n:Nat):=hold 1 (by kernel_rfl);clear hsz hold ah;refine ai rfl (ag rfl) ?_;refine ak (v:=.int .i64 (n:Nat)) (uQ.refl _ _ _ _ _) rfl fun K hK=>?_
   go_simp;exact hK
  ·intro a W hc hsz hold ah;have d2:=zV 33 (.int .i64 (n:Nat)) (ah 2 (by kernel_rfl) rfl _ rfl);clear hsz hold ah;refine ai rfl (ag rfl) ?_;obtain⟨i0,hi,hz0,hz1,hz2⟩:=info_parts infoRS;obtain⟨W',hrun,r1,r2⟩:=run_make_full (P:=prog) (w:=W) (b+1) 26 193 i0 _ 5 underlying26 hi hz0 hz1 .i64 .i64 n (by rw[hz2]; omega) (by unfold maxLen; omega) (by have:=hc.2.1; omega);have hbW:Below W.heap.size W W':=(zB _ _).grown r2 (zl _) (fun k hk=>by cases hk);have e1:(Value.agg (PL rz).toArray).cells=(PL rz).toArray:=rfl;rw[e1,mV PL rz 5 n (by decide) Ej]at r1;refine iT (v:=.slice (some ⟨W.heap.size,0,none⟩) n n) (uQ.call hbW) ⟨_,rfl,r1⟩ fun K hK=>?_
   clear hc r1 r2;unfold Oper.wp;simp only[Array.getD_eq_getD_getElem?]at d2;simp[execOp,d2,Act.eval,hrun,Result.andThen];exact hK
  ·intro a W hc hsz hold ah;have o1:a.tmps.getD 1 undef=.int .i64 (n:Nat):=hold 1 (by kernel_rfl);clear hsz hold ah;refine ai rfl (ag rfl) ?_;refine ak (v:=.int .i64 (n:Nat)) (uQ.refl _ _ _ _ _) rfl fun K hK=>?_
   go_simp;exact hK
  ·intro a W hc hsz hold ah;have d4:=zV 35 (.int .i64 (n:Nat)) (ah 4 (by kernel_rfl) rfl _ rfl);clear hsz hold ah;refine ai rfl (ag rfl) ?_;obtain⟨i0,hi,hz0,hz1,hz2⟩:=info_parts infoIs;obtain⟨W',hrun,r1,r2⟩:=run_make_full (P:=prog) (w:=W) (b+1) 28 31 i0 _ 1 underlying28 hi hz0 hz1 .i64 .i64 n (by rw[hz2]; omega) (by unfold maxLen; omega) (by have:=hc.2.1; omega);have hbW:Below W.heap.size W W':=(zB _ _).grown r2 (zl _) (fun k hk=>by cases hk);have e1:(Value.slice none 0 0).cells=(iD (.slice none 0 0)).toArray:=rfl;rw[e1,mV iD (.slice none 0 0) 1 n (by decide) (fun _=>rfl)]at r1;refine iT (v:=.slice (some ⟨W.heap.size,0,none⟩) n n) (uQ.call hbW) ⟨_,rfl,r1⟩ fun K hK=>?_
   clear hc r1 r2;unfold Oper.wp;simp only[Array.getD_eq_getD_getElem?]at d4;simp[execOp,d4,Act.eval,hrun,Result.andThen];exact hK
  ·intro a W hc hsz hold ah;have d0:=zV 31 (.int .i64 2) (ah 0 (by kernel_rfl) rfl _ rfl);have e0:=zq d0;have d1:=zV 32 (.int .i64 e) (ah 1 (by kernel_rfl) rfl _ rfl);have e1:=zq d1;have x3:=ah 3 (by kernel_rfl) rfl _ rfl;have x5:=ah 5 (by kernel_rfl) rfl _ rfl;clear hsz hold ah;refine ai rfl (ag rfl) ?_;obtain⟨g3,hg3,ho3⟩:=x3;obtain⟨g5,hg5,JH⟩:=x5;have y3:=zq hg3;have y5:=zq hg5;have hzm:=Lt;clear hc;refine ak (v:=.agg #[.int .i64 2,.int .i64 e,.slice (some ⟨g3,0,none⟩) n n,.slice none 0 0,.slice (some ⟨g5,0,none⟩) n n]) (uQ.refl _ _ _ _ _) ⟨g3,g5,rfl,ho3,JH⟩ fun K hK=>?_
   go_simp;exact hK
  ·intro a W hc hsz hold ah;have o6:a.tmps.getD 6 undef=.pointer (some ⟨b,0,none⟩):=hold 6 (by kernel_rfl);have x6:=ah 6 (by kernel_rfl) rfl _ rfl;clear hsz hold ah;refine ai rfl (ag rfl) ?_;obtain⟨g3,g5,hv,ho3,JH⟩:=x6;obtain⟨hcb,hcl,c0,c1,c2,c3,c4,hbx⟩:=hc;have hbs:=((((hbx.set 0 (.int .i64 2)).set 1 (.int .i64 e)).set 2 (.slice (some ⟨g3,0,none⟩) n n)).set 3 (.slice none 0 0)).set 4 (.slice (some ⟨g5,0,none⟩) n n);have DF:∀j,j≠b->(((((W.setCell ⟨b,0,none⟩ (.int .i64 2)).setCell ⟨b,1,none⟩ (.int .i64 e)).setCell ⟨b,2,none⟩ (.slice (some ⟨g3,0,none⟩) n n)).setCell ⟨b,3,none⟩ (.slice none 0 0)).setCell ⟨b,4,none⟩ (.slice (some ⟨g5,0,none⟩) n n)).heap[j]? = W.heap[j]?:=fun j hj=>
    (zh _ ⟨b,4,none⟩ _ j hj).trans ((zh _ ⟨b,3,none⟩ _ j hj).trans ((zh _ ⟨b,2,none⟩ _ j hj).trans ((zh _ ⟨b,1,none⟩ _ j hj).trans (zh _ ⟨b,0,none⟩ _ j hj))))
   have hF:VI b n 2 e (((((W.setCell ⟨b,0,none⟩ (.int .i64 2)).setCell ⟨b,1,none⟩ (.int .i64 e)).setCell ⟨b,2,none⟩ (.slice (some ⟨g3,0,none⟩) n n)).setCell ⟨b,3,none⟩ (.slice none 0 0)).setCell ⟨b,4,none⟩ (.slice (some ⟨g5,0,none⟩) n n)):=
    ⟨g3,g5,hbs,yY ho3 fun j hj h1=>DF j (by omega),yY JH fun j hj h1=>DF j (by omega)⟩
   have hbf:=hbx.free;have y37:=zq hv;have z0:=hbx.cell (i:=0) rfl;have z1:=hbx.cell (i:=1) rfl;have z2:=hbx.cell (i:=2) rfl;have z3:=hbx.cell (i:=3) rfl;have z4:=hbx.cell (i:=4) rfl;have hR:uQ b n 2 e W (((((W.setCell ⟨b,0,none⟩ (.int .i64 2)).setCell ⟨b,1,none⟩ (.int .i64 e)).setCell ⟨b,2,none⟩ (.slice (some ⟨g3,0,none⟩) n n)).setCell ⟨b,3,none⟩ (.slice none 0 0)).setCell ⟨b,4,none⟩ (.slice (some ⟨g5,0,none⟩) n n)):=
    ⟨fun _=>Ru (zB b W) (zl _) 0 1 2 3 4 _ _ _ _ _,by simp,fun j _ hj=>DF j hj,fun _=>hF,fun _=>⟨_,_,_,_,_,hbs⟩⟩
   refine iT (v:=undef) hR hF fun K hK=>?_
   clear hR hF DF hbs hbx ho3 JH hcb;go_simp;exact hK
  ·intro a W hc hsz hold ah;clear hsz hold ah;refine ai rfl (ag rfl) ?_;refine ak (v:=.int .i64 0) (uQ.refl _ _ _ _ _) rfl fun K hK=>?_
   go_simp;exact hK
  ·intro a W hC hd hsz hold hval;have d6:a.tmps.getD 6 undef=.pointer (some ⟨b,0,none⟩):=hold 6 (by kernel_rfl);have d7:a.tmps.getD 7 undef=.int .i64 0:=hval 8 _ rfl rfl;clear hold;obtain⟨tm,df⟩:=a;replace hd:df = []:=hd;replace hsz:tm.size=38:=hsz;replace d6:tm.getD 6 undef=.pointer (some ⟨b,0,none⟩):=d6;replace d7:tm.getD 7 undef=.int .i64 0:=d7;subst hd;have e:tm=List.toArray (tm.getD 0 undef :: tm.getD 1 undef :: tm.getD 2 undef :: tm.getD 3 undef :: tm.getD 4 undef :: tm.getD 5 undef :: tm.getD 6 undef :: tm.getD 7 undef :: tm.getD 8 undef :: tm.getD 9 undef :: tm.getD 10 undef :: tm.getD 11 undef :: tm.getD 12 undef :: tm.getD 13 undef :: tm.getD 14 undef :: tm.getD 15 undef :: tm.getD 16 undef :: tm.getD 17 undef :: tm.getD 18 undef :: tm.getD 19 undef :: tm.getD 20 undef :: tm.getD 21 undef :: tm.getD 22 undef :: tm.getD 23 undef :: tm.getD 24 undef :: tm.getD 25 undef :: tm.getD 26 undef :: tm.getD 27 undef :: tm.getD 28 undef :: tm.getD 29 undef :: tm.getD 30 undef :: tm.getD 31 undef :: tm.getD 32 undef :: tm.getD 33 undef :: tm.getD 34 undef :: tm.getD 35 undef :: tm.getD 36 undef :: tm.getD 37 undef :: []):=IY tm 38 hsz;rw[d6,d7]at e;clear d6 d7 hsz;generalize tm.getD 0 undef=v0 at e;generalize tm.getD 1 undef=v1 at e;generalize tm.getD 2 undef=v2 at e;generalize tm.getD 3 undef=v3 at e;generalize tm.getD 4 undef=v4 at e;generalize tm.getD 5 undef=v5 at e;generalize tm.getD 8 undef=v8 at e;generalize tm.getD 9 undef=v9 at e;generalize tm.getD 10 undef=v10 at e;generalize tm.getD 11 undef=v11 at e;generalize tm.getD 12 undef=v12 at e;generalize tm.getD 13 undef=v13 at e;generalize tm.getD 14 undef=v14 at e;generalize tm.getD 15 undef=v15 at e;generalize tm.getD 16 undef=v16 at e;generalize tm.getD 17 undef=v17 at e;generalize tm.getD 18 undef=v18 at e;generalize tm.getD 19 undef=v19 at e;generalize tm.getD 20 undef=v20 at e;generalize tm.getD 21 undef=v21 at e;generalize tm.getD 22 undef=v22 at e;generalize tm.getD 23 undef=v23 at e;generalize tm.getD 24 undef=v24 at e;generalize tm.getD 25 undef=v25 at e;generalize tm.getD 26 undef=v26 at e;generalize tm.getD 27 undef=v27 at e;generalize tm.getD 28 undef=v28 at e;generalize tm.getD 29 undef=v29 at e;generalize tm.getD 30 undef=v30 at e;generalize tm.getD 31 undef=v31 at e;generalize tm.getD 32 undef=v32 at e;generalize tm.getD 33 undef=v33 at e;generalize tm.getD 34 undef=v34 at e;generalize tm.getD 35 undef=v35 at e;generalize tm.getD 36 undef=v36 at e;generalize tm.getD 37 undef=v37 at e;subst e;have hF:VI b n 2 e W:=hval 7 _ rfl rfl;clear hval;obtain⟨g3,g5,hbx,ho3,JH⟩:=hF;have q0:=hbx.cell (i:=0) rfl;have q1:=hbx.cell (i:=1) rfl;have q2:=hbx.cell (i:=2) rfl;have q3:=hbx.cell (i:=3) rfl;have q4:=hbx.cell (i:=4) rfl;have EP:=zH ho3;have QY:=zH JH;have uP:=zH hC.1;clear ho3 JH hbx hC;go_wp2_with fail;refine zr (v:=.tuple #[rmv (dO 2 n e.toNat) (.slice (some ⟨g3,0,none⟩) n n) (.slice none 0 0) (.slice (some ⟨g5,0,none⟩) n n),.int .i64 0]) (by simp[rmv,dO,results,results65,go_sem,q0,q1,q2,q3,q4]; omega) rfl ?_;exact⟨_,_,_,_,rfl,Hq 2 e.toNat EP.out QY.out (by have:=HB.out; omega),HA.out.trans (uP.out.mono (by have:=HB.out; have:=HA.out.size; omega))⟩
end oH
end Go.Proofs.YtfnehkmhcmkhjaaGreat
