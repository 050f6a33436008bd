/- Parts -/
import Derived.Test.YtfnehkmhcmkhjaaGreatDu15
import Derived.Test.YtfnehkmhcmkhjaaGreatDu16
set_option maxRecDepth 100000
set_option maxHeartbeats 8000000
set_option linter.unusedVariables false
namespace Go.Proofs.YtfnehkmhcmkhjaaGreat
open Tryz
namespace wu
open Go.RowKit Go.Maps C9
open W8 (is)
theorem aj8(p:Option Nat)(w:World):(binOp .eql 76 (.map p) (.map none)).run prog w=.ok (.bool p.isNone) w:=by
 have h:∀(d:Nat)(w:World),(Op.equalIn (d+1) 76 (.map p) (.map none)).run prog w=.ok p.isNone w:=λd w=>by cases p <;> simp[Op.equalIn,YH underlying76]
 simp only[binOp];simp[show Op.equal 76 (.map p) (.map none)=Op.equalIn (9999+1) 76 (.map p) (.map none) from rfl,h 9999 w]
theorem agY(p:Option Nat)(w:World):(binOp .eql 173 (.map p) (.map none)).run prog w=.ok (.bool p.isNone) w:=by
 have h:∀(d:Nat)(w:World),(Op.equalIn (d+1) 173 (.map p) (.map none)).run prog w=.ok p.isNone w:=λd w=>by cases p <;> simp[Op.equalIn,YH underlying173]
 simp only[binOp];simp[show Op.equal 173 (.map p) (.map none)=Op.equalIn (9999+1) 173 (.map p) (.map none) from rfl,h 9999 w]
theorem rdc{w:World}{b o:Nat}{x:Int×Int}(h:w.rangeAt b o (chc x)):w.cell? ⟨b,o,none⟩=some (.int .i64 x.1)/\w.cell? ⟨b,o+1,none⟩=some (.int .i64 x.2):=⟨h 0 _ rfl,h 1 _ rfl⟩
def chK(l:List (Int×Int))(k:Nat):Prop:=∀i,i<k->pW (OJ l i)
theorem afJ{l:List (Int×Int)}(h:chK l l.length):∀c∈l,pW c:=λc hc=>by obtain⟨i,hi,rfl⟩:=YL hc;have:=h i hi;simpa[OJ,aJ,hi]using this
theorem afK{l:List (Int×Int)}{k:Nat}(hk:k<l.length)(h:¬ pW (OJ l k)):¬ ∀c∈l,pW c:=λh2=>h (h2 _ (qN hk))
theorem sizeCh12:(prog.info? 177).map (·.size)=some 2:=by kernel_rfl
theorem ZN{w:World}{g:Nat}{M:aA}{X R:Nat->Prop}{N:Nat}(h:fF w g M X R)(ho:M.Ok N)(vE vC:Value)(d:Ia){w0:World}(hd:RJ w0 vE vC d)(hcl:∀W X2 R2,Ch X R X2 R2 w W->∀a u,w0.cell? a=some u->W.cell? a=some u):
 Calls prog 44 #[.pointer (some ⟨g,0,none⟩),ZO vE vC d] w (Ho (M.gU d) g X R w):=by
 obtain⟨L,hc⟩:=h;obtain⟨hE,hC,aol,hlen,hwf⟩:=hd;obtain⟨aj,E,C⟩:=d;simp only at hE hC aol hlen hwf;have hE0:=hE;have hC0:=hC;obtain⟨hEl,⟨aE,cE,bE,oE,rfl,hEc,hEr⟩,hEw⟩:=hE0;obtain⟨aC,cC,rfl,hCc⟩:=dB.form hC0;obtain⟨bC,oC,hCr⟩:=dB.at hC0;have RX:=zH hcl;clear hcl;have HER:=zH hEr;have HCR:=zH hCr;have HEW:=zH hEw;have VC:=zH hwf;have hA:=(zB w.heap.size w).alloc (zl _) (.cells #[.int .i64 aj,.slice aE E.length cE,.slice aC C.length cC] 52);have hB:=Bx.new w 52 [.int .i64 aj,.slice aE E.length cE,.slice aC C.length cC];have hcA:=hc.below hA;have HH:=zH (su hcA ho.n.2 aj);have N7:Hid (∀w',Below w.heap.size w w'->¬ (⟨aj,E,C⟩:Ia).Ok M.n->Ho (M.gU ⟨aj,E,C⟩) g X R w (.returned (.int .i64 1)) w'):=zH λw' hb hn=>by unfold aA.gU;rw[zi hn];exact Ho.same ⟨L,hc⟩ hb
 have HO:=zH ho;have HM:=zH hc;have HE:=zH hE;have HC:=zH hC;clear hc ho hE hC hEr hCr hEw hwf;have b0:=hB.cell (i:=0) rfl;have b1:=hB.cell (i:=1) rfl;have b2:=hB.cell (i:=2) rfl;by_cases hr:0<=aj/\aj<(M.n:Int)
 ·rw[zt hr]at HH;obtain⟨i,rfl⟩:∃i:Nat,aj=i:=⟨aj.toNat,by omega⟩;go_enter func44,ntmps44;unfold ZO;go_wp2_with fail;refine HH.out.mono ?_;rintro e w' ⟨rfl,rfl⟩;clear HH;have HA:=zH hA;have ny:=zH hB;have HMA:=zH hcA;clear hA hB hcA;obtain⟨w1,hw1⟩:∃w1,w1=w.alloc (.cells #[.int .i64 i,.slice aE E.length cE,.slice aC C.length cC] 52):=⟨_,rfl⟩;change Hid (Bx (w.alloc (.cells #[.int .i64 i,.slice aE E.length cE,.slice aC C.length cC] 52)) _ _ _) at ny;rw[<-hw1]at HA ny HMA b0 b1 b2 ⊢;clear hw1;go_wp2_with fail
  go_loopw [22] (λvk wr=>∃k:Nat,k<=E.length/\vk=.int .i64 k/\Hid (erK E k)/\wr=w1) (λvk _=>E.length-(RowKit.intOf vk).toNat)
  case atStart=>exact⟨0,by omega,rfl,zH ⟨λi hi=>by omega,λi hi=>by omega⟩,rfl⟩
  case round=>
   obtain⟨k,hk,rfl,HK,rfl⟩:=hrel;by_cases hlt:k<E.length
   ·obtain⟨ha,hcell0⟩:=HER.out k hlt;have hcell:=RX.out _ X R (Ch.of HA.out) ⟨bE,oE+k,none⟩ _ hcell0;have hx:=HEW.out k hlt;have Ha:=zH ha;have hix:=λw'=>aB underlying31 sizeInt9 (cap:=cE) ha hlt k rfl w'
    have IZ:=zH (Qu (aI E k) wr);simp only[Yy]at hix;by_cases hin:0<=aI E k/\aI E k<2352
    ·rw[zt hin]at IZ;by_cases h0:k=0
     ·subst h0;have HS:=zH ((yc HK.out).2 ⟨hin,λh=>by omega⟩);have hix0:=λw'=>aB underlying31 sizeInt9 (cap:=cE) ha hlt (0:Int) rfl w'
      simp only[Nat.zero_mul,YO]at hix0 hcell;generalize aI E 0=x at *;clear hcell0 hix ha;go_wp2_with fail;refine IZ.out.mono ?_;rintro e w' ⟨rfl,rfl⟩;go_wp2_with fail;go_roundw;case rel=>exact⟨1,by omega,by go_num,HS.out,trivial⟩
      case measure=>simp[RowKit.intOf];omega
     ·have hk1:k-1<E.length:=by omega
      have LX:=(HER.out (k-1) hk1).2;have aof:=RX.out _ X R (Ch.of HA.out) ⟨bE,oE+(k-1),none⟩ _ LX;have aoj:=λw'=>aB underlying31 sizeInt9 (cap:=cE) ha hk1 ((k:Int)-1) (by omega) w'
      simp only[Yy]at aoj;have hxp:=HEW.out (k-1) hk1;have h0':0<k:=by omega
      by_cases hle:aI E k<=aI E (k-1)
      ·have HR:=zH (N7.out _ HA.out λh2=>V4 hlt (λh3=>by have:=((yc HK.out).1 h3).2 h0';omega) HK.out h2.2.1);generalize aI E k=x at *;generalize aI E (k-1)=y at *;clear hcell0 LX ha;go_wp2_with fail;refine IZ.out.mono ?_;rintro e w' ⟨rfl,rfl⟩;go_wp2_with fail;go_ret;exact HR.out
      ·have HS:=zH ((yc HK.out).2 ⟨hin,λ_=>by omega⟩);generalize aI E k=x at *;generalize aI E (k-1)=y at *;clear hcell0 LX ha;go_wp2_with fail;refine IZ.out.mono ?_;rintro e w' ⟨rfl,rfl⟩;go_wp2_with fail;go_roundw;case rel=>exact⟨k+1,by omega,by go_num,HS.out,trivial⟩
       case measure=>simp[RowKit.intOf];omega
    ·rw[zf hin]at IZ;have HR:=zH (N7.out _ HA.out λh2=>V4 hlt (λh3=>hin ((yc HK.out).1 h3).1) HK.out h2.2.1);generalize aI E k=x at *;clear hcell0 ha;go_wp2_with fail;refine IZ.out.mono ?_;rintro e w' ⟨rfl,rfl⟩;go_wp2_with fail;go_ret;exact HR.out
   ·have hE1:=zH (agc (by have:k=E.length:=(by omega);subst this;exact HK.out));clear HK;have hke:k=E.length:=by omega
    subst hke;go_wp2_with fail
    go_loopw [48] (λvk wr2=>∃k:Nat,k<=C.length/\vk=.int .i64 k/\Hid (chK C k)/\Bx wr2 w.heap.size 52 [.int .i64 i,.slice aE E.length cE,.slice aC C.length cC]/\Below w.heap.size w wr2) (λvk _=>C.length-(RowKit.intOf vk).toNat)
    case atStart=>exact⟨0,by omega,rfl,zH λi hi=>by omega,ny.out,HA.out⟩
    case round=>
     clear b0 b1 b2 HMA HA ny;obtain⟨k,hk,rfl,HK,hbx,hb⟩:=hrel;obtain⟨wo,rfl⟩:∃wo:World,wo=wr:=⟨_,rfl⟩;have hbs:=hb.size;by_cases hlt:k<C.length
     ·obtain⟨ha,hrange⟩:=HCR.out k hlt;have Md:=VC.out k hlt;have HN1:=zH (λ(h:¬ pW (OJ C k)) w' hw'=>N7.out w' hw' λh2=>afK hlt h h2.2.2);have HS:Hid (pW (OJ C k)->chK C (k+1)):=zH λh m hm=>by
       by_cases e:m<k
       ·exact HK.out m e
       ·have:m=k:=by omega
        rw[this];exact h
      change w0.rangeAt bC (oC+k*2) (chc (OJ C k)) at hrange;generalize OJ C k=x at *;obtain⟨co,cx⟩:=x;have hrg:wo.rangeAt bC (oC+k*2) (chc ⟨co,cx⟩):=λj u hu=>RX.out _ X R (Ch.of hb) ⟨bC,oC+k*2+j,none⟩ _ (hrange j u hu)
      clear hrange;obtain⟨hc0,hc1⟩:=rdc hrg;clear hrg;simp only at hc0 hc1 Md;have hix:=λw'=>aB underlying50 sizeCh12 (cap:=cC) ha hlt k rfl w'
      clear ha;have hA:=(zB wo.heap.size wo).alloc (zl _) (.cells #[.int .i64 co,.int .i64 cx] 177);have hb2:=hb.trans (hA.mono hbs);have hbx2:=hbx.call hA;have IZ:=zH (Qu co (wo.alloc (.cells #[.int .i64 co,.int .i64 cx] 177)));have HB2:=zH hb2;have CX:=zH hbx2;clear hb2 hbx2 hA;by_cases hin:0<=co/\co<2352
      ·rw[zt hin]at IZ;by_cases hx1:cx<1
       ·have HR:=zH (HN1.out (λh=>by unfold pW at h;omega) _ HB2.out);go_wp2_with fail;refine IZ.out.mono ?_;rintro e w' ⟨rfl,rfl⟩;go_wp2_with fail;go_ret;exact HR.out
       ·by_cases hx2:255<cx
        ·have HR:=zH (HN1.out (λh=>by unfold pW at h;omega) _ HB2.out);go_wp2_with fail;refine IZ.out.mono ?_;rintro e w' ⟨rfl,rfl⟩;go_wp2_with fail;go_ret;exact HR.out
        ·have HS2:=zH (HS.out ⟨hin,by simp only;omega,by simp only;omega⟩);go_wp2_with fail;refine IZ.out.mono ?_;rintro e w' ⟨rfl,rfl⟩;go_wp2_with fail;go_roundw;case rel=>exact⟨k+1,by omega,by go_num,HS2.out,CX.out,HB2.out⟩
         case measure=>simp[RowKit.intOf];omega
      ·rw[zf hin]at IZ;have HR:=zH (HN1.out (λh=>hin h.1) _ HB2.out);go_wp2_with fail;refine IZ.out.mono ?_;rintro e w' ⟨rfl,rfl⟩;go_wp2_with fail;go_ret;exact HR.out
     ·have hke:k=C.length:=by omega
      subst hke;have xA:=zH (afJ HK.out);clear HK;have hOk:Hid ((⟨i,E,C⟩:Ia).Ok M.n):=zH ⟨hr,hE1.out,xA.out⟩;have hcr:=HM.out.below hb;have hiL:i<L.S.length:=by rw[hcr.n];omega
      obtain⟨_,_,c2,_,_⟩:=hcr.cells;have b0:=hbx.cell (i:=0) rfl;have b1:=hbx.cell (i:=1) rfl;have b2:=hbx.cell (i:=2) rfl;have akO:=zH hcr;have ny:=zH hbx;have HB:=zH hb;have hll:L.S.length<=4096:=by rw[hcr.n];exact HO.out.n.2
      clear hcr hbx hb;go_wp2_with fail;go_quiet (fail);have hcr3:=akO.out.below (Below.drewN (zB wo.heap.size wo) nq);have Zo:=zH (ny.out.call (Below.drewN (zB wo.heap.size wo) nq));have HB3:=zH (HB.out.trans ((Below.drewN (zB wo.heap.size wo) nq).mono HB.out.size));generalize wo.drewN nq=w3 at *;clear c2 b0 b1 b2 akO ny HB;have q3:=hcr3.fG hiL (j:=3) (by decide);have q4:=hcr3.fG hiL (j:=4) (by decide);simp only[kU,Yg,Yi]at q3 q4;have f3:=hcr3.sec.free (i*5+3);have f4:=hcr3.sec.free (i*5+4);have n3:=aj8 (aJ dD L.S i).e;have n4:=agY (aJ dD L.S i).c;have b0:=Zo.out.cell (i:=0) rfl;have b1:=Zo.out.cell (i:=1) rfl;have b2:=Zo.out.cell (i:=2) rfl;rcases he:(aJ dD L.S i).e with _|be <;> rcases hc:(aJ dD L.S i).c with _|bc
      focus
       rw[he]at q3 n3;rw[hc]at q4 n4;have hal:=hcr3.below ((zB w3.heap.size w3).alloc (zl _) (.map #[] 0));have a3:=hal.fG hiL (j:=3) (by decide);have a4:=hal.fG hiL (j:=4) (by decide);simp only[kU,Yg,Yi,he,hc]at a3 a4;have af3:=hal.sec.free (i*5+3);have af4:=hal.sec.free (i*5+4);obtain⟨L4,X4,h4,g4,l4,e4,c4,k4⟩:=hcr3.MK hiL true he;change cu ((w3.alloc (.map #[] 0)).setCell ⟨L.gs,i*5+3,none⟩ (.map (some w3.heap.size))) g L4 M X4 R at h4;change Ch X R X4 R w3 ((w3.alloc (.map #[] 0)).setCell ⟨L.gs,i*5+3,none⟩ (.map (some w3.heap.size))) at k4;change (aJ dD L4.S i).e=some w3.heap.size at e4;change (aJ dD L4.S i).c=(aJ dD L.S i).c at c4;rw[hc]at c4;obtain⟨w4,hw4⟩:∃w4,w4=(w3.alloc (.map #[] 0)).setCell ⟨L.gs,i*5+3,none⟩ (.map (some w3.heap.size)):=⟨_,rfl⟩;rw[<-hw4]at h4 k4;have hi4:i<L4.S.length:=by rw[l4];exact hiL
       have t4:=h4.fG hi4 (j:=4) (by decide);simp only[kU,Yg,Yi,c4,g4]at t4;rw[hw4]at t4;have Ud:=h4.below ((zB w4.heap.size w4).alloc (zl _) (.map #[] 0));have p4:=Ud.fG hi4 (j:=4) (by decide);simp only[kU,Yg,Yi,c4,g4]at p4;have pf4:=Ud.sec.free (i*5+4);rw[g4]at pf4;obtain⟨L5,X5,h5,g5,l5,e5,c5,k5⟩:=h4.MK hi4 false c4;change cu ((w4.alloc (.map #[] 0)).setCell ⟨L4.gs,i*5+4,none⟩ (.map (some w4.heap.size))) g L5 M X5 R at h5;change Ch X4 R X5 R w4 ((w4.alloc (.map #[] 0)).setCell ⟨L4.gs,i*5+4,none⟩ (.map (some w4.heap.size))) at k5;change (aJ dD L5.S i).c=some w4.heap.size at e5;change (aJ dD L5.S i).e=(aJ dD L4.S i).e at c5;rw[e4]at c5;rw[g4]at h5 k5 g5;rw[hw4]at p4 pf4;obtain⟨w5,hw5⟩:∃w5,w5=(w4.alloc (.map #[] 0)).setCell ⟨L.gs,i*5+4,none⟩ (.map (some w4.heap.size)):=⟨_,rfl⟩;rw[<-hw5]at h5 k5;obtain⟨bE5,EK⟩:∃b,(aJ dD L5.S i).e=some b:=⟨_,c5⟩;obtain⟨bC5,EJ⟩:∃b,(aJ dD L5.S i).c=some b:=⟨_,e5⟩;have K5:=zH (k4.trans k5);have LL5:=zH (l5.trans l4);clear e5 c5 l5 k5 Ud;have H5:=zH h5;have G5:=zH g5;have BE5:=zH EK;have BC5:=zH EJ;have Ie:=zH hw4;have Ot:=zH hw5;clear he hc hcr3 hal h4 g4 l4 e4 c4 k4 h5 g5 hw4 hw5 EK EJ;have hmm:=@run_makeMap prog;go_upto_region 20 with (fail)
       have e5:((((w3.alloc (.map #[] 0)).setCell ⟨L.gs,i*5+3,none⟩ (.map (some w3.heap.size))).alloc (.map #[] 0)).setCell ⟨L.gs,i*5+4,none⟩ (.map (some (w3.heap.size+1))))=w5:=by rw[Ot.out,Ie.out];simp
       rw[e5];clear e5 hmm Ie Ot a3 a4 af3 af4 t4 p4 pf4 hi4
      rotate_left
      focus
       rw[he]at q3 n3;rw[hc]at q4 n4;have hal:=hcr3.below ((zB w3.heap.size w3).alloc (zl _) (.map #[] 0));have a3:=hal.fG hiL (j:=3) (by decide);have a4:=hal.fG hiL (j:=4) (by decide);simp only[kU,Yg,Yi,he,hc]at a3 a4;have af3:=hal.sec.free (i*5+3);have af4:=hal.sec.free (i*5+4);obtain⟨L4,X4,h4,g4,l4,e4,c4,k4⟩:=hcr3.MK hiL true he;change cu ((w3.alloc (.map #[] 0)).setCell ⟨L.gs,i*5+3,none⟩ (.map (some w3.heap.size))) g L4 M X4 R at h4;change Ch X R X4 R w3 ((w3.alloc (.map #[] 0)).setCell ⟨L.gs,i*5+3,none⟩ (.map (some w3.heap.size))) at k4;change (aJ dD L4.S i).e=some w3.heap.size at e4;change (aJ dD L4.S i).c=(aJ dD L.S i).c at c4;rw[hc]at c4;obtain⟨w4,hw4⟩:∃w4,w4=(w3.alloc (.map #[] 0)).setCell ⟨L.gs,i*5+3,none⟩ (.map (some w3.heap.size)):=⟨_,rfl⟩;rw[<-hw4]at h4 k4;have hi4:i<L4.S.length:=by rw[l4];exact hiL
       have t4:=h4.fG hi4 (j:=4) (by decide);simp only[kU,Yg,Yi,c4,g4]at t4;rw[hw4]at t4;obtain⟨w5,hw5⟩:∃w5,w5=w4:=⟨_,rfl⟩;obtain⟨L5,X5,h5,g5,hl5,bE5,bC5,EK,EJ,k5⟩:∃L5 X5,cu w5 g L5 M X5 R/\L5.gs=L.gs/\L5.S.length=L.S.length/\∃bE5 bC5,(aJ dD L5.S i).e=some bE5/\(aJ dD L5.S i).c=some bC5/\Ch X R X5 R w3 w5:=⟨L4,X4,by rw[hw5];exact h4,g4,l4,_,_,e4,c4,by rw[hw5];exact k4⟩;have K5:=zH k5;have LL5:=zH hl5;clear k5 hl5;have H5:=zH h5;have G5:=zH g5;have BE5:=zH EK;have BC5:=zH EJ;have Ie:=zH hw4;have Ot:=zH hw5;clear he hc hcr3 hal h4 g4 l4 e4 c4 k4 h5 g5 hw4 hw5 EK EJ;have hmm:=@run_makeMap prog;go_upto_region 20 with (fail)
       have e5:((w3.alloc (.map #[] 0)).setCell ⟨L.gs,i*5+3,none⟩ (.map (some w3.heap.size)))=w5:=by rw[Ot.out,Ie.out]
       rw[e5];clear e5 hmm Ie Ot a3 a4 af3 af4 t4 hi4
      rotate_left
      focus
       rw[he]at q3 n3;rw[hc]at q4 n4;have hal:=hcr3.below ((zB w3.heap.size w3).alloc (zl _) (.map #[] 0));have a3:=hal.fG hiL (j:=3) (by decide);have a4:=hal.fG hiL (j:=4) (by decide);simp only[kU,Yg,Yi,he,hc]at a3 a4;have af3:=hal.sec.free (i*5+3);have af4:=hal.sec.free (i*5+4);obtain⟨w4,hw4⟩:∃w4,w4=w3:=⟨_,rfl⟩;obtain⟨L4,X4,h4,g4,l4,e4,c4,k4⟩:∃L4 X4,cu w4 g L4 M X4 R/\L4.gs=L.gs/\L4.S.length=L.S.length/\(aJ dD L4.S i).e=some be/\(aJ dD L4.S i).c=none/\Ch X R X4 R w3 w4:=⟨L,X,by rw[hw4];exact hcr3,rfl,rfl,he,hc,by rw[hw4];exact .refl⟩;have hi4:i<L4.S.length:=by rw[l4];exact hiL
       have Ud:=h4.below ((zB w4.heap.size w4).alloc (zl _) (.map #[] 0));have p4:=Ud.fG hi4 (j:=4) (by decide);simp only[kU,Yg,Yi,c4,g4]at p4;have pf4:=Ud.sec.free (i*5+4);rw[g4]at pf4;obtain⟨L5,X5,h5,g5,l5,e5,c5,k5⟩:=h4.MK hi4 false c4;change cu ((w4.alloc (.map #[] 0)).setCell ⟨L4.gs,i*5+4,none⟩ (.map (some w4.heap.size))) g L5 M X5 R at h5;change Ch X4 R X5 R w4 ((w4.alloc (.map #[] 0)).setCell ⟨L4.gs,i*5+4,none⟩ (.map (some w4.heap.size))) at k5;change (aJ dD L5.S i).c=some w4.heap.size at e5;change (aJ dD L5.S i).e=(aJ dD L4.S i).e at c5;rw[e4]at c5;rw[g4]at h5 k5 g5;rw[hw4]at p4 pf4;obtain⟨w5,hw5⟩:∃w5,w5=(w4.alloc (.map #[] 0)).setCell ⟨L.gs,i*5+4,none⟩ (.map (some w4.heap.size)):=⟨_,rfl⟩;rw[<-hw5]at h5 k5;obtain⟨bE5,EK⟩:∃b,(aJ dD L5.S i).e=some b:=⟨_,c5⟩;obtain⟨bC5,EJ⟩:∃b,(aJ dD L5.S i).c=some b:=⟨_,e5⟩;have K5:=zH (k4.trans k5);have LL5:=zH (l5.trans l4);clear e5 c5 l5 k5 Ud;have H5:=zH h5;have G5:=zH g5;have BE5:=zH EK;have BC5:=zH EJ;have Ie:=zH hw4;have Ot:=zH hw5;clear he hc hcr3 hal h4 g4 l4 e4 c4 k4 h5 g5 hw4 hw5 EK EJ;have hmm:=@run_makeMap prog;go_upto_region 20 with (fail)
       have e5:((w3.alloc (.map #[] 0)).setCell ⟨L.gs,i*5+4,none⟩ (.map (some w3.heap.size)))=w5:=by rw[Ot.out,Ie.out]
       rw[e5];clear e5 hmm Ie Ot a3 a4 af3 af4 p4 pf4 hi4
      rotate_left
      focus
       rw[he]at q3 n3;rw[hc]at q4 n4;have hal:=hcr3.below ((zB w3.heap.size w3).alloc (zl _) (.map #[] 0));have a3:=hal.fG hiL (j:=3) (by decide);have a4:=hal.fG hiL (j:=4) (by decide);simp only[kU,Yg,Yi,he,hc]at a3 a4;have af3:=hal.sec.free (i*5+3);have af4:=hal.sec.free (i*5+4);obtain⟨w4,hw4⟩:∃w4,w4=w3:=⟨_,rfl⟩;obtain⟨L4,X4,h4,g4,l4,e4,c4,k4⟩:∃L4 X4,cu w4 g L4 M X4 R/\L4.gs=L.gs/\L4.S.length=L.S.length/\(aJ dD L4.S i).e=some be/\(aJ dD L4.S i).c=some bc/\Ch X R X4 R w3 w4:=⟨L,X,by rw[hw4];exact hcr3,rfl,rfl,he,hc,by rw[hw4];exact .refl⟩;have hi4:i<L4.S.length:=by rw[l4];exact hiL
       obtain⟨w5,hw5⟩:∃w5,w5=w4:=⟨_,rfl⟩;obtain⟨L5,X5,h5,g5,hl5,bE5,bC5,EK,EJ,k5⟩:∃L5 X5,cu w5 g L5 M X5 R/\L5.gs=L.gs/\L5.S.length=L.S.length/\∃bE5 bC5,(aJ dD L5.S i).e=some bE5/\(aJ dD L5.S i).c=some bC5/\Ch X R X5 R w3 w5:=⟨L4,X4,by rw[hw5];exact h4,g4,l4,_,_,e4,c4,by rw[hw5];exact k4⟩;have K5:=zH k5;have LL5:=zH hl5;clear k5 hl5;have H5:=zH h5;have G5:=zH g5;have BE5:=zH EK;have BC5:=zH EJ;have Ie:=zH hw4;have Ot:=zH hw5;clear he hc hcr3 hal h4 g4 l4 e4 c4 k4 h5 g5 hw4 hw5 EK EJ;have hmm:=@run_makeMap prog;go_upto_region 20 with (fail)
       have e5:w3=w5:=by rw[Ot.out,Ie.out]
       rw[e5];clear e5 hmm Ie Ot a3 a4 af3 af4 hi4
      rotate_left
      all_goals
       clear b0 b1 b2 q3 q4 n3 n4 f3 f4;have Ug:Bx w5 w.heap.size 52 [.int .i64 i,.slice aE E.length cE,.slice aC C.length cC]:=(K5.out.block w.heap.size Zo.out.lt (λh=>by have:=HM.out.lt _ (.inl h);omega)).trans Zo.out;have alQ:Ch X R X5 R w w5:=(Ch.of HB3.out).trans K5.out;have b1:=Ug.cell (i:=1) rfl;have am9:=zH Ug;have anh:=zH alQ;have HE0:Hid (M.put i {M.sec i with er:=Hu (M.sec i).er (E.take 0)} = M):=zH (by rw[List.take_zero,agb];exact aA.QQ M (by have:=H5.out.n;omega));have VG:Hid (¬ X5 w.heap.size):=zH λh=>(K5.out.x _ h).elim (λh2=>by have:=HM.out.lt _ (.inl h2);omega) (λh2=>by have:=Zo.out.lt;omega)
       clear Ug alQ;go_wp2_with fail
       go_loopw [95] (λvk wr=>∃k:Nat,k<=E.length/\vk=.int .i64 k/\Hid (∃L',cu wr g L' (M.put i {M.sec i with er:=Hu (M.sec i).er (E.take k)}) X5 R/\L'.gs=L.gs/\L'.S.length=L.S.length/\(aJ dD L'.S i).e=some bE5/\(aJ dD L'.S i).c=some bC5)/\Hid (Bx wr w.heap.size 52 [.int .i64 i,.slice aE E.length cE,.slice aC C.length cC])/\Hid (Ch X R X5 R w wr)) (λvk _=>E.length-(RowKit.intOf vk).toNat)
       case atStart=>exact⟨0,by omega,rfl,zH ⟨L5,by rw[HE0.out];exact H5.out,G5.out,LL5.out,BE5.out,BC5.out⟩,am9,anh⟩
       case round=>
        clear b1;obtain⟨k,hk,rfl,HK,HBK,HCK⟩:=hrel;by_cases hlt:k<E.length
        ·obtain⟨ha,hcell0⟩:=HER.out k hlt;obtain⟨L6,h6,g6,l6,e6,c6⟩:=HK.out;have hb0:=RX.out wr _ _ HCK.out;have hcell:=hb0 ⟨bE,oE+k,none⟩ _ hcell0;have hx:=hE1.out.1 (aI E k) (W8.di hlt);have hix:=λw'=>aB underlying31 sizeInt9 (cap:=cE) ha hlt k rfl w'
         simp only[Yy]at hix;have hi6:i<L6.S.length:=by rw[l6];exact hiL
         have hiM:i<M.n:=by have:=HM.out.n;omega
         have s3:=h6.fG hi6 (j:=3) (by decide);simp only[kU,Yg,Yi,e6,g6]at s3;have hW:=h6.maps i true hi6;unfold SM.W at hW;rw[zj rfl,e6,h6.at_ i,aA.jY _ _ hiM]at hW;have ant:=zH hW;have HF6:Hid (∀j,Hu (M.sec i).er (E.take k) j=true->j<2352):=zH λj hj=>by
          simp only[Hu,Xq,Yj]at hj;rcases hj with hj|hj
          ·exact(HO.out.sec i hiM).er j hj
          ·have:=hE1.out.1 _ (List.mem_of_mem_take hj);omega
         have zZ:Hid (Hu (M.sec i).er (E.take (k+1))=λj:Nat=>if (j:Int)=aI E k then true else Hu (M.sec i).er (E.take k) j):=zH (by
          have e:E.take (k+1)=E.take k++[aI E k]:=by rw[List.take_add_one,Ye hlt,W8.bT hlt];rfl
          rw[e,acL])
         have H6:=zH h6;have G6:=zH g6;have L66:=zH l6;have E6:=zH e6;have C6:=zH c6;generalize aI E k=x at *;clear ha hcell0 hb0 hW h6 g6 l6 e6 c6;obtain⟨hx0,hx1⟩:=hx;go_wp2_with (refine NQ rfl _ _ _ rfl ant.out rfl rfl rfl hx0 hx1 HF6.out ?_;intro w7 hm7 hg7);obtain⟨L7,h7,g7,l7,e7,c7,k7⟩:=H6.out.ajq (by rw[L66.out];exact hiL) E6.out hg7 hm7;rw[aA.rJ,aA.jY _ _ (by have:=HM.out.n;omega),<-zZ.out]at h7;have H7:=zH h7;have HB7:=zH ((k7.block w.heap.size HBK.out.lt VG.out).trans HBK.out);have HC7:=zH (HCK.out.trans k7);have E7:=zH (And.intro (g7.trans G6.out) (And.intro (l7.trans L66.out) (And.intro e7 (c7.trans C6.out))));clear h7 g7 l7 e7 c7 k7;go_roundw;case rel=>exact⟨k+1,by omega,by go_num,zH ⟨L7,H7.out,E7.out⟩,HB7,HC7⟩
         case measure=>simp[RowKit.intOf];omega
        ·have hke:k=E.length:=by omega
         subst hke;have hk1:=HK.out;rw[YD]at hk1;have HK1:=zH hk1;have b2:=HBK.out.cell (i:=2) rfl;have hi0:i<M.n:=by have:=HM.out.n;omega
         have HC0:Hid (Oa (M.sec i).ch (C.take 0)=(M.sec i).ch):=zH rfl;clear HK hk1;go_wp2_with fail
         go_loopw [108] (λvk wr=>∃k:Nat,k<=C.length/\vk=.int .i64 k/\Hid (∃L',cu wr g L' (M.put i {M.sec i with er:=Hu (M.sec i).er E,ch:=Oa (M.sec i).ch (C.take k)}) X5 R/\L'.gs=L.gs/\L'.S.length=L.S.length/\(aJ dD L'.S i).e=some bE5/\(aJ dD L'.S i).c=some bC5)/\Hid (Bx wr w.heap.size 52 [.int .i64 i,.slice aE E.length cE,.slice aC C.length cC])/\Hid (Ch X R X5 R w wr)) (λvk _=>C.length-(RowKit.intOf vk).toNat)
         case atStart=>exact⟨0,by omega,rfl,zH (by rw[HC0.out];exact HK1.out),HBK,HCK⟩
         case round=>
          clear b2 HK1 HBK HCK;obtain⟨k,hk,rfl,HK,HBK,HCK⟩:=hrel;obtain⟨wo,rfl⟩:∃wo:World,wo=wr:=⟨_,rfl⟩;by_cases hlt:k<C.length
          ·obtain⟨ha,hrange⟩:=HCR.out k hlt;have Md:=VC.out k hlt;have hc1:pW (OJ C k):=xA.out _ (qN hlt);have zZ:Hid (Oa (M.sec i).ch (C.take (k+1))=ch1 (Oa (M.sec i).ch (C.take k)) (OJ C k)):=zH (by
            have e:C.take (k+1)=C.take k++[OJ C k]:=by rw[List.take_add_one,Ye hlt];simp[OJ,aJ,hlt]
            rw[e,acj])
           have hb0:=RX.out wo _ _ HCK.out;change w0.rangeAt bC (oC+k*2) (chc (OJ C k)) at hrange;generalize OJ C k=x at *;obtain⟨co,cx⟩:=x;have hrg:wo.rangeAt bC (oC+k*2) (chc ⟨co,cx⟩):=λj u hu=>hb0 ⟨bC,oC+k*2+j,none⟩ _ (hrange j u hu)
           obtain⟨hc0,hc1'⟩:=rdc hrg;clear hrg hrange hb0;unfold pW at hc1;simp only at hc0 hc1' Md hc1;obtain⟨⟨x0,x1⟩,y0,y1⟩:=hc1;have hix:=λw'=>aB underlying50 sizeCh12 (cap:=cC) ha hlt k rfl w'
           clear ha;obtain⟨L6,h6,g6,l6,e6,c6⟩:=HK.out;have hal:=(zB wo.heap.size wo).alloc (zl _) (.cells #[.int .i64 co,.int .i64 cx] 177);have h7:=h6.below hal;have hi6:i<L6.S.length:=by rw[l6];exact hiL
           have s4:=h7.fG hi6 (j:=4) (by decide);simp only[kU,Yg,Yi,c6,g6]at s4;have hW:=h7.maps i false hi6;unfold SM.W at hW;rw[zi (by decide),c6,h7.at_ i,aA.jY _ _ hi0]at hW;change DI _ _ (Oa (M.sec i).ch (C.take k)) at hW;have hrun:=hW.run co x0 x1;have hV:(b8 cx).toNat=cx:=by unfold b8;rw[UInt8.toNat_ofNat'];omega
           have hwr:IntKind.u8.wrap cx=cx:=by simp[IntKind.wrap,IntKind.signed,IntKind.bits];omega
           have HBA:=zH (HBK.out.call hal);have HCA:=zH (HCK.out.trans (Ch.of (X:=X5) (R:=R) hal));have HW:=zH hW;have H7:=zH h7;have G6:=zH g6;have L66:=zH l6;have E6:=zH e6;have C6:=zH c6;have ajX:=GH (Oa (M.sec i).ch (C.take k) co.toNat) (b8 cx);rw[hV]at ajX;clear hW h6 h7 g6 l6 e6 c6 hal;go_wp2_with fail;have HBN:=Bx.new wo 177 [.int .i64 co,.int .i64 cx];have v0:=HBN.cell (i:=0) rfl;have v1:=HBN.cell (i:=1) rfl;clear HBN;change (wo.alloc (.cells #[.int .i64 co,.int .i64 cx] 177)).cell? _=_ at v0;change (wo.alloc (.cells #[.int .i64 co,.int .i64 cx] 177)).cell? _=_ at v1;generalize (wo.alloc (.cells #[.int .i64 co,.int .i64 cx] 177))=wa at *;have hWd:DI wa.drew (some bC5) (Oa (M.sec i).ch (C.take k)):=HW.out.kept λ_ _=>rfl
           have hrun2:=hWd.run co x0 x1;have HWD:=zH hWd;clear hWd hrun;go_still_tail 11,(by kernel_rfl);repeat still_step
           change wpList _ _ _ _ _ wa.drew;have h7d:=H7.out.below ((zB wa.heap.size _).drew);have HBD:=zH (HBA.out.call ((zB wa.heap.size _).drew));have HCD:=zH (HCA.out.trans (Ch.of (X:=X5) (R:=R) ((zB wa.heap.size _).drew)));generalize wa.drew=wd at *;refine NP rfl _ _ _ rfl HWD.out rfl rfl (Oa (M.sec i).ch (C.take k) co.toNat^^^b8 cx) (by first|rfl|exact Yp (Value.int .u8) ajX|(simp[ajX];done)) x0 x1 ?_;intro w8 hm8 hg8;obtain⟨L8,h8,g8,l8,e8,c8,k8⟩:=h7d.ajg hi6 C6.out hg8 hm8;have hF8:(λj:Nat=>if (j:Int)=co then Oa (M.sec i).ch (C.take k) co.toNat^^^b8 cx else Oa (M.sec i).ch (C.take k) j)=Oa (M.sec i).ch (C.take (k+1)):=by
            rw[zZ.out];funext j;unfold ch1;by_cases e:(j:Int)=co
            ·have e2:co.toNat=j:=by omega
             rw[zj e,zj e,e2]
            ·rw[zi e,zi e]
           rw[aA.rJ,aA.jY _ _ hi0,hF8]at h8;have H8:=zH h8;have NZ:=zH ((k8.block w.heap.size HBD.out.lt VG.out).trans HBD.out);have HC8:=zH (HCD.out.trans k8);have E8:=zH (And.intro (g8.trans G6.out) (And.intro (l8.trans L66.out) (And.intro (c8.trans E6.out) e8)));clear h8 g8 l8 e8 c8 k8 h7d;go_wp2_with fail;go_roundw;case rel=>exact⟨k+1,by omega,by go_num,zH ⟨L8,H8.out,E8.out.1,E8.out.2.1,E8.out.2.2.1,E8.out.2.2.2⟩,NZ,HC8⟩
           case measure=>simp[RowKit.intOf];omega
          ·have hke:k=C.length:=by omega
           subst hke;have hk1:=HK.out;rw[YD]at hk1;have HD:Hid (M.gU ⟨i,E,C⟩=(0,M.put i {M.sec i with er:=Hu (M.sec i).er E,ch:=Oa (M.sec i).ch C})):=zH (by
            unfold aA.gU;rw[zj hOk.out];rfl)
           have HZ:Hid (Ho (M.gU ⟨i,E,C⟩) g X R w (.returned (.int .i64 0)) wo):=zH (by
            rw[HD.out];obtain⟨L9,h9,_⟩:=hk1;exact⟨rfl,X5,R,⟨L9,h9⟩,HCK.out⟩)
           clear HK hk1 HD;go_wp2_with fail;go_ret;exact HZ.out
 ·rw[zf hr]at HH;have HR:=zH (N7.out _ hA λh2=>hr h2.1);clear hA hB hcA N7;go_enter func44,ntmps44;unfold ZO;go_wp2_with fail;refine HH.out.mono ?_;rintro e w' ⟨rfl,rfl⟩;go_wp2_with fail;go_ret;exact HR.out
def part(l:List Int)(i:Nat):List Int:=(l.filter λx=>decide (x/2352=(i:Int))).map (· % 2352)
theorem aaC(l:List Int)(x:Int)(i:Nat):part (l++[x]) i=if x/2352=(i:Int) then part l i++[x%2352] else part l i:=by unfold part;rw[List.filter_append,List.map_append];by_cases h:x/2352=(i:Int) <;> simp[h]
theorem aaB(n:Nat)(scr:List Sc)(i:Nat):part (sD n scr) i=fE n scr i:=by
 have hs:=yE scr (98*n);have hb:=yD scr (98*n);refine AU ?_ ?_ λz=>?_
 ·unfold part;rw[XH];refine(XN _ hs).imp_of_mem λ{a b} ha hb' h=>?_
  rw[YI]at ha hb';have h1:=YU ha.2;have h2:=YU hb'.2;omega
 ·unfold fE;rw[XH];exact(XN _ List.pairwise_lt_range).imp λh=>by simpa using h
 ·unfold part fE qE;simp only[YW,YI,Yx,Yj];constructor
  ·rintro⟨y,⟨h1,h2⟩,rfl⟩;have h3:=hb y h1;refine⟨(y%2352).toNat,⟨by omega,?_⟩,by show((y%2352).toNat:Int)=_;omega⟩;have e:((2352*i+(y%2352).toNat:Nat):Int)=y:=by omega
   rw[e];exact h1
  ·rintro⟨k,⟨h1,h2⟩,rfl⟩;refine⟨((2352*i+k:Nat):Int),⟨h2,by omega⟩,?_⟩;show _=(k:Int);omega
end wu
end Go.Proofs.YtfnehkmhcmkhjaaGreat
