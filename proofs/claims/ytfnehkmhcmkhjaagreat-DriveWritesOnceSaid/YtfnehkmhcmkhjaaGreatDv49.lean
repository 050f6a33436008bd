/- Parts:XLm -/
import Derived.Test.YtfnehkmhcmkhjaaGreatDvAl
import Derived.Test.YtfnehkmhcmkhjaaGreatDv48
import Derived.Test.YtfnehkmhcmkhjaaGreatDv47
set_option maxRecDepth 100000
set_option maxHeartbeats 8000000
set_option linter.unusedVariables false
set_option linter.unusedSimpArgs false
namespace Go.Proofs.YtfnehkmhcmkhjaaGreat
open Tryz
namespace T7
open Go Go.RowKit C9 oH
theorem YH{D D':PD}{N:Nat}(h:gY D N)(hn:Nx D D'){i:Nat}(hi:i<D.n)(hne:lW D'.M i≠lW D.M i):D.fin=false/\lW D.M i = []:=by
 constructor
 ·cases hf:D.fin with
  | false=>rfl
  | true=>exact absurd (by rw[hn.fin hf]) hne
 ·by_cases he:lW D.M i = []
  ·exact he
  ·exact absurd (TJ hn.mono (by rw[h.n]; exact hi) he) hne
section
variable {w W W':World} {p pm N:Nat} {D:PD} {Q:Nat->Prop}
theorem qP.sU(h:qP w p pm D Q W)(ho:gY D N):
 Calls prog 13 #[.pointer (some ⟨p,0,none⟩),dR 7 0 0 0 0 (.slice none 0 0)] W fun e w'=>∃a c,e=.returned (dL ⟨0,0,[],D.cl,D.fin,D.tr⟩ (.slice none 0 0) (.slice a D.tr.length c))/\Below W.heap.size W w':=by
 obtain⟨⟨vt,vc,X,R,hd,ha⟩,_,_⟩:=h;have hc:=hd.cells;exact(RZ hc.2.2.2.2.1 hc.2.2.2.2.2.1 hc.2.2.2.2.2.2.1 hd.tr (by have:=ho.ok.v.2.2.1; omega) 0 0 0 0 none 0 0).mono fun e w' ⟨a,c,he,_,hb⟩=>⟨a,c,he,hb⟩
structure VJ (w:World) (p pm n N g:Nat) (D:PD) (W:World):Prop where
 d:qP w p pm D (fun b=>b=g) W
 o:gY D N
 nn:D.n=n
 r:gU W (.slice (some ⟨g,0,none⟩) n n) (qV (lW D.M) n)
theorem VJ.below{n g:Nat}(h:VJ w p pm n N g D W)(hb:Below W.heap.size W W'):VJ w p pm n N g D W':=⟨h.d.below hb,h.o,h.nn,dX.keep h.r hb⟩
theorem qP.img{n:Nat}(h:qP w p pm D Q W)(ho:gY D N)(hn:D.n=n)(h1:1<=n):
 Calls prog 12 #[.pointer (some ⟨p,0,none⟩)] W fun e w'=>∃g,e=.returned (.slice (some ⟨g,0,none⟩) n n)/\VJ w p pm n N g D w'/\Below W.heap.size W w':=by
 refine(Bh h ho).mono fun e w' hh=>?_
 obtain⟨g,he,hg,hb⟩:=hh;rw[hn]at he hg;have hg':w'.ownsRow W.heap.size 9 1 (.slice (some ⟨g,0,none⟩) n n) (qV (lW D.M) n).length (fK wU (qV (lW D.M) n)):=by rw[tZ]; exact hg
 obtain⟨g',c',e',h2,h3⟩:=qF hg h1;obtain⟨rfl,_⟩:g=g'/\n=c':=by simpa using e'
 exact⟨g,he,⟨(h.push hb).sub fun b hb'=>.inr (by rw[hb']; exact⟨h2,h3⟩),ho,hn,dX.bM qM hg'⟩,hb⟩
theorem StP.dra{k:Nat}{e:Ending}(h:StP k w e W):∃n p pm a1 m1 k1 a2 m2 k2 a3 m3 k3 A B a4 m4 k4,1<=n/\n<=60/\
 e=.returned (.tuple #[.pointer (some ⟨p,0,none⟩),rdv n (.slice a1 m1 k1) (.slice a2 m2 k2) (.slice a3 m3 k3) A B (.slice a4 m4 k4)])/\qP w p pm (Aw n) (fun _=>False) W:=by
 obtain⟨n,p,pm,vt,vc,X,R,a1,m1,k1,a2,m2,k2,a3,m3,k3,A,B,a4,m4,k4,h1,h2,he,hd,hb,ha⟩:=h;exact⟨n,p,pm,a1,m1,k1,a2,m2,k2,a3,m3,k3,A,B,a4,m4,k4,h1,h2,he,⟨⟨vt,vc,X,R,hd,fun b hb'=>⟨ha b hb',fun h=>h⟩⟩,hb,fun b h=>h.elim⟩⟩
end
theorem infoAct15:(prog.info? 54).map (·.size)=some 11:=by kernel_rfl
theorem undAct15':(prog.underlying 54).map (·.isRow)=some true:=by kernel_rfl
theorem undAct15:∃d,prog.underlying 54=some d/\d.isRow=true:=by
 have h:=undAct15';cases e:prog.underlying 54 with
 | none=>rw[e]at h; exact absurd h (by simp)
 | some d=>rw[e]at h; exact⟨d,rfl,by simpa using h⟩
theorem Ez{ops:Array Oper}{rest:List Oper}{op:Oper}{a:Act}{w:World}{Q:Exit->Act->World->Prop}(hgd:op.guard=none)(x:Operand)(ho:op.op=.load 54 x)
 (g o:Nat)(cs:List Value)(hx:a.eval x=.pointer (some ⟨g,o,none⟩))(hb:w.rangeAt g o cs)(hl:cs.length=11)
 (h:wpList prog ops Q rest (a.put op.dst (.agg cs.toArray)) w):wpList prog ops Q (op :: rest) a w:=by
 obtain⟨d,hd1,hd2⟩:=undAct15;exact wpList_load_mid hgd _ x ho g o hx cs d hb hd1 hd2 (by rw[infoAct15,hl]) h
theorem Gj{W:World}{g n c:Nat}{l:List (List UInt8)}(h:gU W (.slice (some ⟨g,0,none⟩) n c) l){j:Nat}(hj:j<l.length):W.cell? ⟨g,j,none⟩=some (.string (str (bF [] l j))):=by
 obtain⟨b,off,hat⟩:=dX.at h;obtain⟨e,hr⟩:=hat j hj;have e2:=zs e;obtain⟨rfl,rfl⟩:g=b/\0=off:=by simpa using e2
 have:=hr 0 _ rfl;simpa using this
theorem Xx{f:Nat->List UInt8}{n j:Nat}(h:j<n):bF [] (qV f n) j=f j:=by simp[qV,bF,h]
theorem qP.base{w0 w W:World}{p pm:Nat}{D:PD}{Q:Nat->Prop}(h:qP w p pm D Q W)(hb:Below w0.heap.size w0 w):qP w0 p pm D Q W:=by obtain⟨⟨vt,vc,X,R,hd,ha⟩,hbl,hq⟩:=h;exact⟨⟨vt,vc,X,R,hd,fun b hb'=>⟨zT hb.size (ha b hb').1,(ha b hb').2⟩⟩,hb.trans (hbl.mono hb.size),hq⟩
theorem VJ.up{w W:World}{p pm n N K g:Nat}{D:PD}(h:VJ w p pm n N g D W)(hk:N<=K):VJ w p pm n K g D W:=⟨h.d,h.o.up hk,h.nn,h.r⟩
theorem Vt(w:World)(a:Int)(wa:(Lit.int .u8 a).wf=true)(v:Value)(L:List AX)(hL:qc w v L):
 Calls prog 3 #[.int .u8 a,v] w fun e w'=>e=.returned (.bool true)/\Below w.heap.size w w':=by
 obtain⟨k8,rfl,hk8⟩:=abq wa;clear wa;have uN:=zH (Wn w);have HL:=zH hL;have HK8:=zH hk8;obtain⟨al,cl,rfl,_⟩:=dX.form hL.1;obtain⟨bl,off,hcell⟩:=dX.at hL.1;have HC:=zH hcell;have HA:=zH hL.2.2;have hl63:=hL.2.1;clear hL hk8 hcell;go_enter func3,ntmps3;go_wp2_with fail;refine uN.out.mono ?_;rintro e w1 ⟨rfl,hb1⟩;have HB1:=zH hb1;have HF:=zH (acP (HL.out.keep hb1));clear hb1;go_wp2_with fail;refine HF.out.mono ?_;rintro e w2 ⟨b,rfl,hF,hw2⟩;rw[hw2];clear hw2;have HFB:=zH hF;clear hF;cases b
 ·go_wp2_with fail;go_ret;exact⟨rfl,HB1.out⟩
 ·have HS:=zH (Yq k8 HK8.out w1);have h30:=HFB.out rfl;go_upto_region 6 with (first
   | (go_at_call 11
      refine HS.out.mono ?_;rintro e w3 hSt;obtain⟨n,p,pm,e1,m1,k1,e2,m2,k2,e3,m3,k3,SA,SB,e4,m4,k4,h1,h2,rfl,hd⟩:=hSt.dra;clear hSt;unfold rdv)
   | (refine iI rfl 42 (.tmp 6) (.tmp 23) rfl w3.heap.size [.int .i64 1,.int .i64 (n:Nat),.int .i64 1,.int .i64 1,.slice e1 m1 k1,.slice e2 m2 k2,.slice e3 m3 k3,.int .i64 0,.int .i64 0,.int .i64 0,.slice none 0 0,.slice none 0 0,.int .i64 0,.bool false,.slice none 0 0,.string SA,.string SB,.slice none 0 0,.slice e4 m4 k4] rfl rfl (Bx.new w3 42 [.int .i64 0,.int .i64 0,.int .i64 0,.int .i64 0,.slice none 0 0,.slice none 0 0,.slice none 0 0,.int .i64 0,.int .i64 0,.int .i64 0,.slice none 0 0,.slice none 0 0,.int .i64 0,.bool false,.slice none 0 0,.string ⟨#[]⟩,.string ⟨#[]⟩,.slice none 0 0,.slice none 0 0]) rfl infoDr15 (by simp[Value.oneCell']) ?_; intro w4 ae4 ho4 wH))
  have HHD:=zH hd;have A8:=zH (And.intro h1 h2);have hA:Below w3.heap.size w3 w4:=((zB w3.heap.size w3).alloc (zl _) (.cells #[.int .i64 0,.int .i64 0,.int .i64 0,.int .i64 0,.slice none 0 0,.slice none 0 0,.slice none 0 0,.int .i64 0,.int .i64 0,.int .i64 0,.slice none 0 0,.slice none 0 0,.int .i64 0,.bool false,.slice none 0 0,.string ⟨#[]⟩,.string ⟨#[]⟩,.slice none 0 0,.slice none 0 0] 42)).trans (wH _ (zl _));have HI4:=zH (((hd.base HB1.out).below hA).img (Nb h1 (by omega)) rfl h1);clear hd h1 h2 ae4 ho4 wH hA;go_wp2_with fail;refine HI4.out.mono ?_;rintro e w5 ⟨g0,rfl,hI5,_⟩;have HI5:=zH hI5;clear hI5;go_wp2_with fail
  go_loopw [30,7] (fun v30 v7 wr=>∃(i:Nat)(D:PD)(g:Nat),i<=L.length/\v30=.int .i64 i/\v7=.slice (some ⟨g,0,none⟩) n n/\Hid (VJ w p pm n (130 * i) g D wr)) (fun v30 _ _=>L.length - (RowKit.intOf v30).toNat)
  case atStart=>exact⟨0,Aw n,g0,by omega,rfl,rfl,HI5⟩
  case round=>
   clear HI5;obtain⟨i,D,g,hi,rfl,rfl,HW⟩:=hrel;by_cases hlt:i<L.length
   ·have A7:=zH hlt;obtain⟨hva,hrange⟩:=HC.out i hlt;have hx:=HA.out i hlt;obtain⟨x,hxe⟩:∃x,x=bF axz L i:=⟨_,rfl⟩;rw[<-hxe]at hx hrange;clear hxe;have hix:=fun w'=>aH underlying22 infoAct15 (cap:=cl) (n:=L.length) (k:=i) (b:=bl) (off:=off) hva hlt _ rfl w'
    have hrg:wr.rangeAt bl (off+i * 11) (Ws x):=fun j u hu=>(HW.out.d.bl.cell (p:=⟨bl,off+i * 11+j,none⟩) (zc w _ (hrange j u hu))).trans (hrange j u hu)
    obtain⟨aB,cB,hvB,_⟩:=dX.form hx.L.1;obtain⟨sa,sc,hvs,_⟩:=dX.form hx.s.1;obtain⟨aE,cE,hvE,_⟩:=bK.form hx.d.er.1;obtain⟨aC,cC,hvC,_⟩:=dX.form hx.d.ch.1;obtain⟨cs,hcs⟩:∃cs,cs=Ws x:=⟨_,rfl⟩;have HCS:Hid (cs.length=11/\∀v ∈ cs,v.oneCell'=true):=zH (by
     rw[hcs];unfold Ws;rw[hvB,hvs,hvE,hvC];exact⟨rfl,by simp[Value.oneCell']⟩)
    have HBV:=zH hvB;have vY:Hid (1<=x.L.length->∀b,(Value.slice aB x.L.length cB).ownBlock=some b->b<w.heap.size):=zH fun h1 b hb=>by have hLL:=hx.L.1;rw[hvB]at hLL;obtain⟨b2,o2,h2⟩:=dX.at hLL;obtain⟨e3,h3⟩:=h2 0 h1;have h4:=zc w _ (h3 0 _ rfl);subst e3;obtain rfl:=zs hb;exact h4
    have HX:=zH hx;have jD:Hid (cs=Ws x):=zH hcs;rw[<-hcs]at hrg;have V5:=zH hrg;clear hrange hrg hvB hvs hvE hvC hcs hx hva;go_upto_region 12 with (first
     | (refine Ez rfl (.tmp 32) rfl bl (off+i * 11) cs rfl V5.out HCS.out.1 ?_)
     | (refine iI rfl 54 (.tmp 9) (.tmp 33) rfl wr.heap.size cs rfl rfl (Bx.new wr 54 [.int .i64 0,.int .i64 0,.int .i64 0,.int .i64 0,.int .i64 0,.int .i64 0,.slice none 0 0,.slice none 0 0,.int .i64 0,.slice none 0 0,.slice none 0 0]) (by rw[HCS.out.1]; rfl) (by rw[HCS.out.1]; exact infoAct15) HCS.out.2 ?_; intro wB Tn hoB hAB))
    obtain⟨b9,wI⟩:∃b,b=wr.heap.size:=⟨_,rfl⟩;have hA:Below wr.heap.size wr wB:=((zB wr.heap.size wr).alloc (zl _) (.cells #[.int .i64 0,.int .i64 0,.int .i64 0,.int .i64 0,.int .i64 0,.int .i64 0,.slice none 0 0,.slice none 0 0,.int .i64 0,.slice none 0 0,.slice none 0 0] 54)).trans (hAB _ (zl _));rw[<-wI]at Tn ⊢;have HD9:Hid (qP w p pm D (fun b=>b=g\/b=b9) wB):=zH ((HW.out.d.push hA).sub fun b hb=>hb.imp id fun(h:b=b9)=>⟨by rw[h,wI]; exact zl _,by rw[h]; exact Tn.lt⟩);have HAB:=zH hA;have HR9:=zH (dX.keep HW.out.r hA);have HWB:=zH (HW.out.below hA);have ZI:=zH Tn;have h9:Bx wB b9 54 (Ws x):=by rw[<-jD.out]; exact Tn
    have s0:=h9.cell (i:=0) rfl;clear wI hA Tn hoB hAB h9 hix;by_cases hk0:x.kind=0
    ·rw[hk0]at s0;have HTC:=zH (HD9.out.sU HW.out.o);unfold dR at HTC;go_upto_region 13 with (fail)
     go_wp2_with fail;refine HTC.out.mono ?_;rintro e w6 ⟨a6,c6,rfl,hb6⟩;have HD6:=zH (HD9.out.below hb6);have NY:=zH (dX.keep HR9.out hb6);have h6:Bx w6 b9 54 (Ws x):=by rw[<-jD.out]; exact ZI.out.call hb6
     have s1:=h6.cell (i:=1) rfl;have s2:=h6.cell (i:=2) rfl;have s3:=h6.cell (i:=3) rfl;have s4:=h6.cell (i:=4) rfl;have s5:=h6.cell (i:=5) rfl;have s6:=h6.cell (i:=6) rfl;rw[HBV.out]at s6;have hf1:=fun W=>Nw 0 0 D.cl D.fin none a6 0 0 D.tr.length c6 W
     have hf2:=fun W=>Yw D.cl D.fin a6 D.tr.length c6 W
     have hrB:gU w6 (.slice aB x.L.length cB) x.L:=by have:=dX.keep (dX.keep HX.out.L.1 HW.out.d.bl) (HAB.out.trans (hb6.mono HAB.out.size));rwa[HBV.out]at this
     have ZO:=zH (LW HD6.out HW.out.o (by omega) x.k x.aj x.cnt x.aN x.pk HX.out.k HX.out.aj HX.out.cnt aB cB x.L hrB (fun h1 b hb=>by
      have h2:=vY.out h1 b hb;exact⟨zL h2 HD6.out.bl.size,.inr h2⟩) HX.out.L.2.1 (fun y hy=>by
       obtain⟨j,hj,rfl⟩:=List.getElem_of_mem hy;have:=HX.out.L.2.2 j hj;simpa[bF,hj]using this))
     obtain⟨D2,hD2⟩:∃D2,D2=(iQ x.k x.aj x.cnt x.aN x.pk x.L D).2:=⟨_,rfl⟩;have VD:=zH (oW HW.out.o x.k x.aj x.cnt x.aN x.pk x.L);rw[<-hD2]at ZO VD;clear hD2;unfold dR at ZO;obtain⟨fin,hfin⟩:∃c,c=D.fin:=⟨_,rfl⟩;rw[<-hfin]at hf1 hf2 ⊢;have EO:=zH hfin;unfold dL;dsimp only[List.length_nil];clear hb6 h6 hrB hfin;go_wp2_with fail;refine ZO.out.mono ?_;intro e w7 hDo;obtain⟨⟨vb7,vt7,rfl,_⟩,hd7,QO,hs7⟩:=hDo;have HR7:=zH (qJ NY.out fun k hk=>QO k (.inl (zs hk).symm));have HI7:=zH (hd7.img VD.out.1 (VD.out.2.n.trans HW.out.nn) A8.out.1);generalize dL _ vb7 vt7=vr7;clear hd7 QO hs7 s0 s1 s2 s3 s4 s5 s6 hf1 hf2;go_wp2_with fail;refine HI7.out.mono ?_;rintro e w8 ⟨g2,rfl,hI8,hb8⟩;have HI8:=zH hI8;have HR8:=zH (dX.keep HR7.out hb8);clear hI8 hb8;have hnn:((n:Int) == (n:Int))=true:=beq_self_eq_true _;go_wp2_with fail
     go_loop [55] (fun v55=>∃j:Nat,j<=n/\v55=.int .i64 j) (fun v55=>n - (RowKit.intOf v55).toNat)
     case atStart=>exact⟨0,by omega,rfl⟩
     case round=>
      obtain⟨j,hj,rfl⟩:=hrel;by_cases hjl:j<n
      ·have HJL:=zH hjl;have afG:=A8.out.2;have z1:=Gj HR8.out (j:=j) (by rw[tZ]; exact hjl);have z2:=Gj HI8.out.r (j:=j) (by rw[tZ]; exact hjl);rw[Xx hjl]at z1 z2;have hi1:=fun w'=>aH underlying46 (by kernel_rfl:(prog.info? 9).map (·.size)=some 1) (a:=some ⟨g,0,none⟩) (n:=n) (cap:=n) (k:=j) (b:=g) (off:=0) rfl hjl (j:Int) rfl w'
       have hi2:=fun w'=>aH underlying46 (by kernel_rfl:(prog.info? 9).map (·.size)=some 1) (a:=some ⟨g2,0,none⟩) (n:=n) (cap:=n) (k:=j) (b:=g2) (off:=0) rfl hjl (j:Int) rfl w'
       simp only[Nat.mul_one,Nat.zero_add]at hi1 hi2;by_cases he:lW D2.M j=lW D.M j
       ·rw[he]at z2;generalize str (lW D.M j)=s at z1 z2;have hbb:=bytes_beq s;clear he;go_wp2_with fail;go_round;case rel=>exact⟨j+1,by have:=HJL.out; omega,by go_num⟩
        case measure=>have:=HJL.out; simp[RowKit.intOf]; omega
       ·obtain⟨hf,hbk⟩:=YH HW.out.o VD.out.2 (by rw[HW.out.nn]; exact hjl) he;have hne:lW D2.M j≠[]:=fun h=>he (h.trans hbk.symm)
        rw[hbk]at z1;obtain rfl:fin=false:=EO.out.trans hf;have q1:=Zn (r:=[]) rfl;have q2:=TL hne;have q3:((str (lW D2.M j)).toList == (str []).toList)=false:=by rw[kL,kL];exact beq_eq_false_iff_ne.2 hne
        generalize str (lW D2.M j)=s at z2 q2 q3;generalize str []=s0 at z1 q1 q3;clear he hne hbk hf;go_wp2_with fail;go_round;case rel=>exact⟨j+1,by have:=HJL.out; omega,by go_num⟩
        case measure=>have:=HJL.out; simp[RowKit.intOf]; omega
      ·obtain rfl:j=n:=by omega
       have HW8:Hid (VJ w p pm j (130 * (i+1)) g2 D2 w8):=zH (HI8.out.up (by omega));go_wp2_with fail;go_roundw;case rel=>exact⟨i+1,D2,g2,by have:=A7.out; omega,by go_num,rfl,HW8⟩
       case measure=>have:=A7.out; simp[RowKit.intOf]; omega
    ·have hq:(x.kind == 0)=false:=beq_eq_false_iff_ne.2 hk0;have HW2:Hid (VJ w p pm n (130 * (i+1)) g D wB):=zH (HWB.out.up (by omega));generalize x.kind=kd at s0 hq;clear hk0;go_wp2_with fail;go_roundw;case rel=>exact⟨i+1,D,g,by have:=A7.out; omega,by go_num,rfl,HW2⟩
     case measure=>have:=A7.out; simp[RowKit.intOf]; omega
   ·obtain rfl:i=L.length:=by omega
    go_wp2_with fail;go_ret;exact⟨rfl,HW.out.d.bl⟩
end T7
end Go.Proofs.YtfnehkmhcmkhjaaGreat
