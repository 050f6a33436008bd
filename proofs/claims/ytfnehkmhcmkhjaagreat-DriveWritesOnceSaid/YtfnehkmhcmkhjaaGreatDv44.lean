/- Parts:XKp XLw -/
import Derived.Test.YtfnehkmhcmkhjaaGreatDvAl
import Derived.Test.YtfnehkmhcmkhjaaGreatDv42
set_option maxRecDepth 100000
set_option maxHeartbeats 8000000
set_option linter.unusedVariables false
namespace Go.Proofs.YtfnehkmhcmkhjaaGreat
open Tryz
namespace T7
open Go Go.RowKit C9 oH
theorem UC{w w0:World}{p pm N:Nat}{D:PD}{vt vc:Value}{E:World->Prop}{EX Xm Rm X0 R0:Nat->Prop}(h:fH w p D pm none vt vc E EX Xm Rm)(hc:Ch X0 R0 (DX p vc EX Xm) (DR vt Rm) w0 w)(ho:gY D N)
 (k aj cnt aN pk:Int)(hi1:i64 aj)(hi2:i64 cnt)(a5:Option Addr)(n5 c5:Nat)(hbad:aj<0\/cnt<1\/(D.n:Int)<cnt\/(D.n:Int) - cnt<aj):
 Calls prog 76 #[.pointer (some ⟨p,0,none⟩),dR k aj cnt aN pk (.slice a5 n5 c5)] w (oK w0 X0 R0 p pm none E EX N (Rp.sense 4 0) D):=by
 obtain⟨wA,hwA⟩:∃w1,w1=(w.alloc (.cells #[.int .i64 k,.int .i64 aj,.int .i64 cnt,.int .i64 aN,.int .i64 pk,.slice a5 n5 c5] 49)).alloc (.cells aO.toArray 58):=⟨_,rfl⟩;obtain⟨b3,hb3⟩:∃b,b=w.heap.size:=⟨_,rfl⟩;obtain⟨b4,hb4⟩:∃b,b=w.heap.size+1:=⟨_,rfl⟩;have hA1:=(zB w.heap.size w).alloc (zl _) (.cells #[.int .i64 k,.int .i64 aj,.int .i64 cnt,.int .i64 aN,.int .i64 pk,.slice a5 n5 c5] 49);have hA:=hA1.alloc hA1.size (.cells aO.toArray 58);have bT:Bx ((w.alloc (.cells #[.int .i64 k,.int .i64 aj,.int .i64 cnt,.int .i64 aN,.int .i64 pk,.slice a5 n5 c5] 49)).alloc (.cells aO.toArray 58)) w.heap.size 49 [.int .i64 k,.int .i64 aj,.int .i64 cnt,.int .i64 aN,.int .i64 pk,.slice a5 n5 c5]:=(Bx.new w 49 [.int .i64 k,.int .i64 aj,.int .i64 cnt,.int .i64 aN,.int .i64 pk,.slice a5 n5 c5]).alloc _;have hbx:=Bx.new (w.alloc (.cells #[.int .i64 k,.int .i64 aj,.int .i64 cnt,.int .i64 aN,.int .i64 pk,.slice a5 n5 c5] 49)) 58 aO;rw[<-hwA]at hA hbx bT;rw[World.size_alloc,<-hb4]at hbx;rw[<-hb3]at bT;have yc:=zH (hc.trans (Ch.of hA));have qY:=zH (h.below hA);have ny:=zH hbx;have CP:=zH bT;have HB4:Hid (b4<wA.heap.size/\(∀b,DX p vc EX Xm b\/DR vt Rm b->b≠b4)/\w0.heap.size<=b4):=zH ⟨hbx.lt,fun b hb=>by have:=h.lo b hb; omega,by have:=hc.size; omega⟩;have wE:Hid ((w.alloc (.cells #[.int .i64 k,.int .i64 aj,.int .i64 cnt,.int .i64 aN,.int .i64 pk,.slice a5 n5 c5] 49)).alloc (.cells #[.int .i64 0,.int .i64 0,.slice none 0 0,.int .i64 0,.bool false,.slice none 0 0] 58)=wA):=zH hwA.symm;have qh:=zH hb4;have uO:=zH hb3;have HO:=zH ho;have x1:=bT.cell (i:=1) rfl;have x2:=bT.cell (i:=2) rfl;have c1:=(qY.out.cells).2.1;have hn1:=ho.ok.v.1;have hn2:=ho.ok.v.2.1;obtain⟨n,hn⟩:∃n:Int,n=(D.n:Nat):=⟨_,rfl⟩;rw[<-hn]at hbad c1 hn1 hn2;have hws:1<=cnt->cnt<=n->wrap64 (n - cnt)=n - cnt:=fun h1 h2=>by unfold wrap64; omega
 clear hwA hb3 hb4 hA1 hA bT hbx h hc ho hi1 hi2 hn;unfold dR;go_enter func76,ntmps76;go_upto_region 1 with (fail)
 rw[wE.out,<-qh.out,<-uO.out];by_cases g1:aj<0
 ·have d1:decide (aj<0)=true:=zt g1;go_quiet (fail);have hdn:=Below.drewN (zB wA.heap.size wA) nq;have NV:=zH (qY.out.below hdn);have Q5:=zH (yc.out.trans (Ch.of (X:=DX p vc EX Xm) (R:=DR vt Rm) hdn));have HXq:=zH (ny.out.call hdn);generalize wA.drewN nq=wq at *;clear hdn x1 x2 c1;have jO:=zH (fU 4 0 wq);unfold dL Rp.sense at jO;go_wp2_with fail;refine jO.out.mono ?_;rintro e w7 ⟨rfl,hb7⟩;have HD7:=zH (NV.out.below hb7);have kF:=zH (Q5.out.trans (Ch.of (X:=DX p vc EX Xm) (R:=DR vt Rm) hb7));have hx7:=HXq.out.call hb7;unfold aO at hx7;have t0:=hx7.cell (i:=0) rfl;have t1:=hx7.cell (i:=1) rfl;have t2:=hx7.cell (i:=2) rfl;have t3:=hx7.cell (i:=3) rfl;have t4:=hx7.cell (i:=4) rfl;have t5:=hx7.cell (i:=5) rfl;have tf:=fun i=>hx7.free i
  clear hx7 hb7;go_wp2_with fail;exact zr (v:=dL (Rp.sense 4 0) (.slice none 0 0) (.slice none 0 0)) (by simp[results,results76,go_sem,dL,Rp.sense,t0,t1,t2,t3,t4,t5]) rfl ⟨vt,vc,Xm,Rm,rfl,dG HD7.out HB4.out.2.1 _ _ _ _ _ _,fB kF.out HB4.out.2.2 _ _ _ _ _ _,HO.out.ok.md⟩
 ·have d1:decide (aj<0)=false:=zf g1;by_cases g2:cnt<1
  ·have d2:decide (cnt<1)=true:=zt g2;go_quiet (fail);have hdn:=Below.drewN (zB wA.heap.size wA) nq;have NV:=zH (qY.out.below hdn);have Q5:=zH (yc.out.trans (Ch.of (X:=DX p vc EX Xm) (R:=DR vt Rm) hdn));have HXq:=zH (ny.out.call hdn);generalize wA.drewN nq=wq at *;clear hdn x1 x2 c1;have jO:=zH (fU 4 0 wq);unfold dL Rp.sense at jO;go_wp2_with fail;refine jO.out.mono ?_;rintro e w7 ⟨rfl,hb7⟩;have HD7:=zH (NV.out.below hb7);have kF:=zH (Q5.out.trans (Ch.of (X:=DX p vc EX Xm) (R:=DR vt Rm) hb7));have hx7:=HXq.out.call hb7;unfold aO at hx7;have t0:=hx7.cell (i:=0) rfl;have t1:=hx7.cell (i:=1) rfl;have t2:=hx7.cell (i:=2) rfl;have t3:=hx7.cell (i:=3) rfl;have t4:=hx7.cell (i:=4) rfl;have t5:=hx7.cell (i:=5) rfl;have tf:=fun i=>hx7.free i
   clear hx7 hb7;go_wp2_with fail;exact zr (v:=dL (Rp.sense 4 0) (.slice none 0 0) (.slice none 0 0)) (by simp[results,results76,go_sem,dL,Rp.sense,t0,t1,t2,t3,t4,t5]) rfl ⟨vt,vc,Xm,Rm,rfl,dG HD7.out HB4.out.2.1 _ _ _ _ _ _,fB kF.out HB4.out.2.2 _ _ _ _ _ _,HO.out.ok.md⟩
  ·have d2:decide (cnt<1)=false:=zf g2;by_cases g3:n<cnt
   ·have d3:decide (n<cnt)=true:=zt g3;go_quiet (fail);have hdn:=Below.drewN (zB wA.heap.size wA) nq;have NV:=zH (qY.out.below hdn);have Q5:=zH (yc.out.trans (Ch.of (X:=DX p vc EX Xm) (R:=DR vt Rm) hdn));have HXq:=zH (ny.out.call hdn);generalize wA.drewN nq=wq at *;clear hdn x1 x2 c1;have jO:=zH (fU 4 0 wq);unfold dL Rp.sense at jO;go_wp2_with fail;refine jO.out.mono ?_;rintro e w7 ⟨rfl,hb7⟩;have HD7:=zH (NV.out.below hb7);have kF:=zH (Q5.out.trans (Ch.of (X:=DX p vc EX Xm) (R:=DR vt Rm) hb7));have hx7:=HXq.out.call hb7;unfold aO at hx7;have t0:=hx7.cell (i:=0) rfl;have t1:=hx7.cell (i:=1) rfl;have t2:=hx7.cell (i:=2) rfl;have t3:=hx7.cell (i:=3) rfl;have t4:=hx7.cell (i:=4) rfl;have t5:=hx7.cell (i:=5) rfl;have tf:=fun i=>hx7.free i
    clear hx7 hb7;go_wp2_with fail;exact zr (v:=dL (Rp.sense 4 0) (.slice none 0 0) (.slice none 0 0)) (by simp[results,results76,go_sem,dL,Rp.sense,t0,t1,t2,t3,t4,t5]) rfl ⟨vt,vc,Xm,Rm,rfl,dG HD7.out HB4.out.2.1 _ _ _ _ _ _,fB kF.out HB4.out.2.2 _ _ _ _ _ _,HO.out.ok.md⟩
   ·have d3:decide (n<cnt)=false:=zf g3;have g4:n - cnt<aj:=by omega
    have hw:=hws (by omega) (by omega);have d4:decide (n - cnt<aj)=true:=zt g4;go_quiet (fail);have hdn:=Below.drewN (zB wA.heap.size wA) nq;have NV:=zH (qY.out.below hdn);have Q5:=zH (yc.out.trans (Ch.of (X:=DX p vc EX Xm) (R:=DR vt Rm) hdn));have HXq:=zH (ny.out.call hdn);generalize wA.drewN nq=wq at *;clear hdn x1 x2 c1;have jO:=zH (fU 4 0 wq);unfold dL Rp.sense at jO;go_wp2_with fail;refine jO.out.mono ?_;rintro e w7 ⟨rfl,hb7⟩;have HD7:=zH (NV.out.below hb7);have kF:=zH (Q5.out.trans (Ch.of (X:=DX p vc EX Xm) (R:=DR vt Rm) hb7));have hx7:=HXq.out.call hb7;unfold aO at hx7;have t0:=hx7.cell (i:=0) rfl;have t1:=hx7.cell (i:=1) rfl;have t2:=hx7.cell (i:=2) rfl;have t3:=hx7.cell (i:=3) rfl;have t4:=hx7.cell (i:=4) rfl;have t5:=hx7.cell (i:=5) rfl;have tf:=fun i=>hx7.free i
    clear hx7 hb7;go_wp2_with fail;exact zr (v:=dL (Rp.sense 4 0) (.slice none 0 0) (.slice none 0 0)) (by simp[results,results76,go_sem,dL,Rp.sense,t0,t1,t2,t3,t4,t5]) rfl ⟨vt,vc,Xm,Rm,rfl,dG HD7.out HB4.out.2.1 _ _ _ _ _ _,fB kF.out HB4.out.2.2 _ _ _ _ _ _,HO.out.ok.md⟩
theorem I8(a:Int)(l:List (Int×List UInt8)){j:Nat}(h:j<l.length):Be a (l.take (j+1))=if (bF Ai l j).1=a then some (bF Ai l j).2 else Be a (l.take j):=by unfold Be;rw[List.take_succ_eq_append_getElem h,List.foldl_append];simp[bF,h]
theorem Qj{s:List UInt8}(h:s = []):str s=⟨#[]⟩:=by rw[h]; rfl
theorem wV{s:List UInt8}(h:s≠[]):¬ str s=⟨#[]⟩:=fun e=>h (by have:=congrArg (fun b:ByteArray=>b.data.toList) e; simpa[str]using this)
theorem U4{s:List UInt8}(h:s = [33]):str s=⟨#[33]⟩:=by rw[h]; rfl
theorem KU{s:List UInt8}(h:s≠[33]):¬ str s=⟨#[33]⟩:=fun e=>h (by have:=congrArg (fun b:ByteArray=>b.data.toList) e; simpa[str]using this)
theorem kL(r:List UInt8):(str r).toList=r:=ByteArray.toList_eq (str r)
theorem TL{r:List UInt8}(h:r≠[]):(str r).toList.isEmpty=false:=by rw[kL]; cases r with
 | nil=>exact absurd rfl h
 | cons a b=>rfl
theorem Zn{r:List UInt8}(h:r = []):(str r).toList.isEmpty=true:=by rw[kL,h]; rfl
theorem aaD{r:List UInt8}(h:r≠[33]):((str r).toList == [33])=false:=by rw[kL]; exact beq_eq_false_iff_ne.2 h
theorem aaE{r:List UInt8}(h:r = [33]):((str r).toList == [33])=true:=by rw[kL,h]; rfl
theorem wrs{lb i m:Nat}{n:Int}(hi:i<m)(h:(lb:Int)<=n - (m:Nat))(hn:n<=449849):wrap64 ((lb:Int)+(i:Int))=((lb+i:Nat):Int):=by unfold wrap64; omega
theorem Yd{w w0:World}{p pm N:Nat}{D:PD}{vt vc:Value}{E:World->Prop}{EX Xm Rm X0 R0:Nat->Prop}(h:fH w p D pm none vt vc E EX Xm Rm)(hc:Ch X0 R0 (DX p vc EX Xm) (DR vt Rm) w0 w)(ho:gY D N)
 (k aj cnt aN pk:Int)(hi1:i64 aj)(hi2:i64 cnt)(a5:Option Addr)(n5 c5:Nat)(lb m:Nat)(hl:aj=(lb:Nat))(hm:cnt=(m:Nat))(h1:1<=m)(h2:(m:Int)<=(D.n:Nat))(h3:(lb:Int)<=(D.n:Int) - (m:Nat))
 (hblk:∀W,Below w.heap.size w W->∀a:Nat,a<D.n->Calls prog 31 #[.pointer (some ⟨p,0,none⟩),.int .i64 (a:Nat)] W fun e w'=>e=.returned (.string (str (lW D.M a)))/\Below W.heap.size W w'):
 Calls prog 76 #[.pointer (some ⟨p,0,none⟩),dR k aj cnt aN pk (.slice a5 n5 c5)] w (CG w0 X0 R0 p pm none E EX N (KC D aj 0 m []) D):=by
 obtain⟨a9,k9,QP⟩:=bu h.ca;subst QP;obtain⟨wA,hwA⟩:∃w1,w1=(w.alloc (.cells #[.int .i64 k,.int .i64 aj,.int .i64 cnt,.int .i64 aN,.int .i64 pk,.slice a5 n5 c5] 49)).alloc (.cells aO.toArray 58):=⟨_,rfl⟩;obtain⟨b3,hb3⟩:∃b,b=w.heap.size:=⟨_,rfl⟩;obtain⟨b4,hb4⟩:∃b,b=w.heap.size+1:=⟨_,rfl⟩;have hA1:=(zB w.heap.size w).alloc (zl _) (.cells #[.int .i64 k,.int .i64 aj,.int .i64 cnt,.int .i64 aN,.int .i64 pk,.slice a5 n5 c5] 49);have hA:=hA1.alloc hA1.size (.cells aO.toArray 58);have bT:Bx ((w.alloc (.cells #[.int .i64 k,.int .i64 aj,.int .i64 cnt,.int .i64 aN,.int .i64 pk,.slice a5 n5 c5] 49)).alloc (.cells aO.toArray 58)) w.heap.size 49 [.int .i64 k,.int .i64 aj,.int .i64 cnt,.int .i64 aN,.int .i64 pk,.slice a5 n5 c5]:=(Bx.new w 49 [.int .i64 k,.int .i64 aj,.int .i64 cnt,.int .i64 aN,.int .i64 pk,.slice a5 n5 c5]).alloc _;have hbx:=Bx.new (w.alloc (.cells #[.int .i64 k,.int .i64 aj,.int .i64 cnt,.int .i64 aN,.int .i64 pk,.slice a5 n5 c5] 49)) 58 aO;rw[<-hwA]at hA hbx bT;rw[World.size_alloc,<-hb4]at hbx;rw[<-hb3]at bT;have yc:=zH (hc.trans (Ch.of hA));have qY:=zH (h.below hA);have ny:=zH hbx;have CP:=zH bT;have HB4:Hid (b4<wA.heap.size/\(∀b,DX p (.slice a9 D.ca.length k9) EX Xm b\/DR vt Rm b->b≠b4)/\w0.heap.size<=b4):=zH ⟨hbx.lt,fun b hb=>by have:=h.lo b hb; omega,by have:=hc.size; omega⟩;have wE:Hid ((w.alloc (.cells #[.int .i64 k,.int .i64 aj,.int .i64 cnt,.int .i64 aN,.int .i64 pk,.slice a5 n5 c5] 49)).alloc (.cells #[.int .i64 0,.int .i64 0,.slice none 0 0,.int .i64 0,.bool false,.slice none 0 0] 58)=wA):=zH hwA.symm;have qh:=zH hb4;have uO:=zH hb3;have HO:=zH ho;have x1:=bT.cell (i:=1) rfl;have x2:=bT.cell (i:=2) rfl;have c1:=(qY.out.cells).2.1;have HBK:Hid (∀W,Below wA.heap.size wA W->∀a:Nat,a<D.n->Calls prog 31 #[.pointer (some ⟨p,0,none⟩),.int .i64 (a:Nat)] W fun e w'=>e=.returned (.string (str (lW D.M a)))/\Below W.heap.size W w'):=zH fun W hW=>hblk W (hA.trans (hW.mono hA.size))
 have hn2:=ho.ok.v.2.1;obtain⟨nc,hnc⟩:∃n,n=D.ca.length:=⟨_,rfl⟩;have ZY:=zH hnc;have afH:nc<=64:=by rw[hnc]; exact ho.ok.n64
 have c9:=(qY.out.cells).2.2.2.2.2.2.2.2.2;rw[<-hnc]at c9;obtain⟨n,hn⟩:∃n:Int,n=(D.n:Nat):=⟨_,rfl⟩;have vZ:=zH hn;rw[<-hn]at c1 hn2 h2 h3;have hws:wrap64 (n - (m:Nat))=n - (m:Nat):=by unfold wrap64; omega
 have d1:decide (((lb:Nat):Int)<0)=false:=zf (by omega);have d2:decide (((m:Nat):Int)<1)=false:=zf (by omega);have d3:decide (n<((m:Nat):Int))=false:=zf (by omega);have d4:decide (n - ((m:Nat):Int)<((lb:Nat):Int))=false:=zf (by omega);have HW3:=zH (And.intro h3 hn2);obtain⟨Z,hZ⟩:∃Z,Z=KC D aj 0 m []:=⟨_,rfl⟩;rw[<-hZ];have HZ:=zH hZ;subst hl hm;clear hwA hb3 hb4 hA1 hA bT hbx h hc ho hi1 hi2 hblk hnc hn h1 h2 h3 hn2 hZ;unfold dR;go_enter func76,ntmps76;go_upto_region 1 with (fail)
 rw[wE.out,<-qh.out,<-uO.out];go_quiet (fail);have hdn:=Below.drewN (zB wA.heap.size wA) nq;have NV:=zH (qY.out.below hdn);have Q5:=zH (yc.out.trans (Ch.of (X:=DX p (.slice a9 D.ca.length k9) EX Xm) (R:=DR vt Rm) hdn));have aad:=zH (ny.out.call hdn);have acw:=zH (CP.out.call hdn);have HSQ:Hid (b4<(wA.drewN nq).heap.size/\w0.heap.size<=(wA.drewN nq).heap.size):=zH ⟨aad.out.lt,Q5.out.size⟩;have HBQ:Hid (∀W,Below (wA.drewN nq).heap.size (wA.drewN nq) W->∀a:Nat,a<D.n->Calls prog 31 #[.pointer (some ⟨p,0,none⟩),.int .i64 (a:Nat)] W fun e w'=>e=.returned (.string (str (lW D.M a)))/\Below W.heap.size W w'):=zH fun W hW=>HBK.out W (hdn.trans (hW.mono hdn.size))
 generalize wA.drewN nq=wq at *;have x2:=acw.out.cell (i:=2) rfl;clear hdn x1 c1 c9 d1 d2 d3 d4 hws HBK CP qY yc ny;go_wp2_with fail;clear x2
 go_loopw [44,5] (fun vi v5 wr=>∃(i:Nat)(O:List (List UInt8)),i<=m/\vi=.int .i64 i/\O.length=i/\Hid (Z=KC D (lb:Nat) i (m - i) O)/\Hid (wr.ownsRow wq.heap.size 9 1 v5 O.length (fK wU O))/\Hid (Below wq.heap.size wq wr)) (fun vi _ _=>m - (RowKit.intOf vi).toNat)
 case atStart=>exact⟨0,[],by omega,rfl,rfl,zH HZ.out,zH ⟨rfl,.inl ⟨rfl,rfl⟩⟩,zH (zB _ _)⟩
 case round=>
  obtain⟨i,O,hi,rfl,hOl,HK,HOW,HB⟩:=hrel;by_cases hlt:i<m
  ·have hwl:=wrs hlt HW3.out.1 HW3.out.2;obtain⟨a,haa⟩:∃a,a=lb+i:=⟨_,rfl⟩;rw[<-haa]at hwl;have HAA:=zH haa;have hdr:=NV.out.below HB.out;have hx3:=acw.out.call HB.out;have x1:=hx3.cell (i:=1) rfl;have c9:=(hdr.cells).2.2.2.2.2.2.2.2.2;rw[<-ZY.out]at c9;have A7:=zH hlt;have HOL:=zH hOl;clear hdr hx3 haa hi hOl;go_upto_region 9 with (fail)
   rw[hwl];clear hlt;go_wp2_with fail;clear x1 c9 hwl
   go_loopw [56,8,9] (fun vj v8 v9 w2=>∃(j:Nat)(s:List UInt8)(c:Bool),j<=nc/\vj=.int .i64 j/\v8=.string (str s)/\v9=.bool c/\Hid (Be (a:Nat) (D.ca.take j)=if c=true then some s else none)/\Hid (w2.ownsRow wq.heap.size 9 1 u5 O.length (fK wU O))/\Hid (Below wq.heap.size wq w2)) (fun vj _ _ _=>nc - (RowKit.intOf vj).toNat)
   case atStart=>exact⟨0,[],false,by omega,rfl,rfl,rfl,zH rfl,HOW,HB⟩
   case round=>
    obtain⟨j,s,c,hj,rfl,rfl,rfl,QE,Z5,HB2⟩:=hrel;by_cases hjl:j<nc
    ·have Xl:j<D.ca.length:=by rw[<-ZY.out]; exact hjl
     obtain⟨bo,off,kc⟩:=dX.at (dX.bM (d:=Ai) qx (NV.out.below HB2.out).ca);obtain⟨ha9,hrg⟩:=kc j Xl;have hix:=fun w'=>aH (P:=prog) underlying99 (by kernel_rfl:(prog.info? 131).map (·.size)=some 2) (cap:=k9) ha9 Xl (j:Int) rfl w'
     rw[<-ZY.out]at hix;have HT:=zH (I8 (a:Nat) D.ca Xl);obtain⟨x,hx⟩:∃x,x=bF Ai D.ca j:=⟨_,rfl⟩;rw[<-hx]at hrg HT;have y0:wr.cell? ⟨bo,off+j * 2,none⟩=some (.int .i64 x.1):=hrg 0 _ rfl;have y1:wr.cell? ⟨bo,off+j * 2+1,none⟩=some (.string (str x.2)):=hrg 1 _ rfl;obtain⟨xl,xd⟩:=x;dsimp only at y0 y1 HT;have hA:=(zB wr.heap.size wr).alloc (zl _) (.cells #[.int .i64 xl,.string (str xd)] 131);have hbn:Bx (wr.alloc (.cells #[.int .i64 xl,.string (str xd)] 131)) wr.heap.size 131 [.int .i64 xl,.string (str xd)]:=Bx.new wr _ _;have IL:=zH (bz Z5.out hA);have HB3:=zH (HB2.out.trans (hA.mono HB2.out.size));have HW:Hid (∃w3,w3=wr.alloc (.cells #[.int .i64 xl,.string (str xd)] 131)):=zH ⟨_,rfl⟩;obtain⟨w3,hw3⟩:=HW.out;obtain⟨bn,aaU⟩:∃b,b=wr.heap.size:=⟨_,rfl⟩;rw[<-hw3]at hbn IL HB3;rw[<-aaU]at hbn;have aeF:=zH hw3.symm;have HBN:=zH aaU;have z0:=hbn.cell (i:=0) rfl;have z1:=hbn.cell (i:=1) rfl;have HJ:=zH hjl;clear kc hrg ha9 Xl hx hA hbn hw3 aaU hjl hj;go_upto_region 12 with (fail)
     rw[aeF.out,<-HBN.out];clear y0 y1 hix;have hj:=HJ.out;by_cases he:xl=(a:Nat)
     ·have hed:decide (xl=((a:Nat):Int))=true:=zt he;have heq:(xl == ((a:Nat):Int))=true:=beq_iff_eq.2 he;have HN:=zH (HT.out.trans (zj he));clear he;go_wp2_with fail;go_roundw;case rel=>exact⟨j+1,xd,true,by omega,by go_num,rfl,rfl,zH HN.out,IL,HB3⟩
      case measure=>simp[RowKit.intOf]; omega
     ·have hed:decide (xl=((a:Nat):Int))=false:=zf he;have heq:(xl == ((a:Nat):Int))=false:=beq_eq_false_iff_ne.2 he;have HN:=zH (HT.out.trans (zi he));clear he;go_wp2_with fail;go_roundw;case rel=>exact⟨j+1,s,c,by omega,by go_num,rfl,rfl,zH (HN.out.trans QE.out),IL,HB3⟩
      case measure=>simp[RowKit.intOf]; omega
    ·obtain rfl:j=nc:=by omega
     have HCA:Hid (Be (a:Nat) D.ca=if c=true then some s else none):=zH (by have:=QE.out; rwa[ZY.out,List.take_of_length_le (zl _)]at this);have hal:a<D.n:=by have:=HAA.out; have:=A7.out; have:=HW3.out.1; have:=vZ.out; omega
     have HBL:=zH (HBQ.out wr HB2.out a hal);have YU:Hid (rdB D ((a:Nat):Int)=if c=true then s else lW D.M a):=zH (by
      unfold rdB;rw[HCA.out];cases c with
      | true=>rfl
      | false=>rfl)
     obtain⟨r,hr⟩:∃r,r=rdB D ((a:Nat):Int):=⟨_,rfl⟩;rw[<-hr]at YU;have HRE:=zH hr;clear hal hj hjl hr
     go_upto_if 68 with (fail)
     go_cut [8] from 68 to 71 (fun v8 wx=>v8=.string (str r)/\Hid (wx.ownsRow wq.heap.size 9 1 u5 O.length (fK wU O))/\Hid (Below wq.heap.size wq wx))
     case first=>
      cases c with
      | true=>
        have e:r=s:=YU.out;go_wp2_with fail;go_meet;exact⟨by rw[e],Z5,HB2⟩
      | false=>
        have e:r=lW D.M a:=YU.out;go_wp2_with fail;refine HBL.out.mono ?_;rintro e w3 ⟨rfl,hb3⟩;have IL:=zH (bz Z5.out hb3);have HB3:=zH (HB2.out.trans (hb3.mono HB2.out.size));clear hb3;go_wp2_with fail;go_meet;exact⟨by rw[e],IL,HB3⟩
     case rest=>
      obtain⟨rfl,IL,HB3⟩:=hcut;obtain⟨wx,rfl⟩:∃w,w=wc:=⟨_,rfl⟩;have HKU:Hid (Z=if r = [] then Rp.sense 6 (a:Nat) else if r = [33] then Rp.sense 2 (a:Nat) else KC D (lb:Nat) (i+1) (m - (i+1)) (O++[r])):=zH (by
       rw[HK.out,show m - i=(m - (i+1))+1 by have:=A7.out; omega];have ea:((lb:Nat):Int)+((i:Nat):Int)=((a:Nat):Int):=by rw[HAA.out]; omega
       show(if rdB D (((lb:Nat):Int)+((i:Nat):Int)) = [] then _ else _)=_;rw[ea,<-HRE.out])
      have HDr:=zH (NV.out.below HB3.out);have HTr:=zH (Q5.out.trans (Ch.of (X:=DX p (.slice a9 D.ca.length k9) EX Xm) (R:=DR vt Rm) HB3.out));have acz:=zH (aad.out.call HB3.out);by_cases hb:r = []
      ·have hs:=Qj hb;have hz:=HKU.out;rw[zj hb]at hz;have HZZ:=zH hz;have q1:=Zn hb;clear hz hb hs;have jO:=zH (fU 6 (a:Nat) wx);unfold dL Rp.sense at jO;go_wp2_with fail;refine jO.out.mono ?_;rintro e w7 ⟨rfl,hb7⟩;have HD7:=zH (HDr.out.below hb7);have kF:=zH (HTr.out.trans (Ch.of (X:=DX p (.slice a9 D.ca.length k9) EX Xm) (R:=DR vt Rm) hb7));have hx7:=acz.out.call hb7;unfold aO at hx7;have t0:=hx7.cell (i:=0) rfl;have t1:=hx7.cell (i:=1) rfl;have t2:=hx7.cell (i:=2) rfl;have t3:=hx7.cell (i:=3) rfl;have t4:=hx7.cell (i:=4) rfl;have t5:=hx7.cell (i:=5) rfl;have tf:=fun i=>hx7.free i
       clear hx7 hb7;go_wp2_with fail;obtain rfl:=HZZ.out;exact zr (v:=dL (Rp.sense 6 (a:Nat)) (.slice none 0 0) (.slice none 0 0)) (by simp[results,results76,go_sem,dL,Rp.sense,t0,t1,t2,t3,t4,t5]) rfl (oK.QR ⟨vt,_,Xm,Rm,rfl,dG HD7.out HB4.out.2.1 _ _ _ _ _ _,fB kF.out HB4.out.2.2 _ _ _ _ _ _,HO.out.ok.md⟩ rfl rfl)
      ·by_cases hd:r = [33]
       ·have hs:=U4 hd;have hs2:=wV hb;have hz:=HKU.out;rw[zi hb,zj hd]at hz;have HZZ:=zH hz;have q1:=TL hb;have q2:=aaE hd;clear hz hb hd hs hs2;have jO:=zH (fU 2 (a:Nat) wx);unfold dL Rp.sense at jO;go_wp2_with fail;refine jO.out.mono ?_;rintro e w7 ⟨rfl,hb7⟩;have HD7:=zH (HDr.out.below hb7);have kF:=zH (HTr.out.trans (Ch.of (X:=DX p (.slice a9 D.ca.length k9) EX Xm) (R:=DR vt Rm) hb7));have hx7:=acz.out.call hb7;unfold aO at hx7;have t0:=hx7.cell (i:=0) rfl;have t1:=hx7.cell (i:=1) rfl;have t2:=hx7.cell (i:=2) rfl;have t3:=hx7.cell (i:=3) rfl;have t4:=hx7.cell (i:=4) rfl;have t5:=hx7.cell (i:=5) rfl;have tf:=fun i=>hx7.free i
        clear hx7 hb7;go_wp2_with fail;obtain rfl:=HZZ.out;exact zr (v:=dL (Rp.sense 2 (a:Nat)) (.slice none 0 0) (.slice none 0 0)) (by simp[results,results76,go_sem,dL,Rp.sense,t0,t1,t2,t3,t4,t5]) rfl (oK.QR ⟨vt,_,Xm,Rm,rfl,dG HD7.out HB4.out.2.1 _ _ _ _ _ _,fB kF.out HB4.out.2.2 _ _ _ _ _ _,HO.out.ok.md⟩ rfl rfl)
       ·have hs:=KU hd;have hs2:=wV hb;have hz:=HKU.out;rw[zi hb,zi hd]at hz;have HZZ:=zH hz;have q1:=TL hb;have q2:=aaD hd;clear hs hs2;have hal:=(zB wx.heap.size wx).alloc (zl _) (.cells #[.string (str r)] 9);have hoa:=bz IL.out hal;have HBA:=zH (HB3.out.trans (hal.mono HB3.out.size));have aaS:wq.heap.size<=(wx.alloc (.cells #[.string (str r)] 9)).heap.size:=HBA.out.size;obtain⟨va,afM,hv5⟩:=bu hoa;subst hv5;have hm4:m<=449849:=by have:=HW3.out; omega
        have hlt:=A7.out;have hOm:O.length<=1000000:=by have:=HOL.out; have:=A7.out; have:=HW3.out; omega
        clear hz hb hd hal;go_wp2_with (at_builtin; refine Lj rfl _ _ rfl underlying45 infoStr9 rfl hoa rfl (g:=wx.heap.size) (y:=.string (str r)) rfl (by simp) rfl (by unfold maxLen; omega) (by omega) aaS ?_; intro v8 w8 rC ac9 afb; obtain⟨a8,c8,rfl⟩:=bu rC; have CJ:=zH (HBA.out.grown ac9 aaS (fun q hq=>dP hoa q hq)); clear hoa aaS ac9 afb);have HO8:Hid (w8.ownsRow wq.heap.size 9 1 (.slice a8 (O.length+1) c8) (O++[r]).length (fK wU (O++[r]))):=zH (by rw[Qg,List.length_append]; exact rC);clear rC;go_roundw;case rel=>exact⟨i+1,O++[r],by omega,by go_num,by rw[List.length_append,HOL.out]; rfl,HZZ,HO8,CJ⟩
        case measure=>simp[RowKit.intOf]; omega
  ·obtain rfl:i=m:=by omega
   obtain⟨a8,c8,rfl⟩:=bu HOW.out;have hz:=HK.out;rw[Nat.sub_self]at hz;clear hOl hlt hi;have HZZ:Hid (Z=⟨0,0,O,0,false,[]⟩):=zH hz;have HDr:=zH (NV.out.below HB.out);have HTr:=zH (Q5.out.trans (Ch.of (X:=DX p (.slice a9 D.ca.length k9) EX Xm) (R:=DR vt Rm) HB.out));have hx7:=aad.out.call HB.out;have QF:Hid (∀k,(Value.slice a8 O.length c8).ownBlock=some k->wq.heap.size<=k):=zH fun k hk=>dP HOW.out k hk
   unfold aO at hx7;have t0:=hx7.cell (i:=0) rfl;have t1:=hx7.cell (i:=1) rfl;have t2:=hx7.cell (i:=2) rfl;have t3:=hx7.cell (i:=3) rfl;have t4:=hx7.cell (i:=4) rfl;have t5:=hx7.cell (i:=5) rfl;have tf:=fun i=>hx7.free i
   clear hx7 hz;go_wp2_with fail;obtain rfl:=HZZ.out;refine zr (v:=dL ⟨0,0,O,0,false,[]⟩ (.slice a8 O.length c8) (.slice none 0 0)) (by simp[results,results76,go_sem,dL,t0,t1,t2,t3,t4,t5]) rfl ⟨_,vt,_,Xm,Rm,rfl,⟨_,_,rfl,?_,aW.nil _,fun k hk=>⟨zT HSQ.out.2 (QF.out k hk),fun hx=>?_⟩,fun k hk=>(by cases hk)⟩,dG HDr.out HB4.out.2.1 _ _ _ _ _ _,fB HTr.out HB4.out.2.2 _ _ _ _ _ _,HO.out.ok.md⟩
   ·exact qJ (dX.bM qM HOW.out) fun k hk=>kE _ _ k _ _ _ _ _ _ (by have:=QF.out k hk; have:=HSQ.out.1; omega)
   ·have:=QF.out k hk; have:=NV.out.lo k (.inl hx); omega
structure abS (M:aP) (at_:Nat) (aj:Int) (d:List UInt8):Prop where
 lt:at_<M.n
 dl:d.length=2048
 h0:-150<=aj
 h1:aj<=449849
 st:(M.sec at_).st=1
 raw:(M.sec at_).raw=rec aj d
 ch:∀k,k<2352->(M.sec at_).ch k=0
 go:M.gone at_ = []
theorem inv_eq{c R:List UInt8}(hc:c.length=2352)(h:W8.Inv c R []):R=c:=by
 apply G.Dp (by rw[h.len]; exact hc.symm);intro i hi;rcases Decidable.em (G.ix R i=G.ix c i) with e | e
 ·exact e
 ·have:=h.diff i (by rw[h.len]at hi; exact hi) e;cases this
theorem Ob{p pm at_ N:Nat}{aj:Int}{d:List UInt8}{w:World}{M:aP}{X R:Nat->Prop}(hm:gZ w pm M X R)(ho:M.Ok N)(hc:w.cell? ⟨p,2,none⟩=some (.pointer (some ⟨pm,0,none⟩)))
 (hP:Calls prog 43 #[.pointer (some ⟨p,0,none⟩),.int .i64 aj] w fun e w'=>e=.returned (.int .i64 (at_:Nat))/\Below w.heap.size w w')(hb:abS M at_ aj d):
 Calls prog 31 #[.pointer (some ⟨p,0,none⟩),.int .i64 aj] w fun e w'=>e=.returned (.string (str d))/\Below w.heap.size w w':=by
 obtain⟨hlt,hd,h0,h1,hst,hraw,hch,hgo⟩:=hb;have hn:=ho.n.2;have hpl2:p<w.heap.size:=zc w _ hc;have EI:M.eu (at_:Nat)=(1,0):=by unfold aP.eu; rw[zj (by omega),Int.toNat_natCast,hst]; rfl
 have hrr:M.BK (at_:Nat)=(M.out at_,M.gone at_,0):=by unfold aP.BK; rw[zj (by omega),Int.toNat_natCast,hst]; rfl
 have HST:Hid (∀W,Below w.heap.size w W->Calls prog 68 #[.pointer (some ⟨pm,0,none⟩),.int .i64 (at_:Nat)] W fun e w'=>e=.returned (.tuple #[.int .i64 1,.int .i64 0])/\Below W.heap.size W w'):=zH fun W hW=>by have:=xR (hm.below hW) hn (at_:Nat);rw[EI]at this;exact this
 have HRD:Hid (∀W,Below w.heap.size w W->Calls prog 50 #[.pointer (some ⟨pm,0,none⟩),.int .i64 (at_:Nat)] W (oM (M.out at_,M.gone at_,0) W)):=zH fun W hW=>by have:=UA (hm.below hW) ho (at_:Nat);rw[hrr]at this;exact this
 have QE:Hid (∀W,Below w.heap.size w W->Calls prog 73 #[.pointer (some ⟨pm,0,none⟩),.int .i64 (at_:Nat)] W (lU (decide (M.gone at_ = [])) W)):=zH fun W hW=>by
  have:=WE (hm.below hW) ho (at_:Nat);have e:M.kQ (at_:Nat)=decide (M.gone at_ = []):=by
   by_cases hg:M.gone at_ = []
   ·rw[zt hg];exact oU ⟨by omega,by rw[Int.toNat_natCast]; exact⟨hst,hg,hch⟩⟩
   ·rw[zf hg];refine iY fun h=>hg ?_
    have:=h.2.2.1;rwa[Int.toNat_natCast]at this
  rw[e]at this;exact this
 have HSC:=zH (fun W=>uz (M.out at_) (nP M at_) W);have HBU:Hid (∀W,Calls prog 70 #[.agg #[.int .i64 0,.int .i64 0,.int .i64 0,.int .i64 0,.int .i64 0,.int .i64 0,.string (str zD)]] W fun e w'=>e=.returned (.tuple #[.string (str (E8 0 zD)),.int .i64 0])/\Below W.heap.size W w'):=zH fun W=>LM 0 zD W (by decide) (by decide) EE
 have Iu:=zH (fun W=>zW (P:=prog) underlying9 (E8 0 zD) 12 (by rw[qp 0 EE]; decide) 12 rfl W);have h12:(E8 0 zD).take 12=lS:=by have:=(Good.sync (s:=E8 0 zD) ⟨qp 0 EE,EE,by decide,by decide,rfl⟩);exact this
 rw[h12]at Iu;have hinv:=Us (aj:=aj) h0 h1 hd hraw hch;have aeb:Hid (str (zx M at_)=str (par aj d)):=zH (by
  have e:inn (M.gone at_) = []:=by rw[hgo]; rfl
  rw[e]at hinv;rw[inv_eq (xM aj hd) hinv])
 have HPA:=zH (fun W=>XT (zk h0 h1 hd) W);unfold Hw at HPA;have hol:=nP M at_;have HPB:Hid (zx M at_=VP (zG (oG (M.out at_)) (M.gone at_)) 0 lS):=zH rfl;have HGL:Hid (∀x ∈ M.gone at_,0<=x/\x<2352):=zH (xG M at_);have HGN:Hid ((M.gone at_).length<=2352):=zH (by unfold aP.gone; rw[List.length_map]; exact zT (List.length_filter_le _ _) (by simp));have HIN:Hid (inn (M.gone at_)=gV (fun x=>decide (12<=x)) (M.gone at_)):=zH rfl;have HSL:Hid ((oG (M.out at_)).length=2352):=zH (uy _);clear hinv hol hm ho EI hrr hraw hch hst h12 hd;generalize str (par aj d)=PS at *;generalize str (E8 0 zD)=BS at *;obtain⟨Z,hZ⟩:∃Z:List UInt8,Z=List.replicate 2048 0:=⟨_,rfl⟩;have HZ:Hid (Z=zD):=zH hZ;have HZ2:=zH hZ;rw[<-HZ.out]at HBU;clear hZ;generalize zx M at_=PbV at *;generalize hGG:M.gone at_=GL at *;have HGE:Hid (GL = []):=zH hgo;generalize str d=DS at *;generalize hOO:oG (M.out at_)=SL at *;generalize M.out at_=OL at *;generalize inn GL=IG at *;clear hGG hOO hlt hn hgo;have IP:=zH hP;have HC2:=zH hc;have VF:=zH hpl2;clear hP hc hpl2;go_enter func31,ntmps31;go_wp2_with fail;refine IP.out.mono ?_;rintro e w1 ⟨rfl,hb1⟩;have HB1:=zH hb1;have hc1:=(hb1.cell (p:=⟨p,2,none⟩) VF.out).trans HC2.out;have EH:=zH (HST.out w1 hb1);clear hb1;go_wp2_with fail;refine EH.out.mono ?_;rintro e w2 ⟨rfl,hb2⟩;have hb2:=HB1.out.trans (hb2.mono HB1.out.size);have HB2:=zH hb2;have hc2:=(hb2.cell (p:=⟨p,2,none⟩) VF.out).trans HC2.out;have HS2:=zH (HRD.out w2 hb2);clear hb2 hc1 EH;go_wp2_with fail;refine HS2.out.mono ?_;rintro e w3 ⟨v3,rfl,ho3,hb3⟩;dsimp only at ho3 ⊢;have EP:=zH ho3;have HB3:=zH (HB2.out.trans (hb3.mono HB2.out.size));have A7:=zH (HB2.out.size);clear hb3 ho3 hc2 HS2;go_wp2_with fail;refine(HSC.out w3).mono ?_;rintro e w4 ⟨rfl,hb4⟩;have HO4:=zH (bz EP.out hb4);have HB4:=zH (HB3.out.trans (hb4.mono HB3.out.size));clear hb4;obtain⟨S,hS⟩:∃S,S=str SL:=⟨_,rfl⟩;have hsz:S.size=2352:=by rw[hS,ax]; exact HSL.out
 have QI:Hid (S.data.toList=SL):=zH (by rw[hS]; rfl);rw[<-hS];clear hS;go_upto_region 10 with (first
  | (refine jh rfl _ rfl underlying9 underlying65 underlying5 rfl ?_
     intro w5 cap rD hb5 hcap5)
  | fail)
 rw[QI.out]at rD;obtain⟨g,hg⟩:∃g,g=w4.heap.size:=⟨_,rfl⟩;have HGW:=zH hg;rw[<-hg]at rD ⊢;have IQ:=zH rD;have QY:=zH (bz HO4.out hb5);have Lu:=zH (HB4.out.trans (hb5.mono HB4.out.size));have Z4:Hid (∀k,v3.ownBlock=some k->k<g):=zH fun k hk=>by rw[HGW.out]; exact lM HO4.out k hk
 clear rD hb5 hg hcap5;obtain⟨a3,c3,rfl⟩:=bu QY.out;go_wp2_with fail
 go_loopw [52] (fun vk wr=>∃k:Nat,k<=GL.length/\vk=.int .i64 (k:Nat)/\Row wr 5 g cap (zG SL (GL.take k))/\wr.ownsRow w2.heap.size 3 1 (.slice a3 GL.length c3) GL.length (W8.is GL)/\Below w.heap.size w wr) (fun vk _=>GL.length - (RowKit.intOf vk).toNat)
 case atStart=>exact⟨0,by omega,rfl,IQ.out,QY.out,Lu.out⟩
 case round=>
  obtain⟨k,hk,rfl,hr,hx,hb⟩:=hrel;have hgn:GL.length<=2352:=HGN.out;by_cases hlt:k<GL.length
  ·obtain⟨g3,c4,hv3,hB3,hcl⟩:=UT hx hlt;simp only[Value.slice.injEq,true_and]at hv3;obtain⟨rfl,rfl⟩:=hv3;have hix:=fun w'=>aH underlying31 (by kernel_rfl:(prog.info? 3).map (·.size)=some 1) (a:=some ⟨g3,0,none⟩) (n:=GL.length) (cap:=c3) (k:=k) (b:=g3) (off:=0) rfl hlt (k:Int) rfl w'
   have hbd:=HGL.out _ (W8.iZ hlt);obtain⟨m,hm⟩:∃m:Nat,dm GL k=m:=⟨(dm GL k).toNat,by omega⟩;have HT:Hid (GL.take (k+1)=GL.take k++[(m:Int)]):=zH (by rw[List.take_succ_eq_append_getElem hlt,<-W8.nK hlt,hm]);rw[hm]at hcl hbd;have hlz:(zG SL (GL.take k)).length=2352:=by rw[EF]; exact HSL.out
   have hle:=hr.le;rw[hlz]at hle;have hf:=hr.frozen m (by omega);have hc0:=hr.cell m (by omega);have HST:=zH (hr.store m 0 (by omega));have hix2:=fun w'=>aH underlying65 sizeU8s (a:=some ⟨g,0,none⟩) (n:=2352) (cap:=cap) (k:=m) (b:=g) (off:=0) rfl (by omega) (m:Int) rfl w'
   simp only[Nat.mul_one,Nat.zero_add]at hix hix2;have hle2:m<2352:=by omega
   clear hlz;generalize G.ix (zG SL (GL.take k)) m=y at *;have HX:=zH hx;have HB:=zH hb;have HW2:=zH (show w.heap.size<=g by rw[HGW.out]; exact HB4.out.size);have HM:=zH hm;have HG3:=zH (Z4.out g3 rfl);clear hr hx hb hm hbd hB3;go_wp2_with fail;go_roundw;case rel=>
    refine⟨k+1,by omega,by go_num,?_,Ul HX.out (fun q hq=>?_) _,HB.out.setCell (by simp only; exact HW2.out) _⟩
    ·rw[HT.out,YM]; exact HST.out
    ·have:=Z4.out q hq; show q≠g; omega
   case measure=>simp[RowKit.intOf]; omega
  ·obtain rfl:k=GL.length:=by omega
   rw[List.take_of_length_le (zl _)]at hr;have HR:=zH hr;have HX:=zH hx;have HB:=zH hb;have HZL:Hid ((zG SL GL).length=2352):=zH (by rw[EF]; exact HSL.out);clear hr hx hb;go_wp2_with (first
    | (refine lC rfl _ _ rfl (base:=wr.heap.size) underlying65 infoU8s 2048 rfl rfl (by omega) (by omega) (by omega) (zl _) ?_
       intro w6 hx6 Tu;rw[<-HZ2.out]at hx6;have hrd:=Rd.nO hx6 (by omega);have hcv:=dV (P:=prog) underlying65 underlying5 underlying9 hrd;have hb6:=(zB wr.heap.size wr).grown Tu (zl _) (fun k hk=>by cases hk);have NY:=zH (HR.out.below hb6);have IV:=zH (bz HX.out hb6);have EG:=zH (HB.out.trans (hb6.mono HB.out.size));clear hx6 Tu hrd hb6)
    | fail)
   refine(HBU.out w6).mono ?_;rintro e w7 ⟨rfl,hb7⟩;have HR7:=zH (NY.out.below hb7);have LH:=zH (bz IV.out hb7);have HB7:=zH (EG.out.trans (hb7.mono EG.out.size));have hcu:=fun W=>Iu.out W
   clear hb7;have aem:=zH (show w.heap.size<=g by rw[HGW.out]; exact HB4.out.size);obtain⟨w8,hcp,hr8,hg8⟩:=Yj (P:=prog) (t':=9) (ty:=3) underlying65 (fun _=>by kernel_rfl) (n:=2352) (m:=lS) HR7.out HZL.out.symm (by decide);rw[<-HPB.out]at hr8;have HR8:=zH hr8;have QK:=zH (Uk LH.out hg8 (fun k hk e=>by have:=Z4.out k hk; have:=zs e; omega));have CJ:=zH (HB7.out.grown hg8 HB7.out.size (fun q hq=>by have:=zs hq; have:=aem.out; omega));clear hr8 hg8;go_wp2_with fail;have HDL:=zH (aeY 72 (fun _ _=>by kernel_rfl) (fun x=>decide (12<=x)) _ _ GL w8 (by have:=HGN.out; omega) (fun x hx=>by have:=HGL.out x hx; omega) QK.out (fun x W=>aeV x W));rw[<-HIN.out]at HDL;refine HDL.out.mono ?_;rintro e w9 ⟨v9,rfl,hi9,hg9⟩;have HI9:=zH hi9;have hr9:Row w9 5 g cap PbV:=HR8.out.keep (hg9.block g HR8.out.lt (fun e=>by have:=Z4.out g e.symm; omega));have wI:=CJ.out.grown hg9 CJ.out.size (fun q hq=>zT A7.out (dP QK.out q hq));obtain⟨a9,n9,c9,hv9⟩:∃a n c,v9=.slice a n c:=by obtain⟨_,⟨a,c,b,o,h,_⟩,_⟩:=hi9; exact⟨a,_,c,h⟩
   subst hv9;have ZI:=zH wI;have HPN:Hid (PbV.length=2352):=zH (by rw[HPB.out,Es]; exact HZL.out);have JI:=hr9.rd (by rw[HPN.out]; omega);rw[HPN.out]at JI;have hcx:=dV (P:=prog) underlying65 underlying5 underlying9 JI;have hc9:=(wI.cell (p:=⟨p,2,none⟩) VF.out).trans HC2.out;have IU:=zH (QE.out w9 wI);clear hi9 hg9 hr9 wI JI HDL;go_wp2_with fail;refine IU.out.mono ?_;rintro e w10 ⟨rfl,aaP⟩;have afq:=zH (HI9.out.keep aaP);have abY:=zH (ZI.out.trans (aaP.mono ZI.out.size));clear aaP hcx hc9 IU;have hq:=aeb.out;rw[zt HGE.out];rw[hq];have acg:=zH (HPA.out w10);clear hq;go_wp2_with fail;refine acg.out.mono ?_;rintro e QT ⟨rfl,OC⟩;have VT:=zH (abY.out.trans (OC.mono abY.out.size));clear OC;obtain⟨bs8,hbs⟩:∃b,b=QT.heap.size:=⟨_,rfl⟩;obtain⟨w20,Xr⟩:∃w20,w20=QT.alloc (.cells #[.int .i64 aj,.int .i64 0,.int .i64 0,.int .i64 0,.int .i64 0,.int .i64 0,.string DS] 157):=⟨_,rfl⟩;have hA20:=VT.out.alloc VT.out.size (.cells #[.int .i64 aj,.int .i64 0,.int .i64 0,.int .i64 0,.int .i64 0,.int .i64 0,.string DS] 157);rw[<-Xr]at hA20;have hx:Bx w20 bs8 157 [.int .i64 aj,.int .i64 0,.int .i64 0,.int .i64 0,.int .i64 0,.int .i64 0,.string DS]:=by rw[Xr,hbs]; exact Bx.new QT _ _
   have x0:=hx.cell (i:=0) rfl;have x1:=hx.cell (i:=1) rfl;have x3:=hx.cell (i:=6) rfl;have aeE:Hid (QT.alloc (.cells #[.int .i64 aj,.int .i64 0,.int .i64 0,.int .i64 0,.int .i64 0,.int .i64 0,.string DS] 157)=w20):=zH Xr.symm;have HBS:=zH hbs;have ad4:=zH hA20;clear hA20 hx Xr hbs;go_upto_region 24 with (fail)
   rw[aeE.out,<-HBS.out];go_wp2_with fail;go_ret;exact⟨rfl,ad4.out⟩
end T7
end Go.Proofs.YtfnehkmhcmkhjaaGreat
