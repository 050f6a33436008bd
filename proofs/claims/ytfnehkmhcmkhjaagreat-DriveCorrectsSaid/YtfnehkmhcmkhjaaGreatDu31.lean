/- Parts -/
import Derived.Test.YtfnehkmhcmkhjaaGreatDu30
import Derived.Maps.AppendAt
set_option maxRecDepth 100000
set_option maxHeartbeats 8000000
set_option linter.unusedVariables false
namespace Go.Proofs.YtfnehkmhcmkhjaaGreat
open Tryz
namespace T7
open Go Go.RowKit C9 wu
def vN(M:aA)(x:Int×List UInt8):aA×Bool:=((uy M x).2,decide ((uy M x).1=0))
noncomputable def kM(M:aA)(l:List (Int×List UInt8)):aA×Int×Bool:=TU vN M l
theorem LJ{w w0:World}{p pm N:Nat}{D:PD}{vt vc:Value}{E:World->Prop}{EX Xm Rm X0 R0:Nat->Prop}(h:iY w p D pm none vt vc E EX Xm Rm)(hc:Ch X0 R0 (DX p vc EX Xm) (DR vt Rm) w0 w)(ho:D.M.Ok N)
 (v:Value)(l:List (Int×List UInt8))(hN:N+l.length<=4611686018427387904)(hl:l.length<=1000000)(hv:∀W:World,W.ownsRow 0 131 2 vc D.ca.length (fH Bg D.ca)->dB N9 Bg 2 W v l)(hx:∀x∈l,Zl x):
 Calls prog 155 #[.pointer (some ⟨p,0,none⟩),v] w λe w'=>∃X2 R2,e=.returned (.tuple #[.int .i64 (kM D.M l).2.1,.bool (kM D.M l).2.2])/\iY w' p {D with M:=(kM D.M l).1} pm none vt vc E EX X2 R2/\
  Ch X0 R0 (DX p vc EX X2) (DR vt R2) w0 w'/\(kM D.M l).1.Ok (N+l.length):=by
 refine(aab (λk M W=>∃X2 R2,iY W p {D with M:=M} pm none vt vc E EX X2 R2/\Ch X0 R0 (DX p vc EX X2) (DR vt R2) w0 W/\M.Ok (N+k)/\N+k<=N+l.length) vN p v l D.M w hl ?_ ?_ ⟨Xm,Rm,h,hc,ho,by omega⟩).mono ?_
 ·rintro k M W o hk ⟨X2,R2,hd,hch,hok,hle⟩;have hA:=(zB W.heap.size W).alloc (zl _) o;have hd1:=hd.below hA;have hlo:=hd.lo;have hmem:aJ N9 l k∈l:=qN hk;refine(aez hd1 hok (by omega) (aJ N9 l k) (hx _ hmem)).mono ?_;rintro e w' ⟨X3,R3,rfl,hd3,hc3⟩;refine⟨rfl,⟨X3,R3,hd3,hch.trans (Ch.trans (Ch.of hA) hc3),hok.record _ _,by omega⟩,?_⟩;have:=hc3.block W.heap.size (by simp) (λDl=>by have:=hlo _ (.inl Dl);omega);rw[this];exact Xl _ _
 ·rintro k M W ⟨X2,R2,hd,_⟩;exact hv W hd.ca
 ·rintro e w' ⟨rfl,X2,R2,hd,hch,hok,_⟩;exact⟨X2,R2,rfl,hd,hch,hok⟩
noncomputable def vO(D:PD):PD:=qK {D with M:=(kM D.M D.ca).1,ca:=[]}
noncomputable def zy(D:PD):Rp:=qZ (kM D.M D.ca).2.1 (kM D.M D.ca).2.2
def jk(k aj cnt bP pk:Int)(vb:Value):Value:=.agg #[.int .i64 k,.int .i64 aj,.int .i64 cnt,.int .i64 bP,.int .i64 pk,vb]
structure PD.Fit (D:PD) (N:Nat):Prop where
 ok:D.M.Ok N
 zA:abV D
 ca:∀x∈D.ca,Zl x
 n64:D.ca.length<=64
theorem aeZ{w w0:World}{p pm N:Nat}{D:PD}{vt vc:Value}{E:World->Prop}{EX Xm Rm X0 R0:Nat->Prop}(h:iY w p D pm none vt vc E EX Xm Rm)(hc:Ch X0 R0 (DX p vc EX Xm) (DR vt Rm) w0 w)(hk:D.kind=1)(hf:D.Fit N)(hN:N<=4611686018427380000)
 (k aj cnt bP pk:Int)(a5:Option Addr)(n5 c5:Nat):
 Calls prog 78 #[.pointer (some ⟨p,0,none⟩),jk k aj cnt bP pk (.slice a5 n5 c5)] w λe w'=>∃X2 R2,e=.returned (jg (zy D) (.slice none 0 0) (.slice none 0 0))/\iY w' p (vO D) pm none vt (.slice none 0 0) E EX X2 R2/\
  Ch X0 R0 (DX p (.slice none 0 0) EX X2) (DR vt R2) w0 w'/\(vO D).M.Ok (N+64):=by
 obtain⟨w1,hw1⟩:∃w1,w1=(w.alloc (.cells #[.int .i64 k,.int .i64 aj,.int .i64 cnt,.int .i64 bP,.int .i64 pk,.slice a5 n5 c5] 49)).alloc (.cells aX.toArray 58):=⟨_,rfl⟩;obtain⟨b4,hb4⟩:∃b,b=w.heap.size+1:=⟨_,rfl⟩;have hA1:=(zB w.heap.size w).alloc (zl _) (.cells #[.int .i64 k,.int .i64 aj,.int .i64 cnt,.int .i64 bP,.int .i64 pk,.slice a5 n5 c5] 49);have hA:=hA1.alloc hA1.size (.cells aX.toArray 58);have hbx:=Bx.new (w.alloc (.cells #[.int .i64 k,.int .i64 aj,.int .i64 cnt,.int .i64 bP,.int .i64 pk,.slice a5 n5 c5] 49)) 58 aX;rw[<-hw1]at hA hbx;rw[Yl,<-hb4]at hbx;obtain⟨a9,c9,hvc⟩:=aS h.ca;subst hvc;have hd1:=h.below hA;have hlo1:=h.lo;have hc1:=hc.trans (Ch.of hA);have HT1:=zH hc1;have HT0:=zH hc.size;have HFL:=zH (LJ hd1 (Ch.refl (X:=DX p (.slice a9 D.ca.length c9) EX Xm) (R:=DR vt Rm)) hf.ok (.slice a9 D.ca.length c9) D.ca (by have:=hf.n64;omega) (by have:=hf.n64;omega) (λW hW=>dB.bg xP hW) hf.ca);have HXB:=zH hbx;have HB4:Hid (b4<w1.heap.size/\∀b,DX p (.slice a9 D.ca.length c9) EX Xm b\/DR vt Rm b->b≠b4):=zH ⟨hbx.lt,λb hb=>by have:=hlo1 b hb;omega⟩;have HW1:Hid ((w.alloc (.cells #[.int .i64 k,.int .i64 aj,.int .i64 cnt,.int .i64 bP,.int .i64 pk,.slice a5 n5 c5] 49)).alloc (.cells #[.int .i64 0,.int .i64 0,.slice none 0 0,.int .i64 0,.bool false,.slice none 0 0] 58)=w1):=zH hw1.symm;have IX:=zH hb4;have HF:=zH hf;have HK:=zH hk;obtain⟨c0,c1,c2,c3,c4,Bf,c6,c7,c8,c9'⟩:=hd1.cells;have HSY:Hid (zy D=qZ (kM D.M D.ca).2.1 (kM D.M D.ca).2.2):=zH rfl;obtain⟨Z,hZ⟩:∃Z,Z=kM D.M D.ca:=⟨_,rfl⟩;rw[<-hZ]at HFL HSY;have HSD:Hid (vO D=qK {D with M:=Z.1,ca:=[]}):=zH (by rw[hZ];rfl);clear hw1 hb4 hA1 hA hbx h hc hk hf hd1 hlo1 hc1 hZ;unfold jk;go_enter func78,ntmps78;go_upto_region 1 with (fail)
 rw[HW1.out,<-IX.out];go_wp2_with fail;refine HFL.out.mono ?_;rintro e w2 ⟨X2,R2,rfl,hd2,EL,hok2⟩;have HD2:=zH hd2;have HT2:=zH (HT1.out.trans EL);have CX:Hid (Bx w2 b4 58 aX):=zH ((EL.block b4 HB4.out.1 (λh9=>HB4.out.2 b4 (.inl h9) rfl)).trans HXB.out);have Zr:Hid (∀b,DX p (.slice a9 D.ca.length c9) EX X2 b\/DR vt R2 b->b≠b4):=zH λb hb e=>by
  subst e;rcases hb with hb|hb
  ·rcases EL.x _ hb with h1|h1
   ·exact HB4.out.2 _ (.inl h1) rfl
   ·have:=HB4.out.1;omega
  ·rcases EL.r _ hb with h1|h1
   ·exact HB4.out.2 _ (.inr h1) rfl
   ·have:=HB4.out.1;omega
 have vG:=zH hok2;have HFD:=zH (V9 Z.2.1 Z.2.2 w2);unfold jg at HFD;clear hd2 EL hok2 c0 c1 c2 c3 c4 Bf c6 c7 c8 c9';go_wp2_with fail;refine HFD.out.mono ?_;rintro e w3 ⟨rfl,hb3⟩;obtain⟨r,hr⟩:∃r,r=qZ Z.2.1 Z.2.2:=⟨_,rfl⟩;rw[<-hr]at HSY ⊢;obtain⟨w4,hw4⟩:∃w4,w4=w3.alloc (.cells #[.int .i64 r.key,.int .i64 r.aj,.slice none 0 0,.int .i64 r.cl,.bool r.fin,.slice none 0 0] 58):=⟨_,rfl⟩;obtain⟨b5,hb5⟩:∃b,b=w3.heap.size:=⟨_,rfl⟩;have xy:=hb3.alloc hb3.size (.cells #[.int .i64 r.key,.int .i64 r.aj,.slice none 0 0,.int .i64 r.cl,.bool r.fin,.slice none 0 0] 58);have hx5:Bx w4 b5 58 [.int .i64 r.key,.int .i64 r.aj,.slice none 0 0,.int .i64 r.cl,.bool r.fin,.slice none 0 0]:=by rw[hw4,hb5];exact Bx.new w3 _ _
 rw[<-hw4]at xy;have hd4:=HD2.out.below xy;have HD4:=zH hd4;have HT4:=zH (HT2.out.trans (Ch.of xy));have Aa:=zH (CX.out.call xy);have H5:=zH hx5;have HN5:Hid (b5≠p/\b4≠p/\∀b,DX p (.slice a9 D.ca.length c9) EX X2 b\/DR vt R2 b->b≠b5):=zH ⟨by have:=HD2.out.box.lt;have:=hb3.size;omega,λe=>Zr.out p (.inl (.inl rfl)) e.symm,λb hb=>by have:=HD2.out.lo b hb;have:=hb3.size;omega⟩;have Ie:=zH hw4.symm;have KC:=zH hb5;have f9:=hd4.box.free 9;obtain⟨c0,c1,c2,c3,c4,Bf,c6,c7,c8,c9'⟩:=hd4.cells;clear xy hx5 hw4 hb5 hb3 hd4 hr;go_upto_region 2 with (fail)
 rw[Ie.out,<-KC.out];obtain⟨w5,hw5⟩:∃w5,w5=w4.setCell ⟨p,9,none⟩ (.slice none 0 0):=⟨_,rfl⟩;have hk5:=(fB.refl p w4).set 9 (.slice none 0 0);have Ug:=HD4.out.box.set 9 (.slice none 0 0);rw[<-hw5]at hk5 Ug;have hd5:iY w5 p {D with M:=Z.1,ca:=[]} pm none vt (.slice none 0 0) E EX X2 R2:=HD4.out.put hk5 Ug rfl HD4.out.tr HD4.out.tl ⟨rfl,.inl ⟨rfl,rfl⟩⟩ ⟨HD4.out.ap.p1,HD4.out.ap.p2,HD4.out.ap.p3,HD4.out.ap.e1,HD4.out.ap.e2,HD4.out.ap.t1,HD4.out.ap.t2,HD4.out.ap.t3,λk _ h=>(by cases h),λk h=>(by cases h),λk h=>(by cases h),λk h=>(by cases h),λk h=>by cases h⟩;have HT5:=zH (Ch.put (vt':=vt) (vc':=.slice none 0 0) HT4.out hk5 (λk h=>by cases h) (λk hk=>HT4.out.r k (.inr hk)));have HD5:=zH hd5;have VG:Hid (Bx w5 b4 58 aX):=zH ((hk5.block b4 HN5.out.2.1).trans Aa.out);have H55:=zH ((hk5.block b5 HN5.out.1).trans H5.out);have Ot:=zH hw5.symm;have HON:=zH (Ej (hd5.cells).1);have KG:=zH (Nv hd5 (D:={D with M:=Z.1,ca:=[]}) ⟨HF.out.zA.fine,HF.out.zA.cl,HF.out.zA.a,HF.out.zA.b⟩ (Ch.refl (X:=DX p (.slice none 0 0) EX X2) (R:=DR vt R2)));clear hw5 hk5 Ug hd5;go_upto_region 3 with (fail)
 rw[Ot.out];clear c0 c1 c2 c3 c4 Bf c6 c7 c8 c9' f9;go_wp2_with fail;refine HON.out.mono ?_;rintro e w6 ⟨rfl,rfl⟩;rw[zt (show(({D with M:=Z.1,ca:=[] }:PD).kind:Int)=1 by show(D.kind:Int)=1;rw[HK.out];rfl)];go_wp2_with fail;refine KG.out.mono ?_;rintro e w7 ⟨rfl,hd7,LW⟩;have HD7:=zH hd7;have zO:=zH (HT5.out.trans LW);have hx7:Bx w7 b4 58 aX:=(LW.block b4 VG.out.lt (λh9=>by
  rcases h9 with h9|h9|h9|h9
  ·exact HN5.out.2.1 h9
  ·exact Zr.out b4 (.inl (.inr (.inl h9))) rfl
  ·exact Zr.out b4 (.inl (.inr (.inr (.inl h9)))) rfl
  ·cases h9)).trans VG.out
 have h57:=(LW.block b5 (show b5<w5.heap.size from(Yd.1 H55.out).1) (λh9=>by
  rcases h9 with h9|h9|h9|h9
  ·exact HN5.out.1 h9
  ·exact HN5.out.2.2 b5 (.inl (.inr (.inl h9))) rfl
  ·exact HN5.out.2.2 b5 (.inl (.inr (.inr (.inl h9)))) rfl
  ·cases h9)).trans H55.out
 have h57:Bx w7 b5 58 [.int .i64 r.key,.int .i64 r.aj,.slice none 0 0,.int .i64 r.cl,.bool r.fin,.slice none 0 0]:=h57;have s0:=h57.cell (i:=0) rfl;have s1:=h57.cell (i:=1) rfl;have s2:=h57.cell (i:=2) rfl;have s3:=h57.cell (i:=3) rfl;have s4:=h57.cell (i:=4) rfl;have s5:=h57.cell (i:=5) rfl;unfold aX at hx7;have t0:=hx7.cell (i:=0) rfl;have t1:=hx7.cell (i:=1) rfl;have t2:=hx7.cell (i:=2) rfl;have t3:=hx7.cell (i:=3) rfl;have t4:=hx7.cell (i:=4) rfl;have t5:=hx7.cell (i:=5) rfl;have tf:=λi=>hx7.free i
 have Ou:=zH hx7;have Zp:Hid (∀b,DX p (.slice none 0 0) EX X2 b\/DR vt R2 b->b≠b4):=zH λb hb=>by
  rcases hb with (h9|h9|h9|h9)|h9
  ·exact h9 ▸ Vb HN5.out.2.1
  ·exact Zr.out b (.inl (.inr (.inl h9)))
  ·exact Zr.out b (.inl (.inr (.inr (.inl h9))))
  ·cases h9
  ·exact Zr.out b (.inr h9)
 clear hd7 LW hx7 h57;have anG:Hid ((vO D).M.Ok (N+64)):=zH (by rw[HSD.out];exact vG.out.mono (by have:=HF.out.n64;omega));have HB0:Hid (w0.heap.size<=b4):=zH (by have:=HT0.out;have:=IX.out;omega);go_wp2_with fail;refine zr (v:=jg (zy D) (.slice none 0 0) (.slice none 0 0)) (by rw[HSY.out];simp[results,results78,go_sem,jg,t0,t1,t2,t3,t4,t5]) rfl ⟨X2,R2,rfl,?_,lX zO.out HB0.out _ _ _ _ _ _,anG.out⟩;rw[HSD.out];exact ji HD7.out Zp.out _ _ _ _ _ _
theorem qR{w w':World}{X R X2 R2:Nat->Prop}(h:Ch X R X2 R2 w w'){b:Nat}(hb:b<w.heap.size)(hX:∀k,X k\/R k->k≠b):(∀k,X2 k\/R2 k->k≠b)/\w'.heap[b]? = w.heap[b]?:=by
 refine⟨?_,h.block b hb λh9=>hX b (.inl h9) rfl⟩;rintro k (hk|hk) rfl
 ·rcases h.x _ hk with h1|h1
  ·exact hX _ (.inl h1) rfl
  ·omega
 ·rcases h.r _ hk with h1|h1
  ·exact hX _ (.inr h1) rfl
  ·omega
def zW(w0:World)(X0 R0:Nat->Prop)(p pm:Nat)(df:Option Addr)(E:World->Prop)(EX:Nat->Prop)(N:Nat)(r:Rp)(D:PD)(e:Ending)(w':World):Prop:=
 ∃vt vc X2 R2,e=.returned (jg r (.slice none 0 0) (.slice none 0 0))/\iY w' p D pm df vt vc E EX X2 R2/\Ch X0 R0 (DX p vc EX X2) (DR vt R2) w0 w'/\D.M.Ok N
def PD.zA(D:PD)(cl:Int)(fin:Bool)(l:List T.ax):PD:={D with cl:=cl,fin:=fin,tr:=l}
theorem VY{w:World}{p pm:Nat}{D:PD}{df:Option Addr}{vt vc:Value}{E:World->Prop}{EX Xm Rm:Nat->Prop}(h:iY w p D pm df vt vc E EX Xm Rm){cl:Int}{fin:Bool}{v:Value}{l:List T.ax}(hv:Held w v l (DX p vc EX Xm)):
 iY (((w.setCell ⟨p,4,none⟩ (.int .i64 cl)).setCell ⟨p,5,none⟩ (.bool fin)).setCell ⟨p,6,none⟩ v) p (D.zA cl fin l) pm df v vc E EX Xm Rm:=by
 have hk:=(((fB.refl p w).set 4 (.int .i64 cl)).set 5 (.bool fin)).set 6 v;have hbx:=((h.box.set 4 (.int .i64 cl)).set 5 (.bool fin)).set 6 v;exact h.put (D':=D.zA cl fin l) hk hbx rfl hv.rd hv.lt h.ca ⟨h.ap.p1,h.ap.p2,h.ap.p3,h.ap.e1,h.ap.e2,λk hk e=>hv.ap k hk (.inl e),λk hk h9=>hv.ap k hk (.inr (.inl h9)),λk hk h9=>hv.ap k hk (.inr (.inr (.inl h9))),λk hk h9=>hv.ap k hk (.inr (.inr (.inr h9))),h.ap.c1,h.ap.c2,h.ap.c3,h.ap.c4⟩
noncomputable def ZI(D:PD)(cl:Int)(fin:Bool)(l:List T.ax):PD:=qK ((vO D).zA cl fin l)
theorem ZH{w w0:World}{p pm N:Nat}{D:PD}{vt vc:Value}{E:World->Prop}{EX Xm Rm X0 R0:Nat->Prop}(h:iY w p D pm none vt vc E EX Xm Rm)(hc:Ch X0 R0 (DX p vc EX Xm) (DR vt Rm) w0 w)(hk:D.kind=1)(hf:D.Fit N)(hN:N<=4611686018427380000)
 (cl:Int)(fin:Bool)(v:Value)(l:List T.ax)(hv:Held w v l (DX p vc EX Xm))(hv0:∀k,v.ownBlock=some k->R0 k\/w0.heap.size<=k)(hfl:E1.Fine l)(hcl:cl<=9223372036854775807)(hsl:(vM {D with M:=(kM D.M D.ca).1,ca:=[]}).1.length<=20000/\(vM {D with M:=(kM D.M D.ca).1,ca:=[]}).2.length<=20000)(kv:Value):
 Calls prog 157 #[.pointer (some ⟨p,0,none⟩),aN cl fin v,.int .i64 0,kv] w (zW w0 X0 R0 p pm none E EX (N+64) (zy D) (ZI D cl fin l)):=by
 obtain⟨a6,k6,rfl,ac2⟩:=dU.form hv.rd;obtain⟨w1,hw1⟩:∃w1,w1=(w.alloc (.cells #[.int .i64 cl,.bool fin,(.slice a6 l.length k6)] 37)).alloc (.cells aX.toArray 58):=⟨_,rfl⟩;obtain⟨bt,hbt⟩:∃b,b=w.heap.size:=⟨_,rfl⟩;obtain⟨b8,hb8⟩:∃b,b=w.heap.size+1:=⟨_,rfl⟩;have hA1:=(zB w.heap.size w).alloc (zl _) (.cells #[.int .i64 cl,.bool fin,(.slice a6 l.length k6)] 37);have hA:=hA1.alloc hA1.size (.cells aX.toArray 58);have PO:Bx ((w.alloc (.cells #[.int .i64 cl,.bool fin,(.slice a6 l.length k6)] 37)).alloc (.cells aX.toArray 58)) w.heap.size 37 [.int .i64 cl,.bool fin,(.slice a6 l.length k6)]:=(Bx.new w 37 [.int .i64 cl,.bool fin,(.slice a6 l.length k6)]).alloc _;have hbx:=Bx.new (w.alloc (.cells #[.int .i64 cl,.bool fin,(.slice a6 l.length k6)] 37)) 58 aX;rw[<-hw1]at hA hbx PO;rw[Yl,<-hb8]at hbx;rw[<-hbt]at PO;have hd1:=h.below hA;have hlo1:=h.lo;have hc1:=hc.trans (Ch.of hA);have HT1:=zH hc1;have HT0:=zH hc.size;have HSY:=zH (aeZ hd1 (Ch.refl (X:=DX p vc EX Xm) (R:=DR vt Rm)) hk hf hN 0 0 0 0 0 none 0 0);unfold jk jg at HSY;have HON:=zH (Ej (hd1.cells).1);have HXB:=zH hbx;have HXT:=zH PO;have NZ:Hid (b8<w1.heap.size/\(∀b,DX p vc EX Xm b\/DR vt Rm b->b≠b8)/\bt<w1.heap.size/\(∀b,DX p vc EX Xm b\/DR vt Rm b->b≠bt)/\w0.heap.size<=b8):=zH ⟨hbx.lt,λb hb=>by have:=hlo1 b hb;omega,PO.lt,λb hb=>by have:=hlo1 b hb;omega,by have:=hc.size;omega⟩;have HW1:Hid ((w.alloc (.cells #[.int .i64 cl,.bool fin,(.slice a6 l.length k6)] 37)).alloc (.cells #[.int .i64 0,.int .i64 0,.slice none 0 0,.int .i64 0,.bool false,.slice none 0 0] 58)=w1):=zH hw1.symm;have IX:=zH hb8;have HBT:=zH hbt;have HK:=zH hk;have HV:=zH (hv.keep (Ch.of (X:=DX p vc EX Xm) (R:=DR vt Rm) hA));have HV0:=zH hv0;have HVP:Hid (∀k,(Value.slice a6 l.length k6).ownBlock=some k->k≠b8):=zH λk hk=>by have:=hv.lt k hk;omega
 have aft:=zH (⟨hfl,hcl,hsl.1,hsl.2⟩:E1.Fine l/\cl<=9223372036854775807/\_/\_);have HKD:Hid (((D.kind:Nat):Int)=1):=zH (by rw[hk];rfl);have x0:=PO.cell (i:=0) rfl;have x1:=PO.cell (i:=1) rfl;have x2:=PO.cell (i:=2) rfl;obtain⟨r,hr⟩:∃r,r=zy D:=⟨_,rfl⟩;rw[<-hr]at HSY ⊢;clear hw1 hb8 hbt hA1 hA hbx PO h hc hk hf hd1 hlo1 hc1 hv hv0 hfl hcl hsl hr;unfold aN;go_enter func157,ntmps157;go_upto_region 1 with (fail)
 rw[HW1.out,<-IX.out,<-HBT.out];go_wp2_with fail;refine HON.out.mono ?_;rintro e w6 ⟨rfl,rfl⟩;rw[zt HKD.out];go_upto_region 5 with (fail)
 go_wp2_with fail;refine HSY.out.mono ?_;rintro e w2 ⟨X2,R2,rfl,hd2,EL,hok2⟩;have a8:=qR EL NZ.out.1 NZ.out.2.1;have at_:=qR EL NZ.out.2.2.1 NZ.out.2.2.2.1;obtain⟨w4,hw4⟩:∃w4,w4=w2.alloc (.cells #[.int .i64 r.key,.int .i64 r.aj,.slice none 0 0,.int .i64 r.cl,.bool r.fin,.slice none 0 0] 58):=⟨_,rfl⟩;obtain⟨b5,hb5⟩:∃b,b=w2.heap.size:=⟨_,rfl⟩;have xy:=(zB w2.heap.size w2).alloc (zl _) (.cells #[.int .i64 r.key,.int .i64 r.aj,.slice none 0 0,.int .i64 r.cl,.bool r.fin,.slice none 0 0] 58);have hx5:Bx w4 b5 58 [.int .i64 r.key,.int .i64 r.aj,.slice none 0 0,.int .i64 r.cl,.bool r.fin,.slice none 0 0]:=by rw[hw4,hb5];exact Bx.new w2 _ _
 rw[<-hw4]at xy;have hd4:=hd2.below xy;have HD4:=zH hd4;have HT4:=zH ((HT1.out.trans EL).trans (Ch.of xy));have alK:Bx w2 b8 58 aX:=a8.2.trans HXB.out;have alO:Bx w2 bt 37 [.int .i64 cl,.bool fin,(.slice a6 l.length k6)]:=at_.2.trans HXT.out;have HX8:=zH (alK.call xy);have ai0:=zH (alO.call xy);have H5:=zH hx5;have HV4:=zH ((HV.out.keep EL).keep (Ch.of (X:=DX p (.slice none 0 0) EX X2) (R:=DR vt R2) xy));have HN8:Hid (b8≠p/\b5≠p/\bt≠p/\(∀b,DX p (.slice none 0 0) EX X2 b\/DR vt R2 b->b≠b8)/\∀b,DX p (.slice none 0 0) EX X2 b\/DR vt R2 b->b≠b5):=zH ⟨λe=>a8.1 p (.inl (.inl rfl)) e.symm,λe=>by have:=hd2.lo p (.inl (.inl rfl));omega,λe=>at_.1 p (.inl (.inl rfl)) e.symm,a8.1,λb hb=>by have:=hd2.lo b hb;omega⟩;have Ie:=zH hw4.symm;have KC:=zH hb5;have vG:=zH hok2;have hpl:=hd4.box.lt;have f4:=hd4.box.free 4;have f5:=hd4.box.free 5;have f6:=hd4.box.free 6;obtain⟨c0,c1,c2,c3,c4,Bf,c6,c7,c8,c9'⟩:=hd4.cells;replace x0:=ai0.out.cell (i:=0) rfl;replace x1:=ai0.out.cell (i:=1) rfl;replace x2:=ai0.out.cell (i:=2) rfl;clear xy hx5 hw4 hb5 hd4 a8 at_ hd2 EL hok2 alK alO;go_upto_region 6 with (fail)
 rw[Ie.out,<-KC.out];go_upto_region 7 with (fail)
 obtain⟨w5,hw5⟩:∃w5,w5=((w4.setCell ⟨p,4,none⟩ (.int .i64 cl)).setCell ⟨p,5,none⟩ (.bool fin)).setCell ⟨p,6,none⟩ (.slice a6 l.length k6):=⟨_,rfl⟩;have hd5:=VY (cl:=cl) (fin:=fin) HD4.out HV4.out;have hc5:=Ch.put HT4.out (vt':=(.slice a6 l.length k6)) (vc':=.slice none 0 0) ((((fB.refl p w4).set 4 (.int .i64 cl)).set 5 (.bool fin)).set 6 (.slice a6 l.length k6)) (λk h=>by cases h) HV0.out;have hk5:=((((fB.refl p w4).set 4 (.int .i64 cl)).set 5 (.bool fin)).set 6 (.slice a6 l.length k6));rw[<-hw5]at hd5 hc5 hk5;have HD5:=zH hd5;have HT5:=zH hc5;have VG:Hid (Bx w5 b8 58 aX):=zH ((hk5.block b8 HN8.out.1).trans HX8.out);have H55:Hid (Bx w5 b5 58 [.int .i64 r.key,.int .i64 r.aj,.slice none 0 0,.int .i64 r.cl,.bool r.fin,.slice none 0 0]):=zH ((hk5.block b5 HN8.out.2.1).trans H5.out);have KG:=zH (Nv hd5 ⟨aft.out.1,aft.out.2.1,aft.out.2.2.1,aft.out.2.2.2⟩ (Ch.refl (X:=DX p (.slice none 0 0) EX X2) (R:=DR (.slice a6 l.length k6) R2)));have Ot:=zH hw5.symm;clear hw5 hd5 hc5 hk5;rw[Ot.out];clear c0 c1 c2 c3 c4 Bf c6 c7 c8 c9' f4 f5 f6 x0 x1 x2 hpl;go_wp2_with fail;refine KG.out.mono ?_;rintro e w7 ⟨rfl,hd7,LW⟩;have HD7:=zH hd7;have zO:=zH (HT5.out.trans LW);have Zp:Hid (∀b,DX p (.slice none 0 0) EX X2 b\/DR (.slice a6 l.length k6) R2 b->b≠b8):=zH λb hb=>by
  rcases hb with h9|h9|h9
  ·exact HN8.out.2.2.2.1 b (.inl h9)
  ·exact HN8.out.2.2.2.1 b (.inr (.inl h9))
  ·exact HVP.out b h9
 have a8:w7.heap[b8]? = w5.heap[b8]?:=LW.block b8 VG.out.lt λh9=>HN8.out.2.2.2.1 b8 (.inl h9) rfl
 have a5:w7.heap[b5]? = w5.heap[b5]?:=LW.block b5 H55.out.lt λh9=>HN8.out.2.2.2.2 b5 (.inl h9) rfl
 have hx7:Bx w7 b8 58 aX:=a8.trans VG.out;have h57:Bx w7 b5 58 [.int .i64 r.key,.int .i64 r.aj,.slice none 0 0,.int .i64 r.cl,.bool r.fin,.slice none 0 0]:=a5.trans H55.out;have s0:=h57.cell (i:=0) rfl;have s1:=h57.cell (i:=1) rfl;have s2:=h57.cell (i:=2) rfl;have s3:=h57.cell (i:=3) rfl;have s4:=h57.cell (i:=4) rfl;have s5:=h57.cell (i:=5) rfl;unfold aX at hx7;have t0:=hx7.cell (i:=0) rfl;have t1:=hx7.cell (i:=1) rfl;have t2:=hx7.cell (i:=2) rfl;have t3:=hx7.cell (i:=3) rfl;have t4:=hx7.cell (i:=4) rfl;have t5:=hx7.cell (i:=5) rfl;have tf:=λi=>hx7.free i
 clear hd7 LW hx7 h57 a8 a5;go_wp2_with fail;refine zr (v:=jg r (.slice none 0 0) (.slice none 0 0)) (by simp[results,results157,go_sem,jg,t0,t1,t2,t3,t4,t5]) rfl ⟨(.slice a6 l.length k6),.slice none 0 0,X2,R2,rfl,ji HD7.out Zp.out _ _ _ _ _ _,lX zO.out NZ.out.2.2.2.2 _ _ _ _ _ _,vG.out⟩
theorem SN{w w0:World}{p pm N:Nat}{D:PD}{vt vc:Value}{E:World->Prop}{EX Xm Rm X0 R0:Nat->Prop}(h:iY w p D pm none vt vc E EX Xm Rm)(hc:Ch X0 R0 (DX p vc EX Xm) (DR vt Rm) w0 w)(hk:D.kind=1)(ho:D.M.Ok N)
 (cl:Int)(fin:Bool)(v:Value){code key:Int}(hcd:code≠0)(hc1:-9223372036854775808<=code)(hc2:code<=9223372036854775807){b n:Nat}{f:Int->Option Value}(hm:MF 66 w b n f)(hfk:f code=some (.int .i64 key)):
 Calls prog 157 #[.pointer (some ⟨p,0,none⟩),aN cl fin v,.int .i64 code,.map (some b)] w (zW w0 X0 R0 p pm none E EX N (Rp.sense key 0) D):=by
 obtain⟨w1,hw1⟩:∃w1,w1=(w.alloc (.cells #[.int .i64 cl,.bool fin,v] 37)).alloc (.cells aX.toArray 58):=⟨_,rfl⟩;obtain⟨b8,hb8⟩:∃b,b=w.heap.size+1:=⟨_,rfl⟩;have hA1:=(zB w.heap.size w).alloc (zl _) (.cells #[.int .i64 cl,.bool fin,v] 37);have hA:=hA1.alloc hA1.size (.cells aX.toArray 58);have hbx:=Bx.new (w.alloc (.cells #[.int .i64 cl,.bool fin,v] 37)) 58 aX;rw[<-hw1]at hA hbx;rw[Yl,<-hb8]at hbx;have hd1:=h.below hA;have hlo1:=h.lo;have hc1':=hc.trans (Ch.of hA);have HT1:=zH hc1';have HON:=zH (Ej (hd1.cells).1);have HXB:=zH hbx;have NZ:Hid ((∀b,DX p vc EX Xm b\/DR vt Rm b->b≠b8)/\w0.heap.size<=b8):=zH ⟨λb hb=>by have:=hlo1 b hb;omega,by have:=hc.size;omega⟩;have HW1:Hid ((w.alloc (.cells #[.int .i64 cl,.bool fin,v] 37)).alloc (.cells #[.int .i64 0,.int .i64 0,.slice none 0 0,.int .i64 0,.bool false,.slice none 0 0] 58)=w1):=zH hw1.symm;have IX:=zH hb8;have HKD:Hid (((D.kind:Nat):Int)=1):=zH (by rw[hk];rfl);have hlook:=(hm.below hA).look1 underlying66 underlying258 (z:=.int .i64 0) (by kernel_rfl) code hc1 hc2 hfk;have ao4:decide (code=0)=false:=zf hcd;have Be:=zH (pK key 0 w1);unfold jg Rp.sense at Be;have HD1:=zH hd1;have HO:=zH ho;clear hw1 hb8 hA1 hA hbx h hc hk hd1 hlo1 hc1' ho hm hfk;unfold aN;go_enter func157,ntmps157;go_upto_region 1 with (fail)
 rw[HW1.out,<-IX.out];go_wp2_with fail;refine HON.out.mono ?_;rintro e w6 ⟨rfl,rfl⟩;rw[zt HKD.out];go_wp2_with fail;refine Be.out.mono ?_;rintro e w7 ⟨rfl,hb7⟩;have HD7:=zH (HD1.out.below (hb7.mono (zl _)));have zO:=zH (HT1.out.trans (Ch.of (X:=DX p vc EX Xm) (R:=DR vt Rm) hb7));have hx7:=HXB.out.call hb7;unfold aX at hx7;have t0:=hx7.cell (i:=0) rfl;have t1:=hx7.cell (i:=1) rfl;have t2:=hx7.cell (i:=2) rfl;have t3:=hx7.cell (i:=3) rfl;have t4:=hx7.cell (i:=4) rfl;have t5:=hx7.cell (i:=5) rfl;have tf:=λi=>hx7.free i
 clear hb7 hx7;go_wp2_with fail;refine zr (v:=jg (Rp.sense key 0) (.slice none 0 0) (.slice none 0 0)) (by simp[results,results157,go_sem,jg,Rp.sense,t0,t1,t2,t3,t4,t5]) rfl ⟨vt,vc,Xm,Rm,rfl,ji HD7.out NZ.out.1 _ _ _ _ _ _,lX zO.out NZ.out.2 _ _ _ _ _ _,HO.out⟩
theorem mZ{P:Program}{Q:Exit->Act->World->Prop}{R:World->World->Prop}{V:Nat->Value->(Nat->Value)->World->Prop}{d:Nat->Value}{i:Nat}{o:Oper}{a:Act}{w:World}(h:∀K:Act->World->Prop,(∀v w',R w w'->V i (kept o.dst v) d w'->K (a.put o.dst v) w')->o.wp P a w K Q):
 o.wp P a w (λa' w'=>∃v,a'=a.put o.dst v/\R w w'/\V i (kept o.dst v) d w') Q:=h _ λv w' h1 h2=>⟨v,rfl,h1,h2⟩
theorem UY{w:World}{v:Value}{l:List T.ax}(h:bQ w v l)(hl:l≠[]):∀k,v.ownBlock=some k->k<w.heap.size:=λk hk=>by obtain⟨a,c,b,off,rfl,hac,hcell⟩:=h;obtain⟨ha,hr⟩:=hcell 0 (YM.2 hl);subst ha;obtain rfl:b=k:=zs hk;exact zc w _ (hr 0 _ rfl)
theorem sO.below{w w':World}{B:Nat}{v:Value}{l:List T.ax}(h:sO w B v l)(hb:Below w.heap.size w w'):sO w' B v l:=⟨bQ.keep h.1 hb,h.2⟩
structure PD.Ok (D:PD) (N:Nat):Prop where
 kind:D.kind=1
 md:D.M.Ok N
 v:T.aK D.n D.cl D.fin D.tr
 a:D.sA.length<=20000
 b:D.sB.length<=20000
 ca:∀x∈D.ca,Zl x
 n64:D.ca.length<=64
theorem Dh{cap cl:Int}{fin:Bool}{l:List T.ax}(h:T.aK cap cl fin l):E1.Fine l/\cl<=9223372036854775807:=⟨.inl (qY h),by have:=h.2.2.2.2.1;omega⟩
section
variable {D:PD} {N:Nat}
theorem PD.Ok.fit(h:D.Ok N):D.Fit N:=⟨h.md,⟨(Dh h.v).1,(Dh h.v).2,h.a,h.b⟩,h.ca,h.n64⟩
theorem Y5(hf:D.tr.length<=900)(ha:D.sA.length<=20000)(hb:D.sB.length<=20000):(vM D).1.length<=20000/\(vM D).2.length<=20000:=by
 have hl:∀q:Int,(E1.dV q D.cl D.fin D.tr).length<=20000:=λq=>by have:=E1.VM q D.cl D.fin D.tr;unfold E1.dV;rw[Yb];have:(Ih.vI (C.crc 0 (E1.oL q D.cl D.fin D.tr))).length<=2:=zl _;omega
 unfold vM;by_cases h0:(E1.mi D.n D.sA D.sB D.cl D.fin D.tr).2=0
 ·rw[zj h0];revert h0;unfold E1.mi;by_cases h1:T.az D.n D.cl D.fin D.tr=false
  ·rw[zj h1];exact λ_=>⟨Xx _,Xx _⟩
  ·rw[zi h1];by_cases h2:2147483647<E1.uk D.n D.sA D.sB
   ·rw[zj h2];exact λ_=>⟨Xx _,Xx _⟩
   ·rw[zi h2];intro _;by_cases h3:E1.kL D.n D.sA D.sB=true
    ·rw[zj h3];exact⟨ha,hl _⟩
    ·rw[zi h3];exact⟨hl _,hb⟩
 ·rw[zi h0];exact⟨ha,hb⟩
theorem PD.Ok.sav(h:D.Ok N):(qK D).Ok N:=by have hl:=Y5 (by have:=h.v.2.2.1;omega) h.a h.b;exact⟨h.kind,h.md,h.v,hl.1,hl.2,h.ca,h.n64⟩
theorem PD.Ok.flush(h:D.Ok N){N':Nat}(hm:(kM D.M D.ca).1.Ok N'):({D with M:=(kM D.M D.ca).1,ca:=[] }:PD).Ok N':=⟨h.kind,hm,h.v,h.a,h.b,λx hx=>(by cases hx),Xx _⟩
theorem PD.Ok.zA(h:D.Ok N){cl:Int}{fin:Bool}{l:List T.ax}(hv:T.aK D.n cl fin l):(D.zA cl fin l).Ok N:=⟨h.kind,h.md,hv,h.a,h.b,h.ca,h.n64⟩
theorem PD.Ok.syn(h:D.Ok N){N':Nat}(hm:(vO D).M.Ok N'):(vO D).Ok N':=(h.flush (N':=N') hm).sav
theorem PD.Ok.chg(h:D.Ok N){N':Nat}(hm:(vO D).M.Ok N'){cl:Int}{fin:Bool}{l:List T.ax}(hv:T.aK D.n cl fin l):(ZI D cl fin l).Ok N':=((h.syn hm).zA hv).sav
end
theorem Za{cap cl cl':Int}{fin fin':Bool}{l l':List T.ax}(hv:T.aK cap cl fin l)(h:T.Step cap cl fin l cl' fin' l'):l'≠[]:=by
 have hl:∀{l:List T.ax}{i:Nat},i<l.length->l≠[]:=λh e=>by subst e;exact absurd h (Nat.not_lt_zero _)
 rcases h with ⟨h0,rfl,rfl,c,pk,h1,h2,h3,h4,rfl⟩|⟨rfl,rfl,k,c,h1,h2,h3,h4,rfl⟩|⟨rfl,rfl,k,h1,h2,h3,rfl⟩|⟨h0,rfl,rfl,h1,i,h2,h3⟩|⟨h0,rfl,rfl,rfl,h1,h2,h3⟩
 ·simp
 ·exact hl (i:=k) (by simpa using h1)
 ·exact hl (i:=k) (by simpa using h1)
 ·exact hl h2
 ·rintro rfl;have:=hv.2.2.2.2.2.2.1;have:=hv.2.2.2.1;simp at *;omega
noncomputable def Qv(K:Int->Int)(r:je)(D:PD):Rp×PD:=if r.code=0 then(zy D,ZI D r.cl r.fin r.l) else(Rp.sense (K r.code) 0,D)
structure OpG (D:PD) (r:je) (K:Int->Int) (f:Int->Option Value):Prop where
 st:r.code=0->T.Step D.n D.cl D.fin D.tr r.cl r.fin r.l
 key:r.code≠0->f r.code=some (.int .i64 (K r.code))
 lo:-9223372036854775808<=r.code
 hi:r.code<=9223372036854775807
theorem ack{w w0:World}{p pm N:Nat}{D:PD}{vt vc:Value}{E:World->Prop}{EX Xm Rm X0 R0:Nat->Prop}(h:iY w p D pm none vt vc E EX Xm Rm)(hc:Ch X0 R0 (DX p vc EX Xm) (DR vt Rm) w0 w)(ho:D.Ok N)(hN:N<=4611686018427380000)
 (r:je)(K:Int->Int){f:Int->Option Value}(hg:OpG D r K f){b n:Nat}(hm:MF 66 w b n f){n0:Nat}{v:Value}(hv:sO w n0 v r.l)(hn:w0.heap.size<=n0)(hlo:∀b,DX p vc EX Xm b\/DR vt Rm b->b<n0):
 Calls prog 157 #[.pointer (some ⟨p,0,none⟩),aN r.cl r.fin v,.int .i64 r.code,.map (some b)] w (zW w0 X0 R0 p pm none E EX (N+64) (Qv K r D).1 (Qv K r D).2):=by
 unfold Qv;by_cases h0:r.code=0
 ·have hs:=hg.st h0;have hv':=hs.valid ho.v;rw[zj h0,h0];have hsl:=Y5 (D:={D with M:=(kM D.M D.ca).1,ca:=[]}) (show D.tr.length<=900 by have:=ho.v.2.2.1;omega) ho.a ho.b;exact ZH h hc ho.kind ho.fit hN r.cl r.fin v r.l ⟨hv.1,UY hv.1 (Za ho.v hs),λk hk hx=>by have:=hlo k (.inl hx);have:=hv.2 k hk;omega⟩ (λk hk=>.inr (by have:=hv.2 k hk;omega)) (Dh hv').1 (Dh hv').2 hsl _
 ·rw[zi h0];exact(SN h hc ho.kind ho.md r.cl r.fin v h0 hg.lo hg.hi hm (hg.key h0)).mono λe w' ⟨vt,vc,X2,R2,h1,h2,h3,h4⟩=>⟨vt,vc,X2,R2,h1,h2,h3,h4.mono (by omega)⟩
def VZ(p n0 n b3:Nat)(cl:Int)(fin:Bool)(vt:Value)(aj cnt bP pk:Int)(r:je)(i:Nat)(v:Value)(d:Nat->Value)(W:World):Prop:=match i with
 |0=>v=.pointer (some ⟨p,0,none⟩)
 |1=>v=.pointer (some ⟨p,0,none⟩)
 |2=>v=.pointer (some ⟨p,1,none⟩)
 |3=>v=.int .i64 n
 |4=>v=.pointer (some ⟨p,0,none⟩)
 |5=>v=.pointer (some ⟨p,0,none⟩)
 |6=>v=.pointer (some ⟨p,4,none⟩)
 |7=>v=.agg #[.int .i64 cl,.bool fin,vt]
 |8=>v=.pointer (some ⟨b3,2,none⟩)
 |9=>v=.int .i64 cnt
 |10=>v=.pointer (some ⟨b3,4,none⟩)
 |11=>v=.int .i64 pk
 |12=>∃v':Value,v=.tuple #[aN r.cl r.fin v',.int .i64 r.code]/\sO W n0 v' r.l
 |13=>∃v':Value,v=.tuple #[aN r.cl r.fin v',.int .i64 r.code]/\sO W n0 v' r.l
 |14=>∃v':Value,v=aN r.cl r.fin v'/\sO W n0 v' r.l
 |15=>v=.int .i64 r.code
 |16=>∃g,v=.pointer (some ⟨g,0,none⟩)/\n0<=g/\∃cs:List Value,cs.length=3/\Bx W g 37 cs
 |17=>∃g,d 16=.pointer (some ⟨g,0,none⟩)/\n0<=g/\∃cs:List Value,cs.length=3/\Bx W g 37 cs/\(λW cs=>∃v':Value,cs = [.int .i64 r.cl,.bool r.fin,v']/\sO W n0 v' r.l) W cs
 |18=>v=.int .i64 r.code
 |_=>True
theorem TA(p n0 n b3:Nat)(cl:Int)(fin:Bool)(vt:Value)(aj cnt bP pk:Int)(r:je)(i:Nat)(v:Value)(d:Nat->Value)(W W':World)(hR:(aU n0 37 3 (λW cs=>∃v':Value,cs = [.int .i64 r.cl,.bool r.fin,v']/\sO W n0 v' r.l)) W W')(h:VZ p n0 n b3 cl fin vt aj cnt bP pk r i v d W):VZ p n0 n b3 cl fin vt aj cnt bP pk r i v d W':=by
 by_cases h12:i=12
 ·subst h12;obtain⟨v',h1,h2⟩:=h;exact⟨v',h1,aU.kD hR (by decide) h2.1,h2.2⟩
 by_cases h13:i=13
 ·subst h13;obtain⟨v',h1,h2⟩:=h;exact⟨v',h1,aU.kD hR (by decide) h2.1,h2.2⟩
 by_cases h14:i=14
 ·subst h14;obtain⟨v',h1,h2⟩:=h;exact⟨v',h1,aU.kD hR (by decide) h2.1,h2.2⟩
 by_cases h16:i=16
 ·subst h16;obtain⟨g,h1,h2,h3⟩:=h;exact⟨g,h1,h2,aU.some hR h3⟩
 by_cases h17:i=17
 ·subst h17;obtain⟨g,h1,h2,h3⟩:=h;exact⟨g,h1,h2,aU.full hR (λcs h=>(by obtain⟨v',h1,h2⟩:=h;exact⟨v',h1,aU.kD hR (by decide) h2.1,h2.2⟩)) h3⟩
 unfold VZ at h ⊢;split at h <;> first|exact h|exact absurd rfl h12|exact absurd rfl h13|exact absurd rfl h14|exact absurd rfl h16|exact absurd rfl h17
theorem ajn{w w0:World}{p pm N:Nat}{D:PD}{vt vc:Value}{E:World->Prop}{EX Xm Rm X0 R0:Nat->Prop}(h:iY w p D pm none vt vc E EX Xm Rm)(hc:Ch X0 R0 (DX p vc EX Xm) (DR vt Rm) w0 w)(ho:D.Ok N)(hN:N<=4611686018427380000)
 (k aj cnt bP pk:Int)(hi:i64 cnt)(a5:Option Addr)(n5 c5:Nat)(K:Int->Int)(r:je)(hr:r=bZ D.n D.cl D.fin D.tr cnt pk)(hg:OpG D r K (qG (qG (qG (qG (λ_=>none) 15 (.int .i64 5)) 1 (.int .i64 4)) 7 (.int .i64 7)) 12 (.int .i64 7))):
 Calls prog 79 #[.pointer (some ⟨p,0,none⟩),jk k aj cnt bP pk (.slice a5 n5 c5)] w (zW w0 X0 R0 p pm none E EX (N+64) (Qv K r D).1 (Qv K r D).2):=by
 obtain⟨w1,hw1⟩:∃w1,w1=(w.alloc (.cells #[.int .i64 k,.int .i64 aj,.int .i64 cnt,.int .i64 bP,.int .i64 pk,.slice a5 n5 c5] 49)).alloc (.cells aX.toArray 58):=⟨_,rfl⟩;obtain⟨b3,hb3⟩:∃b,b=w.heap.size:=⟨_,rfl⟩;obtain⟨b4,hb4⟩:∃b,b=w.heap.size+1:=⟨_,rfl⟩;have hA1:=(zB w.heap.size w).alloc (zl _) (.cells #[.int .i64 k,.int .i64 aj,.int .i64 cnt,.int .i64 bP,.int .i64 pk,.slice a5 n5 c5] 49);have hA:=hA1.alloc hA1.size (.cells aX.toArray 58);have ig:Bx ((w.alloc (.cells #[.int .i64 k,.int .i64 aj,.int .i64 cnt,.int .i64 bP,.int .i64 pk,.slice a5 n5 c5] 49)).alloc (.cells aX.toArray 58)) w.heap.size 49 [.int .i64 k,.int .i64 aj,.int .i64 cnt,.int .i64 bP,.int .i64 pk,.slice a5 n5 c5]:=(Bx.new w 49 [.int .i64 k,.int .i64 aj,.int .i64 cnt,.int .i64 bP,.int .i64 pk,.slice a5 n5 c5]).alloc _;have hbx:=Bx.new (w.alloc (.cells #[.int .i64 k,.int .i64 aj,.int .i64 cnt,.int .i64 bP,.int .i64 pk,.slice a5 n5 c5] 49)) 58 aX;rw[<-hw1]at hA hbx ig;rw[Yl,<-hb4]at hbx;rw[<-hb3]at ig;have hd1:=h.below hA;have HT1:=zH (hc.trans (Ch.of hA));have HD1:=zH hd1;have Aa:=zH hbx;have Ib:=zH h.lo;obtain⟨n0,hn0⟩:∃n,n=w1.heap.size:=⟨_,rfl⟩;have xx:=zH hn0;have HB4:Hid (w.heap.size<=n0/\b4<n0/\w.heap.size<=b4/\w0.heap.size<=w.heap.size):=zH ⟨by rw[hn0];exact hA.size,by rw[hn0];exact hbx.lt,by omega,hc.size⟩;have HOP:Hid (∀W,Below n0 w1 W->Calls prog 156 #[.int .i64 D.n,.agg #[.int .i64 D.cl,.bool D.fin,vt],.int .i64 cnt,.int .i64 pk] W (OpF r W)):=zH λW hW=>by rw[hr];exact Nr D.n D.cl D.fin vt D.tr cnt pk W (bQ.keep hd1.tr (hW.mono (YF hn0.symm))) (qY ho.v) hi
 obtain⟨c0,c1,c2,c3,c4,Bf,c6,c7,c8,c9'⟩:=hd1.cells;have hpl:=hd1.box.lt;have rZ:Hid (∀W,Below n0 w1 W->W.cell? ⟨p,1,none⟩=some (.int .i64 D.n)/\W.cell? ⟨p,4,none⟩=some (.int .i64 D.cl)/\W.cell? ⟨p,5,none⟩=some (.bool D.fin)/\W.cell? ⟨p,6,none⟩=some vt/\W.cell? ⟨b3,0,none⟩=some (.int .i64 k)/\W.cell? ⟨b3,1,none⟩=some (.int .i64 aj)/\W.cell? ⟨b3,2,none⟩=some (.int .i64 cnt)/\W.cell? ⟨b3,3,none⟩=some (.int .i64 bP)/\W.cell? ⟨b3,4,none⟩=some (.int .i64 pk)):=zH λW hW=>by have hx:=ig.call (by rw[hn0]at hW;exact hW);exact⟨(hW.cell (p:=⟨p,1,none⟩) (by rw[hn0];exact hpl)).trans c1,(hW.cell (p:=⟨p,4,none⟩) (by rw[hn0];exact hpl)).trans c4,(hW.cell (p:=⟨p,5,none⟩) (by rw[hn0];exact hpl)).trans Bf,(hW.cell (p:=⟨p,6,none⟩) (by rw[hn0];exact hpl)).trans c6,hx.cell (i:=0) rfl,hx.cell (i:=1) rfl,hx.cell (i:=2) rfl,hx.cell (i:=3) rfl,hx.cell (i:=4) rfl⟩
 have HW1:Hid ((w.alloc (.cells #[.int .i64 k,.int .i64 aj,.int .i64 cnt,.int .i64 bP,.int .i64 pk,.slice a5 n5 c5] 49)).alloc (.cells #[.int .i64 0,.int .i64 0,.slice none 0 0,.int .i64 0,.bool false,.slice none 0 0] 58)=w1):=zH hw1.symm;have IX:=zH hb4;have HB3:=zH hb3;have HO:=zH ho;have HG:=zH hg;obtain⟨Z,hZ⟩:∃Z,Z=Qv K r D:=⟨_,rfl⟩;have HZ:=zH hZ.symm;rw[<-hZ];clear hZ;obtain⟨n,hn⟩:∃n,n=D.n:=⟨_,rfl⟩;obtain⟨cl,hcl⟩:∃n,n=D.cl:=⟨_,rfl⟩;obtain⟨fin,hfin⟩:∃n,n=D.fin:=⟨_,rfl⟩;rw[<-hn,<-hcl,<-hfin]at rZ HOP;clear hw1 hb3 hb4 hA1 hA hbx ig h hc ho hg hd1 hr c0 c1 c2 c3 c4 Bf c6 c7 c8 c9' hpl hn0 hn hcl hfin;unfold jk;go_enter func79,ntmps79;go_upto_region 1 with (fail)
 rw[HW1.out,<-IX.out,<-HB3.out];refine fO (by kernel_rfl) (aU n0 37 3 (λW cs=>∃v':Value,cs = [.int .i64 r.cl,.bool r.fin,v']/\sO W n0 v' r.l)) (λW=>Below n0 w1 W) (VZ p n0 n b3 cl fin vt aj cnt bP pk r) (λ_=>false) (by kernel_rfl) (λW W' hR h=>h.trans hR.1) (TA p n0 n b3 cl fin vt aj cnt bP pk r) ((zB _ _).drew) ⟨?_,?_,?_,?s3,?_,?_,?_,?s7,?_,?s9,?_,?s11,?s12,?s13,?s14,?s15,?s16,?s17,?_,trivial⟩ ?_;all_goals first
  | (intro a W hc hsz hold ah
     have o0:a.tmps.getD 0 undef=.pointer (some ⟨p,0,none⟩):=hold 0 (by kernel_rfl);have o3:a.tmps.getD 3 undef=.pointer (some ⟨b3,0,none⟩):=hold 3 (by kernel_rfl);try have d0:=zV 8 (.pointer (some ⟨p,0,none⟩)) (ah 0 rfl rfl _ rfl)
     try have d1:=zV 9 (.pointer (some ⟨p,0,none⟩)) (ah 1 rfl rfl _ rfl)
     try have d4:=zV 12 (.pointer (some ⟨p,0,none⟩)) (ah 4 rfl rfl _ rfl)
     try have d5:=zV 13 (.pointer (some ⟨p,0,none⟩)) (ah 5 rfl rfl _ rfl)
     try have d15:=zV 22 (.int .i64 r.code) (ah 15 rfl rfl _ rfl)
     clear hsz hold ah;refine ai rfl (ag rfl) ?_;refine ay aU.refl rfl λK hK=>?_
     go_simp;exact hK)
  |skip
 try case s3=>
  intro a W hc hsz hold ah;have d2:=zV 10 (.pointer (some ⟨p,1,none⟩)) (ah 2 rfl rfl _ rfl);obtain⟨q1,q4,q5,q6,z0,z1,z2,z3,z4⟩:=rZ.out W hc;clear hsz hold ah;refine ai rfl (ag rfl) ?_;refine ay (v:=.int .i64 n) aU.refl rfl λK hK=>?_
  go_simp;exact hK
 try case s7=>
  intro a W hc hsz hold ah;have d6:=zV 14 (.pointer (some ⟨p,4,none⟩)) (ah 6 rfl rfl _ rfl);obtain⟨q1,q4,q5,q6,z0,z1,z2,z3,z4⟩:=rZ.out W hc;clear hsz hold ah;refine ai rfl (ag rfl) ?_;refine ay (v:=.agg #[.int .i64 cl,.bool fin,vt]) aU.refl rfl λK hK=>?_
  go_simp;exact hK
 try case s9=>
  intro a W hc hsz hold ah;have d8:=zV 16 (.pointer (some ⟨b3,2,none⟩)) (ah 8 rfl rfl _ rfl);obtain⟨q1,q4,q5,q6,z0,z1,z2,z3,z4⟩:=rZ.out W hc;clear hsz hold ah;refine ai rfl (ag rfl) ?_;refine ay (v:=.int .i64 cnt) aU.refl rfl λK hK=>?_
  go_simp;exact hK
 try case s11=>
  intro a W hc hsz hold ah;have d10:=zV 18 (.pointer (some ⟨b3,4,none⟩)) (ah 10 rfl rfl _ rfl);obtain⟨q1,q4,q5,q6,z0,z1,z2,z3,z4⟩:=rZ.out W hc;clear hsz hold ah;refine ai rfl (ag rfl) ?_;refine ay (v:=.int .i64 pk) aU.refl rfl λK hK=>?_
  go_simp;exact hK
 try case s12=>
  intro a W hc hsz hold ah;have d3:=zV 11 (.int .i64 n) (ah 3 rfl rfl _ rfl);have e3:=zq d3;have d7:=zV 15 (.agg #[.int .i64 cl,.bool fin,vt]) (ah 7 rfl rfl _ rfl);have e7:=zq d7;have d9:=zV 17 (.int .i64 cnt) (ah 9 rfl rfl _ rfl);have e9:=zq d9;have d11:=zV 19 (.int .i64 pk) (ah 11 rfl rfl _ rfl);have e11:=zq d11;clear hsz hold ah;refine ai rfl (ag rfl) ?_;refine mZ λK hK=>?_
  go_simp;refine(HOP.out W hc).mono ?_;rintro e w' ⟨v',rfl,hF,hb'⟩;exact hK _ _ (aU.call (by rw[xx.out];exact hc.size) hb') ⟨v',rfl,hF.1,λk hk=>by have:=hF.2 k hk;have:=hc.size;have:=xx.out;omega⟩
 try case s13=>
  intro a W hc hsz hold ah;have x12:=ah 12 rfl rfl _ rfl;clear hsz hold ah;refine ai rfl (ag rfl) ?_;obtain⟨v',hv,hF⟩:=x12;replace hv:a.tmps.getD 20 undef=.tuple #[aN r.cl r.fin v',.int .i64 r.code]:=hv;have hw:=zq hv;unfold aN at hv hw;refine dA (v:=.tuple #[aN r.cl r.fin v',.int .i64 r.code]) aU.refl ⟨v',rfl,hF⟩ λK hK=>?_
  unfold aN at hK;go_simp;exact hK
 try case s14=>
  intro a W hc hsz hold ah;have x13:=ah 13 rfl rfl _ rfl;clear hsz hold ah;refine ai rfl (ag rfl) ?_;obtain⟨v',hv,hF⟩:=x13;replace hv:a.tmps.getD 7 undef=.tuple #[aN r.cl r.fin v',.int .i64 r.code]:=hv;have hw:=zq hv;unfold aN at hv hw;refine dA (v:=aN r.cl r.fin v') aU.refl ⟨v',rfl,hF⟩ λK hK=>?_
  unfold aN at hK;go_simp;exact hK
 try case s15=>
  intro a W hc hsz hold ah;have x13:=ah 13 rfl rfl _ rfl;clear hsz hold ah;refine ai rfl (ag rfl) ?_;obtain⟨v',hv,hF⟩:=x13;replace hv:a.tmps.getD 7 undef=.tuple #[aN r.cl r.fin v',.int .i64 r.code]:=hv;have hw:=zq hv;refine ay (v:=.int .i64 r.code) aU.refl rfl λK hK=>?_
  go_simp;exact hK
 try case s16=>
  intro a W hc hsz hold ah;clear hsz hold ah;refine ai rfl (ag rfl) ?_;refine dA (v:=.pointer (some ⟨W.heap.size,0,none⟩)) (aU.alloc (by rw[xx.out];exact hc.size) (.cells #[.int .i64 0,.bool false,.slice none 0 0] 37)) ⟨W.heap.size,rfl,(by rw[xx.out];exact hc.size),[.int .i64 0,.bool false,.slice none 0 0],rfl,Bx.new _ _ _⟩ λK hK=>?_
  go_simp;exact hK
 try case s17=>
  intro a W hc hsz hold ah;have x16:=ah 16 rfl rfl _ rfl;have x14:=ah 14 rfl rfl _ rfl;clear hsz hold ah;refine ai rfl (ag rfl) ?_;obtain⟨g,hg,hgB,cs,hl,hB⟩:=x16;replace hg:a.tmps.getD 5 undef=.pointer (some ⟨g,0,none⟩):=hg;have hlt:=hB.lt;have hf:=hB.free;have z0:∃v,W.cell? ⟨g,0,none⟩=some v:=⟨_,hB.cell (Ye (by rw[hl];decide))⟩;obtain⟨u0,z0⟩:=z0;have z1:∃v,W.cell? ⟨g,1,none⟩=some v:=⟨_,hB.cell (Ye (by rw[hl];decide))⟩;obtain⟨u1,z1⟩:=z1;have z2:∃v,W.cell? ⟨g,2,none⟩=some v:=⟨_,hB.cell (Ye (by rw[hl];decide))⟩;obtain⟨u2,z2⟩:=z2;obtain⟨v',hv,hF⟩:=x14;replace hv:a.tmps.getD 21 undef=aN r.cl r.fin v':=hv;obtain⟨a6,c6,rfl,_⟩:=dU.form hF.1;unfold aN at hv;have hP:=(⟨.slice a6 r.l.length c6,rfl,aU.kD (aU.store (Φ:=λ_ _=>True) (t:=37) (B:=n0) (m:=3) (cs0:=[.int .i64 r.cl,.bool r.fin,.slice a6 r.l.length c6]) hgB rfl ⟨cs,hl,hB⟩ trivial) (by decide) hF.1,hF.2⟩:∃v2:Value,[.int .i64 r.cl,.bool r.fin,.slice a6 r.l.length c6] = [.int .i64 r.cl,.bool r.fin,v2]/\sO (bK W g 0 [.int .i64 r.cl,.bool r.fin,.slice a6 r.l.length c6]) n0 v2 r.l);refine dA (v:=undef) (aU.store (cs0:=[.int .i64 r.cl,.bool r.fin,.slice a6 r.l.length c6]) hgB rfl ⟨cs,hl,hB⟩ hP) ⟨g,hg,hgB,[.int .i64 r.cl,.bool r.fin,.slice a6 r.l.length c6],rfl,hB.full hl,hP⟩ λK hK=>?_
  clear hB hl;go_simp;exact hK
 ·intro a W hC hd hsz hold hval;obtain⟨g,hg,hgB,cs,hcl,hcx,v',hcs,hF⟩:=hval 17 _ rfl rfl;have d5:a.tmps.getD 5 undef=.pointer (some ⟨g,0,none⟩):=hg;clear hg;subst hcs;have d6:a.tmps.getD 6 undef=.int .i64 r.code:=hval 18 _ rfl rfl;obtain⟨G,hG,ha⟩:=dK [5,6,7,8,9,10,11,12,13,14,15,16,17,18,19,20,21,22] (by kernel_rfl) hd hsz hold;simp only[hG]at d6 d5;rw[ha];clear ha hG hd hsz hold;simp only[cZ,Ym,List.set,d6,d5];clear d6 d5;have hC:Below n0 w1 W:=hC;obtain⟨a6,c6,rfl,ac2⟩:=dU.form hF.1;have m0:=MF.made 66 W;have hm0:=(zB W.heap.size W).alloc (zl _) (.map #[] 0);obtain⟨u1,r1,m1,g1⟩:=m0.ins underlying66 underlying258 (by omega) 15 (by omega) (by omega) (.int .i64 5);have hm1:=hm0.grown g1 hm0.size (λq hq=>YF (zs hq));clear g1;obtain⟨u2,r2,m2,g2⟩:=m1.ins underlying66 underlying258 (by omega) 1 (by omega) (by omega) (.int .i64 4);have hm2:=hm1.grown g2 hm1.size (λq hq=>YF (zs hq));clear g2;obtain⟨u3,r3,m3,g3⟩:=m2.ins underlying66 underlying258 (by omega) 7 (by omega) (by omega) (.int .i64 7);have Dk:=hm2.grown g3 hm2.size (λq hq=>YF (zs hq));clear g3;obtain⟨u4,r4,m4,g4⟩:=m3.ins underlying66 underlying258 (by omega) 12 (by omega) (by omega) (.int .i64 7);have hm4:=Dk.grown g4 Dk.size (λq hq=>YF (zs hq));clear g4;have xA:=hC.mono (YF xx.out.symm);have hB4:Below w1.heap.size w1 u4:=xA.trans (hm4.mono xA.size);have hd4:=HD1.out.below hB4;have HCH:=zH (ack hd4 (Ch.of (X:=DX p vc EX Xm) (R:=DR vt Rm) hB4) HO.out hN r K HG.out m4 (n0:=n0) (v:=.slice a6 r.l.length c6) (sO.below hF hm4) (YF xx.out.symm) (λb hb=>by have:=Ib.out b hb;have:=HB4.out.1;omega));rw[HZ.out]at HCH;unfold aN at HCH;have g0:=hcx.cell (i:=0) rfl;have g1:=hcx.cell (i:=1) rfl;have g2:=hcx.cell (i:=2) rfl;have hmm:=@run_makeMap prog;clear hcx hF ac2 hC xA hB4 hd4 m4 hm4 hval;go_wp2_with fail;refine HCH.out.mono ?_;rintro e w7 ⟨vt7,vc7,X7,R7,rfl,hd7,LW,amb⟩;unfold jg;have a8:=qR LW (by have:=HB4.out.2.1;have:=xx.out;omega) (b:=b4) (λb hb=>by have:=Ib.out b hb;have:=HB4.out.2.2.1;omega);have hx7:Bx w7 b4 58 aX:=a8.2.trans Aa.out;have HD7:=zH hd7;have zO:=zH (HT1.out.trans LW);have Zp:=zH a8.1;have vG:=zH amb;unfold aX at hx7;have t0:=hx7.cell (i:=0) rfl;have t1:=hx7.cell (i:=1) rfl;have t2:=hx7.cell (i:=2) rfl;have t3:=hx7.cell (i:=3) rfl;have t4:=hx7.cell (i:=4) rfl;have t5:=hx7.cell (i:=5) rfl;have tf:=λi=>hx7.free i
  clear hd7 LW hx7 a8 amb;go_wp2_with fail;exact zr (v:=jg Z.1 (.slice none 0 0) (.slice none 0 0)) (by simp[results,results79,go_sem,jg,t0,t1,t2,t3,t4,t5]) rfl ⟨vt7,vc7,X7,R7,rfl,ji HD7.out Zp.out _ _ _ _ _ _,lX zO.out (by have:=HB4.out.2.2;omega) _ _ _ _ _ _,vG.out⟩
theorem Dv{α:Type}{d:α}{D:α->List Value}{sz:Nat}{w w':World}{v:Value}{l:List α}(h:dB d D sz w v l)(hk:∀k,v.ownBlock=some k->w'.heap[k]? = w.heap[k]?):dB d D sz w' v l:=by obtain⟨a,c,b,off,rfl,hac,hcell⟩:=h;refine⟨a,c,b,off,rfl,hac,λi hi=>?_⟩;obtain⟨rfl,hr⟩:=hcell i hi;refine⟨rfl,λj u hu=>?_⟩;have h1:=hr j u hu;have h2:=hk b rfl;simp only[World.cell?]at h1 ⊢;rw[h2];exact h1
theorem yL{w w':World}{base e sz n:Nat}{v:Value}{xs:List Value}(h:w.ownsRow base e sz v n xs)(hk:∀k,v.ownBlock=some k->w'.heap[k]? = w.heap[k]?):w'.ownsRow base e sz v n xs:=by
 refine⟨h.1,?_⟩;rcases h.2 with h1|⟨g,cap,cur,rfl,hb,hh,rest⟩
 ·exact .inl h1
 ·exact .inr ⟨g,cap,cur,rfl,hb,(hk g rfl).trans hh,rest⟩
section
variable {w w' w0:World} {p pm:Nat} {D:PD} {df:Option Addr} {vt vc v':Value} {E:World->Prop} {EX Xm Rm X0 R0:Nat->Prop} {l':List (Int×List UInt8)}
theorem iY.grow(h:iY w p D pm df vt vc E EX Xm Rm)(hg:w.grownBy w' vc.ownBlock)(ho:w'.ownsRow 0 131 2 v' l'.length (fH Bg l'))(hv:∀k,v'.ownBlock=some k->vc.ownBlock=some k\/w.heap.size<=k):
 iY (w'.setCell ⟨p,9,none⟩ v') p {D with ca:=l' } pm df vt v' E EX Xm Rm:=by
 obtain⟨L,hm⟩:=h.med;have hlo:=h.lo;have hsz:(w'.setCell ⟨p,9,none⟩ v').heap.size=w'.heap.size:=(fB.refl p w').set 9 v' |>.size
 have hk:∀k,k<w.heap.size->k≠p->vc.ownBlock≠some k->(w'.setCell ⟨p,9,none⟩ v').heap[k]? = w.heap[k]?:=λk h1 h2 h3=>(((fB.refl p w').set 9 v').block k h2).trans (hg.block k h1 (Vb h3))
 have hp:=h.box.lt;have hpc:vc.ownBlock≠some p:=λe=>h.ap.c1 p e rfl
 have hbx:Bx (w'.setCell ⟨p,9,none⟩ v') p 101 (kG D.kind D.n pm df D.cl D.fin vt (str D.sA) (str D.sB) v'):=(show Bx w' p 101 _ from(hg.block p hp (Vb hpc)).trans h.box).set 9 v';have hle:w.heap.size<=(w'.setCell ⟨p,9,none⟩ v').heap.size:=by rw[hsz];exact hg.size
 refine⟨hbx,⟨L,hm.keep hle λb hb=>hk b (hm.lt b hb) (λe=>by subst e;exact hb.elim h.ap.p1 h.ap.p2) (λe=>hb.elim (h.ap.c2 b e) (h.ap.c3 b e))⟩,jZ h.tr λk hb=>hk k (h.tl k hb) (h.ap.t1 k hb) (h.ap.t4 k hb),λk hb=>zL (h.tl k hb) hle,yL ho λk hb=>((fB.refl p w').set 9 v').block k λe=>?_,λw2 h2=>h.ex w2 λb hb=>(h2 b hb).trans (hk b (h.el b hb) (λe=>h.ap.p3 (e ▸ hb)) (λe=>h.ap.c4 b e hb)),λb hb=>zL (h.el b hb) hle,
  ⟨h.ap.p1,h.ap.p2,h.ap.p3,h.ap.e1,h.ap.e2,h.ap.t1,h.ap.t2,h.ap.t3,λk hb e=>?_,λk hb=>?_,λk hb hx=>?_,λk hb hx=>?_,λk hb hx=>?_⟩⟩
 ·subst e;rcases hv _ hb with h1|h1
  ·exact hpc h1
  ·omega
 ·rcases hv _ e with h1|h1
  ·exact h.ap.t4 k hb h1
  ·have:=h.tl k hb;omega
 ·rintro rfl;rcases hv _ hb with h1|h1
  ·exact hpc h1
  ·omega
 ·rcases hv _ hb with h1|h1
  ·exact h.ap.c2 k h1 hx
  ·have:=hm.lt k (.inl hx);omega
 ·rcases hv _ hb with h1|h1
  ·exact h.ap.c3 k h1 hx
  ·have:=hm.lt k (.inr hx);omega
 ·rcases hv _ hb with h1|h1
  ·exact h.ap.c4 k h1 hx
  ·have:=h.el k hx;omega
theorem Ch.grow(hc:Ch X0 R0 (DX p vc EX Xm) (DR vt Rm) w0 w)(hg:w.grownBy w' vc.ownBlock)(hv:∀k,v'.ownBlock=some k->vc.ownBlock=some k\/w.heap.size<=k):Ch X0 R0 (DX p v' EX Xm) (DR vt Rm) w0 (w'.setCell ⟨p,9,none⟩ v'):=by
 have ho:=(fB.refl p w').set 9 v';refine⟨ho.os.trans (hg.os.trans hc.os),ho.tape.trans (hg.tape.trans hc.tape),ho.output.trans (hg.output.trans hc.output),by rw[ho.size];exact zT hc.size hg.size,λb hb hx=>?_,λb hb=>?_,hc.r⟩
 ·have h1:b≠p:=by rintro rfl;exact(hc.x b (.inl rfl)).elim hx (λh3=>by omega)
  refine(ho.block b h1).trans ((hg.block b (zL hb hc.size) λe=>?_).trans (hc.block b hb hx));exact(hc.x b (.inr (.inr (.inr e.symm)))).elim hx (λh3=>by omega)
 ·rcases hb with hb|hb|hb|hb
  ·exact hc.x b (.inl hb)
  ·exact hc.x b (.inr (.inl hb))
  ·exact hc.x b (.inr (.inr (.inl hb)))
  ·rcases hv b hb with h1|h1
   ·exact hc.x b (.inr (.inr (.inr h1)))
   ·exact .inr (zT hc.size h1)
end
def rps(r:Rp):List Value:=[.int .i64 r.key,.int .i64 r.aj,.slice none 0 0,.int .i64 r.cl,.bool r.fin,.slice none 0 0]
structure DU (w0:World) (X0 R0:Nat->Prop) (p pm:Nat) (E:World->Prop) (EX:Nat->Prop) (vt v5 v6:Value) (L:List (List UInt8)) (l':List T.ax) (b3 b4 b6 b9:Nat) (c3 c6:List Value) (rr:Rp) (D:PD) (N:Nat) (W:World):Prop where
 ex:∃vc X R,iY W p D pm none vt vc E EX X R/\Ch X0 R0 (DX p vc EX X) (DR vt R) w0 W/\(∀k,DX p vc EX X k\/DR vt R k->k≠b3/\k≠b4/\k≠b6/\k≠b9)/\Held W v6 l' (DX p vc EX X)/\∀k,v5.ownBlock=some k->k<W.heap.size/\¬ DX p vc EX X k
 x3:Bx W b3 49 c3
 x4:Bx W b4 58 aX
 x6:Bx W b6 37 c6
 x9:Bx W b9 58 (rps rr)
 l:fQ W v5 L
 ok:D.M.Ok N
section
variable {w0:World} {X0 R0:Nat->Prop} {p pm:Nat} {E:World->Prop} {EX:Nat->Prop} {vt v5 v6:Value} {L:List (List UInt8)} {l':List T.ax} {b3 b4 b6 b9:Nat} {c3 c6:List Value} {rr:Rp} {D:PD} {N:Nat} {W:World}
theorem DU.move{D2:PD}{N2:Nat}{W2:World}(h:DU w0 X0 R0 p pm E EX vt v5 v6 L l' b3 b4 b6 b9 c3 c6 rr D N W){vc vc2:Value}{X R X2 R2:Nat->Prop}(hT:Ch X0 R0 (DX p vc EX X) (DR vt R) w0 W)(haw:∀k,DX p vc EX X k\/DR vt R k->k≠b3/\k≠b4/\k≠b6/\k≠b9)(XT:Held W v6 l' (DX p vc EX X))(h5:∀k,v5.ownBlock=some k->k<W.heap.size/\¬ DX p vc EX X k)
 (hd:iY W2 p D2 pm none vt vc2 E EX X2 R2)(hc:Ch (DX p vc EX X) (DR vt R) (DX p vc2 EX X2) (DR vt R2) W W2)(ok:D2.M.Ok N2):DU w0 X0 R0 p pm E EX vt v5 v6 L l' b3 b4 b6 b9 c3 c6 rr D2 N2 W2:=by
 have hb:=λb (hb:b<W.heap.size) (hn:¬ DX p vc EX X b)=>hc.block b hb hn
 refine⟨⟨vc2,X2,R2,hd,hT.trans hc,?_,XT.keep hc,λk hk=>?_⟩,?_,?_,?_,?_,?_,ok⟩
 ·intro k hk;have hold:(DX p vc EX X k\/DR vt R k)\/W.heap.size<=k:=by
   rcases hk with hk|hk
   ·exact(hc.x k hk).imp .inl id
   ·exact(hc.r k hk).imp .inr id
  rcases hold with h1|h1
  ·exact haw k h1
  ·have:=h.x3.lt;have:=h.x4.lt;have:=h.x6.lt;have:=h.x9.lt;refine⟨?_,?_,?_,?_⟩ <;> omega
 ·have:=h5 k hk;exact⟨zL this.1 hc.size,λhx=>(hc.x k hx).elim this.2 (λh3=>by omega)⟩
 ·exact(hb b3 h.x3.lt λhx=>(haw b3 (.inl hx)).1 rfl).trans h.x3
 ·exact(hb b4 h.x4.lt λhx=>(haw b4 (.inl hx)).2.1 rfl).trans h.x4
 ·exact(hb b6 h.x6.lt λhx=>(haw b6 (.inl hx)).2.2.1 rfl).trans h.x6
 ·exact(hb b9 h.x9.lt λhx=>(haw b9 (.inl hx)).2.2.2 rfl).trans h.x9
 ·exact Dv h.l λk hk=>hb k (h5 k hk).1 (h5 k hk).2
theorem DU.below{W2:World}(h:DU w0 X0 R0 p pm E EX vt v5 v6 L l' b3 b4 b6 b9 c3 c6 rr D N W)(hb:Below W.heap.size W W2):DU w0 X0 R0 p pm E EX vt v5 v6 L l' b3 b4 b6 b9 c3 c6 rr D N W2:=by obtain⟨vc,X,R,hd,hT,haw,XT,h5⟩:=h.ex;exact h.move hT haw XT h5 (hd.below hb) (Ch.of hb) h.ok
theorem DU.nil(h:DU w0 X0 R0 p pm E EX vt v5 v6 L l' b3 b4 b6 b9 c3 c6 rr D N W):DU w0 X0 R0 p pm E EX vt v5 v6 L l' b3 b4 b6 b9 c3 c6 rr {D with ca:=[]} N (W.setCell ⟨p,9,none⟩ (.slice none 0 0)):=by obtain⟨vc,X,R,hd,hT,haw,XT,h5⟩:=h.ex;have hk:=(fB.refl p W).set 9 (.slice none 0 0);have hd5:iY (W.setCell ⟨p,9,none⟩ (.slice none 0 0)) p {D with ca:=[]} pm none vt (.slice none 0 0) E EX X R:=hd.put hk (hd.box.set 9 _) rfl hd.tr hd.tl ⟨rfl,.inl ⟨rfl,rfl⟩⟩ ⟨hd.ap.p1,hd.ap.p2,hd.ap.p3,hd.ap.e1,hd.ap.e2,hd.ap.t1,hd.ap.t2,hd.ap.t3,λk _ h=>(by cases h),λk h=>(by cases h),λk h=>(by cases h),λk h=>(by cases h),λk h=>by cases h⟩;exact h.move (D2:={D with ca:=[]}) hT haw XT h5 hd5 (Ch.put (vt':=vt) (vc':=.slice none 0 0) Ch.refl hk (λk h=>by cases h) (λk hk=>.inl (.inr hk))) h.ok
theorem DU.rep(h:DU w0 X0 R0 p pm E EX vt v5 v6 L l' b3 b4 b6 b9 c3 c6 rr D N W)(h0:w0.heap.size<=b9)(h1:b3≠b9)(h2:b4≠b9)(h3:b6≠b9)(h6:∀k,v6.ownBlock=some k->k≠b9)(h7:∀k,v5.ownBlock=some k->k≠b9)(r2:Rp):
 DU w0 X0 R0 p pm E EX vt v5 v6 L l' b3 b4 b6 b9 c3 c6 r2 D N (W6 W b9 (.int .i64 r2.key) (.int .i64 r2.aj) (.slice none 0 0) (.int .i64 r2.cl) (.bool r2.fin) (.slice none 0 0)):=by
 obtain⟨vc,X,R,hd,hT,haw,XT,h5⟩:=h.ex;have hk:=λk (hk:k≠b9)=>rY W b9 k (.int .i64 r2.key) (.int .i64 r2.aj) (.slice none 0 0) (.int .i64 r2.cl) (.bool r2.fin) (.slice none 0 0) hk
 exact⟨⟨vc,X,R,ji hd (λk hk=>(haw k hk).2.2.2) _ _ _ _ _ _,lX hT h0 _ _ _ _ _ _,haw,⟨jZ XT.rd λk hv=>hk k (h6 k hv),λk hv=>by have:=XT.lt k hv;simpa using this,XT.ap⟩,λk hv=>by have:=h5 k hv;simpa using this⟩,(hk b3 h1).trans h.x3,(hk b4 h2).trans h.x4,(hk b6 h3).trans h.x6,amT h.x9 _ _ _ _ _ _,Dv h.l λk hv=>hk k (h7 k hv),h.ok⟩
theorem DU.flush(h:DU w0 X0 R0 p pm E EX vt v5 v6 L l' b3 b4 b6 b9 c3 c6 rr D N W)(hN:N+D.ca.length<=4611686018427387904)(hl:D.ca.length<=1000000)(hx:∀x∈D.ca,Zl x):
 ∃a9 k9,W.cell? ⟨p,9,none⟩=some (.slice a9 D.ca.length k9)/\Calls prog 155 #[.pointer (some ⟨p,0,none⟩),.slice a9 D.ca.length k9] W λe w'=>e=.returned (.tuple #[.int .i64 (kM D.M D.ca).2.1,.bool (kM D.M D.ca).2.2])/\DU w0 X0 R0 p pm E EX vt v5 v6 L l' b3 b4 b6 b9 c3 c6 rr {D with M:=(kM D.M D.ca).1} (N+D.ca.length) w':=by
 obtain⟨vc,X,R,hd,hT,haw,XT,h5⟩:=h.ex;obtain⟨a9,k9,rfl⟩:=aS hd.ca;refine⟨a9,k9,hd.box.cell (i:=9) rfl,(LJ hd (Ch.refl (X:=DX p (.slice a9 D.ca.length k9) EX X) (R:=DR vt R)) h.ok (.slice a9 D.ca.length k9) D.ca hN hl (λW hW=>dB.bg xP hW) hx).mono ?_⟩;rintro e w' ⟨X2,R2,rfl,hd2,hc2,hok⟩;exact⟨rfl,h.move (D2:={D with M:=(kM D.M D.ca).1}) hT haw XT h5 hd2 hc2 hok⟩
theorem DU.push(h:DU w0 X0 R0 p pm E EX vt v5 v6 L l' b3 b4 b6 b9 c3 c6 rr D N W)(x:Int×List UInt8)(hn:D.ca.length<=1000)(ty:TypeId):
 ∃vc v' w2,W.cell? ⟨p,9,none⟩=some vc/\(W.drew.alloc (.cells (Bg x).toArray 131)).cell? ⟨p,9,none⟩=some vc/\w2.cell? ⟨p,9,none⟩=some vc/\p<w2.heap.size/\w2.frozen? ⟨p,9,none⟩=false/\
   (Builtin.append_ #[99,99] ty #[vc,.slice (some ⟨W.heap.size,0,none⟩) 1 1]).run prog (W.drew.alloc (.cells (Bg x).toArray 131))=.ok v' w2/\(∃a n c,v'=.slice a n c)/\
   DU w0 X0 R0 p pm E EX vt v5 v6 L l' b3 b4 b6 b9 c3 c6 rr {D with ca:=D.ca++[x]} N (w2.setCell ⟨p,9,none⟩ v'):=by
 obtain⟨vc,X,R,hd,hc,haw,XT,h5⟩:=h.ex;have hA:=((zB W.heap.size W).drew).alloc (show W.heap.size<=W.drew.heap.size from zl _) (.cells (Bg x).toArray 131);have hd1:=hd.below hA;have hc1:=hc.trans (Ch.of hA);obtain⟨i0,hi0,hz0,hz1,hz2⟩:=info_parts (show(prog.info? 131).map (λi=>(i.zero,i.size,i.bytes))=some (some (.agg #[.int .i64 0,.string ⟨#[]⟩]),2,24) by kernel_rfl);have hnew:(W.drew.alloc (.cells (Bg x).toArray 131)).heap[W.heap.size]? = some (.cells (Bg x).toArray 131):=Xl W.drew _;have hbn:Bx (W.drew.alloc (.cells (Bg x).toArray 131)) W.heap.size 131 (Bg x):=hnew;obtain⟨v',w2,hrun,r1,r2,r3,r4⟩:=run_append_own_at (P:=prog) (W.drew.alloc (.cells (Bg x).toArray 131)) 0 99 ty 131 i0 (.agg #[.int .i64 0,.string ⟨#[]⟩]) 2 24 underlying99 hi0 hz0 hz1 hz2 rfl (by decide) vc D.ca.length (fH Bg D.ca) hd1.ca ⟨W.heap.size,0,none⟩ 1 1 (Bg x) rfl
  (λj u hu=>by rcases j with _|j <;> simpa[Addr.add]using hbn.cell hu) (afH x) (by unfold maxLen;omega) (by omega) (Xx _)
 have hsz:(W.drew.alloc (.cells (Bg x).toArray 131)).heap.size=W.heap.size+1:=by simp
 have hv:∀k,v'.ownBlock=some k->vc.ownBlock=some k\/(W.drew.alloc (.cells (Bg x).toArray 131)).heap.size<=k:=λk hk=>by
  rcases r4 with h4|h4
  ·rw[h4]at hk;exact .inl hk
  ·rw[h4]at hk;exact .inr (YF (zs hk))
 have hpb:w2.heap[p]? = (W.drew.alloc (.cells (Bg x).toArray 131)).heap[p]?:=r2.block p hd1.box.lt λe=>hd1.ap.c1 p e.symm rfl
 have hbx2:Bx w2 p 101 (kG D.kind D.n pm none D.cl D.fin vt (str D.sA) (str D.sB) vc):=hpb.trans hd1.box;have hdg:=hd1.grow (l':=D.ca++[x]) r2 (by rw[nM,EE,Yb];exact r1) hv;have hcW:Ch (DX p vc EX X) (DR vt R) (DX p v' EX X) (DR vt R) W (w2.setCell ⟨p,9,none⟩ v'):=Ch.grow (Ch.of hA) r2 hv;exact⟨vc,v',w2,hd.box.cell (i:=9) rfl,hd1.box.cell (i:=9) rfl,hbx2.cell (i:=9) rfl,hbx2.lt,hbx2.free 9,hrun,(r1.2.elim (λh1=>⟨_,_,_,h1.1⟩) (λ⟨_,_,_,h1,_⟩=>⟨_,_,_,h1⟩)),h.move (D2:={D with ca:=D.ca++[x]}) hc haw XT h5 hdg hcW h.ok⟩
end
end T7
end Go.Proofs.YtfnehkmhcmkhjaaGreat
