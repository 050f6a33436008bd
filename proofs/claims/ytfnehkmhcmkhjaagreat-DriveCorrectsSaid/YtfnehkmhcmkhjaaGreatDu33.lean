/- Parts -/
import Derived.Test.YtfnehkmhcmkhjaaGreatDu31
set_option maxRecDepth 100000
set_option maxHeartbeats 8000000
set_option linter.unusedVariables false
namespace Go.Proofs.YtfnehkmhcmkhjaaGreat
open Tryz
namespace T7
open Go Go.RowKit C9 wu
theorem af2(x:List UInt8)(hx:x.length<=9223372036854775807)(W:World):Calls prog 151 #[.string (str x)] W λe w'=>e=.returned (.bool (nT 2048 x))/\W=w':=by have hsz:=au x;have hsz2:(str x).data.size=x.length:=hsz;unfold nT;generalize str x=s at *;generalize x.length=n at *;go_enter func151,ntmps151;go_wp2_with fail;go_ret;exact⟨iT (by by_cases h:n=2048 <;> simp[h] <;> omega),rfl⟩
def oJ(aj:Int)(L:List (List UInt8))(k:Nat):List (Int×List UInt8):=(List.range k).map λi=>(aj+(i:Nat),aJ [] L i)
theorem abJ(aj:Int)(L:List (List UInt8))(k:Nat):oJ aj L (k+1)=oJ aj L k++[(aj+(k:Nat),aJ [] L k)]:=by simp[oJ,Xf]
theorem Rq(aj:Int)(L:List (List UInt8))(k:Nat):(oJ aj L k).length=k:=by simp[oJ]
def VA(L:List (List UInt8)):Prop:=1<=L.length/\L.length<=64/\anyS (nT 2048) L=false
instance (L:List (List UInt8)):Decidable (VA L):=by unfold VA;infer_instance
noncomputable def GG(n:Nat)(D:PD):Rp×PD:=if 64<D.ca.length+n then(qZ (kM D.M D.ca).2.1 (kM D.M D.ca).2.2,{D with M:=(kM D.M D.ca).1,ca:=[]}) else(Rp.ok,D)
noncomputable def RI(aj:Int)(L:List (List UInt8))(r:je)(D:PD):Rp×PD:=
 if ¬ VA L then(Rp.sense 4 0,D) else if D.fin=true then(Rp.sense 5 0,D)
 else if r.code=0 then((GG L.length D).1,({(GG L.length D).2 with ca:=(GG L.length D).2.ca++oJ aj L L.length }:PD).zA r.cl r.fin r.l)
 else if r.code=2 then(Rp.sense 6 aj,D) else if r.code=12 then(Rp.sense 7 aj,D) else(Rp.sense 4 0,D)
section
variable {aj:Int} {L:List (List UInt8)} {r:je} {D:PD}
theorem aiz(h:¬ VA L):RI aj L r D=(Rp.sense 4 0,D):=by unfold RI;rw[zj h]
theorem aiy(h:VA L)(h1:D.fin=true):RI aj L r D=(Rp.sense 5 0,D):=by unfold RI;rw[zi (XE h),zj h1]
theorem Zj(h:VA L)(h1:D.fin=false):RI aj L r D=if r.code=0 then((GG L.length D).1,({(GG L.length D).2 with ca:=(GG L.length D).2.ca++oJ aj L L.length }:PD).zA r.cl r.fin r.l)
 else if r.code=2 then(Rp.sense 6 aj,D) else if r.code=12 then(Rp.sense 7 aj,D) else(Rp.sense 4 0,D):=by unfold RI;rw[zi (XE h),zi (by rw[h1];decide)]
end
theorem acA{w w2:World}{p pm b:Nat}{D:PD}{df:Option Addr}{vt vc:Value}{E:World->Prop}{EX Xm Rm:Nat->Prop}(h:iY w p D pm df vt vc E EX Xm Rm)(ho:fB b w w2)(hb:∀k,DX p vc EX Xm k\/DR vt Rm k->k≠b):iY w2 p D pm df vt vc E EX Xm Rm:=
 h.keep (YF ho.size.symm) λk hk=>ho.block k (hb k hk)
theorem afL{w0 w w2:World}{X0 R0 X R:Nat->Prop}{b:Nat}(h:Ch X0 R0 X R w0 w)(ho:fB b w w2)(hb:w0.heap.size<=b):Ch X0 R0 X R w0 w2:=
 ⟨ho.os.trans h.os,ho.tape.trans h.tape,ho.output.trans h.output,by rw[ho.size];exact h.size,λk hk hx=>(ho.block k (by omega)).trans (h.block k hk hx),h.x,h.r⟩
theorem Held.only{w w2:World}{v:Value}{l:List T.ax}{X:Nat->Prop}{b:Nat}(h:Held w v l X)(ho:fB b w w2)(hb:∀k,v.ownBlock=some k->k≠b):Held w2 v l X:=
 ⟨jZ h.rd λk hk=>ho.block k (hb k hk),λk hk=>by rw[ho.size];exact h.lt k hk,h.ap⟩
theorem abZ{cap cl:Int}{fin:Bool}{l:List T.ax}{aj n:Int}(hv:T.aK cap cl fin l)(h0:(aW cap cl fin l aj n).code=0):T.Step cap cl fin l (aW cap cl fin l aj n).cl (aW cap cl fin l aj n).fin (aW cap cl fin l aj n).l:=(lD hv 1 aj n false).ok h0
theorem ai9{cap cl:Int}{fin:Bool}{l:List T.ax}{aj n:Int}(hv:T.aK cap cl fin l)(h0:(aW cap cl fin l aj n).code=0)(e:(aW cap cl fin l aj n).l = []):False:=Za hv (abZ hv h0) e
theorem afA{cap cl:Int}{fin:Bool}{l:List T.ax}{aj:Int}{n:Nat}(hv:T.aK cap cl fin l)(h0:(aW cap cl fin l aj n).code=0):1<=n:=by obtain⟨k,hk,_,h2,h3,h4,_⟩:=(lD hv 1 aj n false).app h0 rfl;omega
theorem ai8{cap cl:Int}{fin:Bool}{l:List T.ax}{aj:Int}{n:Nat}(hv:T.aK cap cl fin l)(h0:(aW cap cl fin l aj n).code=0):0<=aj/\aj+(n:Int)<=449849:=by obtain⟨k,hk,_,h2,h3,h4,_⟩:=(lD hv 1 aj n false).app h0 rfl;have ha:=T.aK.at hv hk;have hn:=hv.2.1;omega
theorem wrl{aj:Int}{i m:Nat}(h:0<=aj/\aj+(m:Int)<=449849)(hi:i<m):wrap64 (aj+(i:Int))=aj+(i:Int):=by unfold wrap64;omega
theorem agT{a i m:Nat}(h1:a<=64)(h2:i<m)(h3:m<=64):a+i<=1000:=by omega
theorem amV{a m:Nat}(h1:a<=64)(h2:m<=64):wrap64 ((a:Int)+(m:Int))=(a:Int)+(m:Int):=by unfold wrap64;omega
theorem afI{a m:Nat}(h:64<a+m):(64:Int)<(a:Int)+(m:Int):=by omega
theorem acg{a m:Nat}(h:¬ 64<a+m):¬ (64:Int)<(a:Int)+(m:Int):=by omega
def wr3(wr wa w2 w3:World)(r:Nat)(W:World):Prop:=W=(match r with|0=>wr|1=>wa|2=>w2|_=>w3)
def OB(_:Nat)(_ _:World):Prop:=True
theorem bG(r:Nat)(w w':World):OB r w w':=trivial
def af1(p n0 n b3:Nat)(cl:Int)(fin:Bool)(vt:Value)(aj cnt bP pk:Int)(r:je)(m:Nat)(i:Nat)(v:Value)(d:Nat->Value)(W:World):Prop:=match i with
 |0=>v=.pointer (some ⟨p,0,none⟩)
 |1=>v=.pointer (some ⟨p,0,none⟩)
 |2=>v=.pointer (some ⟨p,1,none⟩)
 |3=>v=.int .i64 n
 |4=>v=.pointer (some ⟨p,0,none⟩)
 |5=>v=.pointer (some ⟨p,0,none⟩)
 |6=>v=.pointer (some ⟨p,4,none⟩)
 |7=>v=.agg #[.int .i64 cl,.bool fin,vt]
 |8=>v=.pointer (some ⟨b3,1,none⟩)
 |9=>v=.int .i64 aj
 |10=>v=.int .i64 m
 |11=>∃v':Value,v=.tuple #[aN r.cl r.fin v',.int .i64 r.code]/\sO W n0 v' r.l
 |12=>∃v':Value,v=.tuple #[aN r.cl r.fin v',.int .i64 r.code]/\sO W n0 v' r.l
 |13=>∃v':Value,v=aN r.cl r.fin v'/\sO W n0 v' r.l
 |14=>v=.int .i64 r.code
 |15=>∃g,v=.pointer (some ⟨g,0,none⟩)/\n0<=g/\∃cs:List Value,cs.length=3/\Bx W g 37 cs
 |16=>∃g,d 15=.pointer (some ⟨g,0,none⟩)/\n0<=g/\∃cs:List Value,cs.length=3/\Bx W g 37 cs/\(λW cs=>∃v':Value,cs = [.int .i64 r.cl,.bool r.fin,v']/\sO W n0 v' r.l) W cs
 |17=>v=.int .i64 r.code
 |_=>True
theorem ZY(p n0 n b3:Nat)(cl:Int)(fin:Bool)(vt:Value)(aj cnt bP pk:Int)(r:je)(m:Nat)(i:Nat)(v:Value)(d:Nat->Value)(W W':World)(hR:(aU n0 37 3 (λW cs=>∃v':Value,cs = [.int .i64 r.cl,.bool r.fin,v']/\sO W n0 v' r.l)) W W')(h:af1 p n0 n b3 cl fin vt aj cnt bP pk r m i v d W):af1 p n0 n b3 cl fin vt aj cnt bP pk r m i v d W':=by
 by_cases h11:i=11
 ·subst h11;obtain⟨v',h1,h2⟩:=h;exact⟨v',h1,aU.kD hR (by decide) h2.1,h2.2⟩
 by_cases h12:i=12
 ·subst h12;obtain⟨v',h1,h2⟩:=h;exact⟨v',h1,aU.kD hR (by decide) h2.1,h2.2⟩
 by_cases h13:i=13
 ·subst h13;obtain⟨v',h1,h2⟩:=h;exact⟨v',h1,aU.kD hR (by decide) h2.1,h2.2⟩
 by_cases h15:i=15
 ·subst h15;obtain⟨g,h1,h2,h3⟩:=h;exact⟨g,h1,h2,aU.some hR h3⟩
 by_cases h16:i=16
 ·subst h16;obtain⟨g,h1,h2,h3⟩:=h;exact⟨g,h1,h2,aU.full hR (λcs h=>(by obtain⟨v',h1,h2⟩:=h;exact⟨v',h1,aU.kD hR (by decide) h2.1,h2.2⟩)) h3⟩
 unfold af1 at h ⊢;split at h <;> first|exact h|exact absurd rfl h11|exact absurd rfl h12|exact absurd rfl h13|exact absurd rfl h15|exact absurd rfl h16
def af0(p b3 iw hz:Nat)(aj:Int)(DS:ByteArray)(vc9 Vu:Value)(i:Nat)(v:Value)(W:World):Prop:=match i with
 |0=>v=.pointer (some ⟨p,0,none⟩)
 |1=>v=.pointer (some ⟨p,0,none⟩)
 |2=>v=.pointer (some ⟨p,0,none⟩)
 |3=>v=.pointer (some ⟨p,9,none⟩)
 |4=>v=vc9
 |5=>v=.pointer (some ⟨b3,1,none⟩)
 |6=>v=.int .i64 aj
 |7=>v=.int .i64 (iw:Nat)
 |8=>v=.int .i64 (aj+(iw:Nat))
 |9=>v=.string DS
 |10=>v=.agg #[.int .i64 (aj+(iw:Nat)),.string DS]
 |11=>v=.slice (some ⟨hz,0,none⟩) 1 1
 |12=>v=Vu
 |13=>v=.pointer (some ⟨p,0,none⟩)
 |14=>v=.pointer (some ⟨p,9,none⟩)
 |_=>True
def aij:Nat->Option Nat
 |11=>some 0
 |12=>some 1
 |15=>some 2
 |_=>none
theorem ZX(p b3 iw hz:Nat)(aj:Int)(DS:ByteArray)(vc9 Vu:Value)(i r:Nat)(v:Value)(W W':World)(hk:∀k,aij i=some k->k<r)(hR:(OB) r W W')(h:af0 p b3 iw hz aj DS vc9 Vu i v W):af0 p b3 iw hz aj DS vc9 Vu i v W':=by unfold af0 at h ⊢;split at h <;> first|exact h
theorem ah5{w w0:World}{p pm N:Nat}{D:PD}{vt vc:Value}{E:World->Prop}{EX Xm Rm X0 R0:Nat->Prop}(h:iY w p D pm none vt vc E EX Xm Rm)(hc:Ch X0 R0 (DX p vc EX Xm) (DR vt Rm) w0 w)(ho:D.Ok N)(hN:N<=4611686018427380000)
 (k aj cnt bP pk:Int)(hi:i64 aj)(a5:Option Addr)(c5:Nat)(L:List (List UInt8))(hL:fQ w (.slice a5 L.length c5) L)(hLx:1<=L.length->∀b,(Value.slice a5 L.length c5).ownBlock=some b->b<w.heap.size/\¬ DX p vc EX Xm b)(hn:L.length<=9223372036854775807)(hz:∀x∈L,x.length<=9223372036854775807)
 (r:je)(hr:r=aW D.n D.cl D.fin D.tr aj L.length):
 Calls prog 77 #[.pointer (some ⟨p,0,none⟩),jk k aj cnt bP pk (.slice a5 L.length c5)] w (zW w0 X0 R0 p pm none E EX (N+64) (RI aj L r D).1 (RI aj L r D).2):=by
 obtain⟨wA,hwA⟩:∃w1,w1=(w.alloc (.cells #[.int .i64 k,.int .i64 aj,.int .i64 cnt,.int .i64 bP,.int .i64 pk,.slice a5 L.length c5] 49)).alloc (.cells aX.toArray 58):=⟨_,rfl⟩;obtain⟨b3,hb3⟩:∃b,b=w.heap.size:=⟨_,rfl⟩;obtain⟨b4,hb4⟩:∃b,b=w.heap.size+1:=⟨_,rfl⟩;have hA1:=(zB w.heap.size w).alloc (zl _) (.cells #[.int .i64 k,.int .i64 aj,.int .i64 cnt,.int .i64 bP,.int .i64 pk,.slice a5 L.length c5] 49);have hA:=hA1.alloc hA1.size (.cells aX.toArray 58);have ig:Bx ((w.alloc (.cells #[.int .i64 k,.int .i64 aj,.int .i64 cnt,.int .i64 bP,.int .i64 pk,.slice a5 L.length c5] 49)).alloc (.cells aX.toArray 58)) w.heap.size 49 [.int .i64 k,.int .i64 aj,.int .i64 cnt,.int .i64 bP,.int .i64 pk,.slice a5 L.length c5]:=(Bx.new w 49 [.int .i64 k,.int .i64 aj,.int .i64 cnt,.int .i64 bP,.int .i64 pk,.slice a5 L.length c5]).alloc _;have hbx:=Bx.new (w.alloc (.cells #[.int .i64 k,.int .i64 aj,.int .i64 cnt,.int .i64 bP,.int .i64 pk,.slice a5 L.length c5] 49)) 58 aX;rw[<-hwA]at hA hbx ig;rw[Yl,<-hb4]at hbx;rw[<-hb3]at ig;have hd1:=h.below hA;have VF:=zH (hc.trans (Ch.of hA));have DJ:=zH hd1;have HXW:=zH hbx;have Zu:=zH ig;have Ib:=zH h.lo;have HLW:=zH (dB.keep hL hA);have HLX:=zH hLx;have HSZ:=zH hA.size;have HF:=zH (λ(apn:L.length<=64)=>Lc 151 (λ_ _=>by kernel_rfl) (nT 2048) (.slice a5 L.length c5) L wA (dB.keep hL hA) (by omega) (λx W hx=>af2 x (hz x hx) W));obtain⟨c0,c1,c2,c3,c4,Bf,c6,c7,c8,c9'⟩:=hd1.cells;have x1:=ig.cell (i:=1) rfl;have x5:=ig.cell (i:=5) rfl;have HWA:Hid ((w.alloc (.cells #[.int .i64 k,.int .i64 aj,.int .i64 cnt,.int .i64 bP,.int .i64 pk,.slice a5 L.length c5] 49)).alloc (.cells #[.int .i64 0,.int .i64 0,.slice none 0 0,.int .i64 0,.bool false,.slice none 0 0] 58)=wA):=zH hwA.symm;have IX:=zH hb4;have HB3:=zH hb3;have HB4:Hid (b3<wA.heap.size/\b4<wA.heap.size/\(∀b,DX p vc EX Xm b\/DR vt Rm b->b≠b3/\b≠b4)/\w0.heap.size<=b4):=zH ⟨ig.lt,hbx.lt,λb hb=>by have:=h.lo b hb;omega,by have:=hc.size;omega⟩;have Zp:Hid (∀b,DX p vc EX Xm b\/DR vt Rm b->b≠b4):=zH λb hb=>(HB4.out.2.2.1 b hb).2
 have HO:=zH ho;have HOM:Hid (D.M.Ok (N+64)):=zH (ho.md.mono (by omega));have HK0:Hid ((D.kind:Int)≠0):=zH (by rw[ho.kind];decide);obtain⟨Z,hZ⟩:∃Z,Z=RI aj L r D:=⟨_,rfl⟩;rw[<-hZ];have HZG:Hid (¬ VA L->Z=(Rp.sense 4 0,D)):=zH λh=>hZ.trans (aiz h)
 have HZF:Hid (VA L->D.fin=true->Z=(Rp.sense 5 0,D)):=zH λh h1=>hZ.trans (aiy h h1)
 have HZR:=zH λ(h:VA L) (h1:D.fin=false)=>hZ.trans (Zj h h1)
 have HR:=zH hr;obtain⟨m,hm⟩:∃m,m=L.length:=⟨_,rfl⟩;have HM:=zH hm;have HGD:Hid (VA L↔1<=m/\m<=64/\anyS (nT 2048) L=false):=zH (by rw[hm];exact Iff.rfl);rw[<-hm]at HF x5 hn HWA ⊢;obtain⟨any,hany⟩:∃b,b=anyS (nT 2048) L:=⟨_,rfl⟩;rw[<-hany]at HF HGD;clear hwA hb3 hb4 hA1 hA hbx ig h hc ho hd1 hr hL hLx hz hZ hm hany;unfold jk;go_enter func77,ntmps77;go_upto_region 1 with (fail)
 rw[HWA.out,<-IX.out,<-HB3.out];by_cases hg:VA L;case neg=>
  obtain rfl:=HZG.out hg;rw[HGD.out]at hg;by_cases hs:1<=m/\m<=64
  ·obtain rfl:any=true:=by
    cases any
    ·exact absurd ⟨hs.1,hs.2,rfl⟩ hg
    ·rfl
   obtain⟨hs1,hs2⟩:=hs;go_wp2_with fail;refine(HF.out hs2).mono ?_;rintro e w6 ⟨rfl,rfl⟩;have Be:=zH (pK 4 0 wA);unfold jg Rp.sense at Be;go_wp2_with fail;refine Be.out.mono ?_;rintro e w7 ⟨rfl,hb7⟩;have HD7:=zH (DJ.out.below hb7);have zO:=zH (VF.out.trans (Ch.of (X:=DX p vc EX Xm) (R:=DR vt Rm) hb7));have hx7:=HXW.out.call hb7;clear hb7;unfold aX at hx7;have t0:=hx7.cell (i:=0) rfl;have t1:=hx7.cell (i:=1) rfl;have t2:=hx7.cell (i:=2) rfl;have t3:=hx7.cell (i:=3) rfl;have t4:=hx7.cell (i:=4) rfl;have t5:=hx7.cell (i:=5) rfl;have tf:=λi=>hx7.free i
   clear hx7;go_wp2_with fail;exact zr (v:=jg (Rp.sense 4 0) (.slice none 0 0) (.slice none 0 0)) (by simp[results,results77,go_sem,jg,Rp.sense,t0,t1,t2,t3,t4,t5]) rfl ⟨vt,vc,Xm,Rm,rfl,ji HD7.out Zp.out _ _ _ _ _ _,lX zO.out HB4.out.2.2.2 _ _ _ _ _ _,HOM.out⟩
  ·by_cases hs1:m<1
   ·go_upto_region 3 with (fail)
    have Be:=zH (pK 4 0 wA);unfold jg Rp.sense at Be;go_wp2_with fail;refine Be.out.mono ?_;rintro e w7 ⟨rfl,hb7⟩;have HD7:=zH (DJ.out.below hb7);have zO:=zH (VF.out.trans (Ch.of (X:=DX p vc EX Xm) (R:=DR vt Rm) hb7));have hx7:=HXW.out.call hb7;clear hb7;unfold aX at hx7;have t0:=hx7.cell (i:=0) rfl;have t1:=hx7.cell (i:=1) rfl;have t2:=hx7.cell (i:=2) rfl;have t3:=hx7.cell (i:=3) rfl;have t4:=hx7.cell (i:=4) rfl;have t5:=hx7.cell (i:=5) rfl;have tf:=λi=>hx7.free i
    clear hx7;go_wp2_with fail;exact zr (v:=jg (Rp.sense 4 0) (.slice none 0 0) (.slice none 0 0)) (by simp[results,results77,go_sem,jg,Rp.sense,t0,t1,t2,t3,t4,t5]) rfl ⟨vt,vc,Xm,Rm,rfl,ji HD7.out Zp.out _ _ _ _ _ _,lX zO.out HB4.out.2.2.2 _ _ _ _ _ _,HOM.out⟩
   ·have hs2:64<m:=by omega
    go_upto_region 3 with (fail)
    have Be:=zH (pK 4 0 wA);unfold jg Rp.sense at Be;go_wp2_with fail;refine Be.out.mono ?_;rintro e w7 ⟨rfl,hb7⟩;have HD7:=zH (DJ.out.below hb7);have zO:=zH (VF.out.trans (Ch.of (X:=DX p vc EX Xm) (R:=DR vt Rm) hb7));have hx7:=HXW.out.call hb7;clear hb7;unfold aX at hx7;have t0:=hx7.cell (i:=0) rfl;have t1:=hx7.cell (i:=1) rfl;have t2:=hx7.cell (i:=2) rfl;have t3:=hx7.cell (i:=3) rfl;have t4:=hx7.cell (i:=4) rfl;have t5:=hx7.cell (i:=5) rfl;have tf:=λi=>hx7.free i
    clear hx7;go_wp2_with fail;exact zr (v:=jg (Rp.sense 4 0) (.slice none 0 0) (.slice none 0 0)) (by simp[results,results77,go_sem,jg,Rp.sense,t0,t1,t2,t3,t4,t5]) rfl ⟨vt,vc,Xm,Rm,rfl,ji HD7.out Zp.out _ _ _ _ _ _,lX zO.out HB4.out.2.2.2 _ _ _ _ _ _,HOM.out⟩
 case pos=>
  have HG:=zH hg;obtain⟨hs1,hs2,rfl⟩:=HGD.out.1 hg;clear hg;go_upto_region 2 with (fail)
  have hkn:¬ D.kind=0:=λe=>HK0.out (by rw[e];rfl)
  cases hfin:D.fin with
  | true=>
    obtain rfl:=HZF.out HG.out hfin;have hfb:=Bf.trans (Yp (λb=>some (Value.bool b)) hfin);go_upto_region 5 with (go_at_call 38;refine(HF.out hs2).mono ?_;rintro e w6 ⟨rfl,rfl⟩)
    have Be:=zH (pK 5 0 wA);unfold jg Rp.sense at Be;go_wp2_with fail;refine Be.out.mono ?_;rintro e w7 ⟨rfl,hb7⟩;have HD7:=zH (DJ.out.below hb7);have zO:=zH (VF.out.trans (Ch.of (X:=DX p vc EX Xm) (R:=DR vt Rm) hb7));have hx7:=HXW.out.call hb7;clear hb7;unfold aX at hx7;have t0:=hx7.cell (i:=0) rfl;have t1:=hx7.cell (i:=1) rfl;have t2:=hx7.cell (i:=2) rfl;have t3:=hx7.cell (i:=3) rfl;have t4:=hx7.cell (i:=4) rfl;have t5:=hx7.cell (i:=5) rfl;have tf:=λi=>hx7.free i
    clear hx7;go_wp2_with fail;exact zr (v:=jg (Rp.sense 5 0) (.slice none 0 0) (.slice none 0 0)) (by simp[results,results77,go_sem,jg,Rp.sense,t0,t1,t2,t3,t4,t5]) rfl ⟨vt,vc,Xm,Rm,rfl,ji HD7.out Zp.out _ _ _ _ _ _,lX zO.out HB4.out.2.2.2 _ _ _ _ _ _,HOM.out⟩
  | false=>
    have HZ3:=zH (HZR.out HG.out hfin);obtain⟨av,cv,hvt,_⟩:=dU.form DJ.out.tr;rw[hfin]at Bf;have hb6:=Bx.new wA 37 [.int .i64 D.cl,.bool D.fin,vt];have Uc:=(zB wA.heap.size wA).alloc (zl _) (.cells #[.int .i64 D.cl,.bool D.fin,vt] 37);obtain⟨w1,hw1⟩:∃w1,w1=wA.alloc (.cells #[.int .i64 D.cl,.bool D.fin,vt] 37):=⟨_,rfl⟩;obtain⟨b6,ajG⟩:∃b,b=wA.heap.size:=⟨_,rfl⟩;rw[<-hw1]at Uc;have hx6:Bx w1 b6 37 [.int .i64 D.cl,.bool D.fin,vt]:=by rw[hw1,ajG];exact hb6
    have hd1:=DJ.out.below Uc;have HD1:=zH hd1;have HT1:=zH (VF.out.trans (Ch.of (X:=DX p vc EX Xm) (R:=DR vt Rm) Uc));have HX1:=zH (HXW.out.call Uc);have ak7:=zH (Zu.out.call Uc);have anW:=zH hx6;have HL1:=zH (dB.keep HLW.out Uc);obtain⟨n0,hn0⟩:∃n,n=w1.heap.size:=⟨_,rfl⟩;have xx:=zH hn0;have uG:Hid (b6<n0/\b6=wA.heap.size/\wA.heap.size<=n0):=zH ⟨by rw[hn0];exact hx6.lt,ajG,by rw[hn0];exact Uc.size⟩;have HOP:Hid (∀W,Below n0 w1 W->Calls prog 153 #[.int .i64 D.n,aN D.cl D.fin vt,.int .i64 aj,.int .i64 m] W (OpF r W)):=zH λW hW=>by rw[HR.out,HM.out];exact OC D.n D.cl D.fin vt D.tr aj L.length W (bQ.keep hd1.tr (hW.mono (YF hn0.symm))) (qY HO.out.v) (by have:=HM.out;unfold i64;omega) hi
    obtain⟨d0,d1,d2,d3,d4,d5,d6,d7,d8,d9⟩:=hd1.cells;have hpl:=hd1.box.lt;have rZ:Hid (∀W,Below n0 w1 W->W.cell? ⟨p,1,none⟩=some (.int .i64 D.n)/\W.cell? ⟨p,4,none⟩=some (.int .i64 D.cl)/\W.cell? ⟨p,5,none⟩=some (.bool D.fin)/\W.cell? ⟨p,6,none⟩=some vt/\W.cell? ⟨b3,1,none⟩=some (.int .i64 aj)):=zH λW hW=>by have hx:=ak7.out.call (by rw[hn0]at hW;exact hW);exact⟨(hW.cell (p:=⟨p,1,none⟩) (by rw[hn0];exact hpl)).trans d1,(hW.cell (p:=⟨p,4,none⟩) (by rw[hn0];exact hpl)).trans d4,(hW.cell (p:=⟨p,5,none⟩) (by rw[hn0];exact hpl)).trans d5,(hW.cell (p:=⟨p,6,none⟩) (by rw[hn0];exact hpl)).trans d6,hx.cell (i:=1) rfl⟩
    have HON:=zH (Ej d0);have HKD:Hid (((D.kind:Nat):Int)=1):=zH (by rw[HO.out.kind];rfl);have HW1:Hid (wA.alloc (.cells #[.int .i64 D.cl,.bool D.fin,vt] 37)=w1):=zH hw1.symm;have HFN:=zH hfin;rw[hfin,hvt]at HW1;have c6o:=(DJ.out.cells).2.2.2.2.2.2.1;rw[hvt]at c6o;clear hw1 ajG hb6 Uc hx6 hd1 hn0 c6 d0 d1 d2 d3 d4 d5 d6 d7 d8 d9 hpl;go_upto_region 6 with (go_at_call 38;refine(HF.out hs2).mono ?_;rintro e w6 ⟨rfl,rfl⟩)
    go_upto_region 7 with (fail)
    rw[HW1.out,<-uG.out.2.1];clear c1 c2 c3 c4 Bf c6o c7 c8 c9';go_upto_region 8 with (refine HON.out.mono ?_;rintro e w6 ⟨rfl,rfl⟩;rw[zt HKD.out])
    obtain⟨n,hnn⟩:∃n,n=D.n:=⟨_,rfl⟩;obtain⟨cl,hcl⟩:∃n,n=D.cl:=⟨_,rfl⟩;obtain⟨fin,hfi⟩:∃n,n=D.fin:=⟨_,rfl⟩;rw[<-hnn,<-hcl,<-hfi]at rZ HOP;have HVT:=zH hvt;have HS:=zH (And.intro hs1 hs2);clear hnn hcl hfi hvt hs1 hs2 hkn hfin hn HZR HZG HZF HF HK0 HGD HG;unfold aN at HOP;refine fO (by kernel_rfl) (aU n0 37 3 (λW cs=>∃v':Value,cs = [.int .i64 r.cl,.bool r.fin,v']/\sO W n0 v' r.l)) (λW=>Below n0 w1 W) (af1 p n0 n b3 cl fin vt aj cnt bP pk r m) (λ_=>false) (by kernel_rfl) (λW W' hR h=>h.trans hR.1) (ZY p n0 n b3 cl fin vt aj cnt bP pk r m) ((zB _ _).drew) ⟨?_,?_,?_,?s3,?_,?_,?_,?s7,?_,?s9,?_,?s11,?s12,?s13,?s14,?s15,?s16,?_,trivial⟩ ?_;all_goals first
     | (intro a W hc hsz hold ah
        have o0:a.tmps.getD 0 undef=.pointer (some ⟨p,0,none⟩):=hold 0 (by kernel_rfl);have o3:a.tmps.getD 3 undef=.pointer (some ⟨b3,0,none⟩):=hold 3 (by kernel_rfl);have o5:a.tmps.getD 5 undef=.int .i64 m:=hold 5 (by kernel_rfl);try have d0:=zV 47 (.pointer (some ⟨p,0,none⟩)) (ah 0 rfl rfl _ rfl)
        try have d1:=zV 48 (.pointer (some ⟨p,0,none⟩)) (ah 1 rfl rfl _ rfl)
        try have d4:=zV 51 (.pointer (some ⟨p,0,none⟩)) (ah 4 rfl rfl _ rfl)
        try have d5:=zV 52 (.pointer (some ⟨p,0,none⟩)) (ah 5 rfl rfl _ rfl)
        try have d14:=zV 60 (.int .i64 r.code) (ah 14 rfl rfl _ rfl)
        clear hsz hold ah;refine ai rfl (ag rfl) ?_;refine ay aU.refl rfl λK hK=>?_
        go_simp;exact hK)
     |skip
    try case s3=>
     intro a W hc hsz hold ah;have d2:=zV 49 (.pointer (some ⟨p,1,none⟩)) (ah 2 rfl rfl _ rfl);obtain⟨q1,q4,q5,q6,z1⟩:=rZ.out W hc;clear hsz hold ah;refine ai rfl (ag rfl) ?_;refine ay (v:=.int .i64 n) aU.refl rfl λK hK=>?_
     go_simp;exact hK
    try case s7=>
     intro a W hc hsz hold ah;have d6:=zV 53 (.pointer (some ⟨p,4,none⟩)) (ah 6 rfl rfl _ rfl);obtain⟨q1,q4,q5,q6,z1⟩:=rZ.out W hc;clear hsz hold ah;refine ai rfl (ag rfl) ?_;refine ay (v:=.agg #[.int .i64 cl,.bool fin,vt]) aU.refl rfl λK hK=>?_
     go_simp;exact hK
    try case s9=>
     intro a W hc hsz hold ah;have d8:=zV 55 (.pointer (some ⟨b3,1,none⟩)) (ah 8 rfl rfl _ rfl);obtain⟨q1,q4,q5,q6,z1⟩:=rZ.out W hc;clear hsz hold ah;refine ai rfl (ag rfl) ?_;refine ay (v:=.int .i64 aj) aU.refl rfl λK hK=>?_
     go_simp;exact hK
    try case s11=>
     intro a W hc hsz hold ah;have d3:=zV 50 (.int .i64 n) (ah 3 rfl rfl _ rfl);have e3:=zq d3;have d7:=zV 54 (.agg #[.int .i64 cl,.bool fin,vt]) (ah 7 rfl rfl _ rfl);have e7:=zq d7;have d9:=zV 56 (.int .i64 aj) (ah 9 rfl rfl _ rfl);have e9:=zq d9;have d10:=zV 57 (.int .i64 m) (ah 10 rfl rfl _ rfl);have e10:=zq d10;clear hsz hold ah;refine ai rfl (ag rfl) ?_;refine mZ λK hK=>?_
     go_simp;refine(HOP.out W hc).mono ?_;rintro e w' ⟨v',rfl,hF,hb'⟩;exact hK _ _ (aU.call (by rw[xx.out];exact hc.size) hb') ⟨v',rfl,hF.1,λk hk=>by have:=hF.2 k hk;have:=hc.size;have:=xx.out;omega⟩
    try case s12=>
     intro a W hc hsz hold ah;have x11:=ah 11 rfl rfl _ rfl;clear hsz hold ah;refine ai rfl (ag rfl) ?_;obtain⟨v',hv,hF⟩:=x11;replace hv:a.tmps.getD 58 undef=.tuple #[aN r.cl r.fin v',.int .i64 r.code]:=hv;have hw:=zq hv;unfold aN at hv hw;refine dA (v:=.tuple #[aN r.cl r.fin v',.int .i64 r.code]) aU.refl ⟨v',rfl,hF⟩ λK hK=>?_
     unfold aN at hK;go_simp;exact hK
    try case s13=>
     intro a W hc hsz hold ah;have x12:=ah 12 rfl rfl _ rfl;clear hsz hold ah;refine ai rfl (ag rfl) ?_;obtain⟨v',hv,hF⟩:=x12;replace hv:a.tmps.getD 46 undef=.tuple #[aN r.cl r.fin v',.int .i64 r.code]:=hv;have hw:=zq hv;unfold aN at hv hw;refine dA (v:=aN r.cl r.fin v') aU.refl ⟨v',rfl,hF⟩ λK hK=>?_
     unfold aN at hK;go_simp;exact hK
    try case s14=>
     intro a W hc hsz hold ah;have x12:=ah 12 rfl rfl _ rfl;clear hsz hold ah;refine ai rfl (ag rfl) ?_;obtain⟨v',hv,hF⟩:=x12;replace hv:a.tmps.getD 46 undef=.tuple #[aN r.cl r.fin v',.int .i64 r.code]:=hv;have hw:=zq hv;refine ay (v:=.int .i64 r.code) aU.refl rfl λK hK=>?_
     go_simp;exact hK
    try case s15=>
     intro a W hc hsz hold ah;clear hsz hold ah;refine ai rfl (ag rfl) ?_;refine dA (v:=.pointer (some ⟨W.heap.size,0,none⟩)) (aU.alloc (by rw[xx.out];exact hc.size) (.cells #[.int .i64 0,.bool false,.slice none 0 0] 37)) ⟨W.heap.size,rfl,(by rw[xx.out];exact hc.size),[.int .i64 0,.bool false,.slice none 0 0],rfl,Bx.new _ _ _⟩ λK hK=>?_
     go_simp;exact hK
    try case s16=>
     intro a W hc hsz hold ah;have x15:=ah 15 rfl rfl _ rfl;have x13:=ah 13 rfl rfl _ rfl;clear hsz hold ah;refine ai rfl (ag rfl) ?_;obtain⟨g,hg,hgB,cs,hl,hB⟩:=x15;replace hg:a.tmps.getD 7 undef=.pointer (some ⟨g,0,none⟩):=hg;have hlt:=hB.lt;have hf:=hB.free;have z0:∃v,W.cell? ⟨g,0,none⟩=some v:=⟨_,hB.cell (Ye (by rw[hl];decide))⟩;obtain⟨u0,z0⟩:=z0;have z1:∃v,W.cell? ⟨g,1,none⟩=some v:=⟨_,hB.cell (Ye (by rw[hl];decide))⟩;obtain⟨u1,z1⟩:=z1;have z2:∃v,W.cell? ⟨g,2,none⟩=some v:=⟨_,hB.cell (Ye (by rw[hl];decide))⟩;obtain⟨u2,z2⟩:=z2;obtain⟨v',hv,hF⟩:=x13;replace hv:a.tmps.getD 59 undef=aN r.cl r.fin v':=hv;obtain⟨a6,c6,rfl,_⟩:=dU.form hF.1;unfold aN at hv;have hP:=(⟨.slice a6 r.l.length c6,rfl,aU.kD (aU.store (Φ:=λ_ _=>True) (t:=37) (B:=n0) (m:=3) (cs0:=[.int .i64 r.cl,.bool r.fin,.slice a6 r.l.length c6]) hgB rfl ⟨cs,hl,hB⟩ trivial) (by decide) hF.1,hF.2⟩:∃v2:Value,[.int .i64 r.cl,.bool r.fin,.slice a6 r.l.length c6] = [.int .i64 r.cl,.bool r.fin,v2]/\sO (bK W g 0 [.int .i64 r.cl,.bool r.fin,.slice a6 r.l.length c6]) n0 v2 r.l);refine dA (v:=undef) (aU.store (cs0:=[.int .i64 r.cl,.bool r.fin,.slice a6 r.l.length c6]) hgB rfl ⟨cs,hl,hB⟩ hP) ⟨g,hg,hgB,[.int .i64 r.cl,.bool r.fin,.slice a6 r.l.length c6],rfl,hB.full hl,hP⟩ λK hK=>?_
     clear hB hl;go_simp;exact hK
    ·intro a W hC hd hsz hold hval;obtain⟨g,hg,hgB,cs,hcl,hcx,v',hcs,hF⟩:=hval 16 _ rfl rfl;have d7:a.tmps.getD 7 undef=.pointer (some ⟨g,0,none⟩):=hg;clear hg;subst hcs;have d8:a.tmps.getD 8 undef=.int .i64 r.code:=hval 17 _ rfl rfl;obtain⟨G,hG,ha⟩:=dK [7,8,46,47,48,49,50,51,52,53,54,55,56,57,58,59,60] (by kernel_rfl) hd hsz hold;simp only[hG]at d8 d7;rw[ha];clear ha hG hd hsz hold;simp only[cZ,Ym,List.set,d8,d7];clear d8 d7;have hC:Below n0 w1 W:=hC;have xA:=hC.mono (YF xx.out.symm);obtain⟨a6,c6,rfl,ac2⟩:=dU.form hF.1;have DJ:=zH (HD1.out.below xA);have VF:=zH (HT1.out.trans (Ch.of (X:=DX p vc EX Xm) (R:=DR vt Rm) xA));have HXW:=zH (HX1.out.call xA);have qp:=ak7.out.call xA;have x1:=qp.cell (i:=1) rfl;have PU:=anW.out.call xA;have hLW:=dB.keep HL1.out xA;by_cases h0:r.code=0;case neg=>
      have hz:=HZ3.out;rw[zi h0]at hz;have hb0:decide (r.code=0)=false:=zf h0;have hq0:(r.code == 0)=false:=Yc.2 h0;clear hcx hF hval hC PU hLW qp xA ac2;by_cases h2:r.code=2
      ·rw[zj h2]at hz;obtain rfl:=hz;have hb2:decide (r.code=2)=true:=zt h2;have hq2:(r.code == 2)=true:=YG.2 h2;go_upto_region 14 with (fail)
       have Be:=zH (pK 6 aj W);unfold jg Rp.sense at Be;go_wp2_with fail;refine Be.out.mono ?_;rintro e w7 ⟨rfl,hb7⟩;have HD7:=zH (DJ.out.below hb7);have zO:=zH (VF.out.trans (Ch.of (X:=DX p vc EX Xm) (R:=DR vt Rm) hb7));have hx7:=HXW.out.call hb7;clear hb7;unfold aX at hx7;have t0:=hx7.cell (i:=0) rfl;have t1:=hx7.cell (i:=1) rfl;have t2:=hx7.cell (i:=2) rfl;have t3:=hx7.cell (i:=3) rfl;have t4:=hx7.cell (i:=4) rfl;have t5:=hx7.cell (i:=5) rfl;have tf:=λi=>hx7.free i
       clear hx7;go_wp2_with fail;exact zr (v:=jg (Rp.sense 6 aj) (.slice none 0 0) (.slice none 0 0)) (by simp[results,results77,go_sem,jg,Rp.sense,t0,t1,t2,t3,t4,t5]) rfl ⟨vt,vc,Xm,Rm,rfl,ji HD7.out Zp.out _ _ _ _ _ _,lX zO.out HB4.out.2.2.2 _ _ _ _ _ _,HOM.out⟩
      ·rw[zi h2]at hz;have hb2:decide (r.code=2)=false:=zf h2;have hq2:(r.code == 2)=false:=Yc.2 h2;by_cases h12:r.code=12
       ·rw[zj h12]at hz;obtain rfl:=hz;have agx:decide (r.code=12)=true:=zt h12;have hq12:(r.code == 12)=true:=YG.2 h12;go_upto_region 16 with (fail)
        have Be:=zH (pK 7 aj W);unfold jg Rp.sense at Be;go_wp2_with fail;refine Be.out.mono ?_;rintro e w7 ⟨rfl,hb7⟩;have HD7:=zH (DJ.out.below hb7);have zO:=zH (VF.out.trans (Ch.of (X:=DX p vc EX Xm) (R:=DR vt Rm) hb7));have hx7:=HXW.out.call hb7;clear hb7;unfold aX at hx7;have t0:=hx7.cell (i:=0) rfl;have t1:=hx7.cell (i:=1) rfl;have t2:=hx7.cell (i:=2) rfl;have t3:=hx7.cell (i:=3) rfl;have t4:=hx7.cell (i:=4) rfl;have t5:=hx7.cell (i:=5) rfl;have tf:=λi=>hx7.free i
        clear hx7;go_wp2_with fail;exact zr (v:=jg (Rp.sense 7 aj) (.slice none 0 0) (.slice none 0 0)) (by simp[results,results77,go_sem,jg,Rp.sense,t0,t1,t2,t3,t4,t5]) rfl ⟨vt,vc,Xm,Rm,rfl,ji HD7.out Zp.out _ _ _ _ _ _,lX zO.out HB4.out.2.2.2 _ _ _ _ _ _,HOM.out⟩
       ·rw[zi h12]at hz;obtain rfl:=hz;have agx:decide (r.code=12)=false:=zf h12;have hq12:(r.code == 12)=false:=Yc.2 h12;go_upto_region 10 with (fail)
        have Be:=zH (pK 4 0 W);unfold jg Rp.sense at Be;go_wp2_with fail;refine Be.out.mono ?_;rintro e w7 ⟨rfl,hb7⟩;have HD7:=zH (DJ.out.below hb7);have zO:=zH (VF.out.trans (Ch.of (X:=DX p vc EX Xm) (R:=DR vt Rm) hb7));have hx7:=HXW.out.call hb7;clear hb7;unfold aX at hx7;have t0:=hx7.cell (i:=0) rfl;have t1:=hx7.cell (i:=1) rfl;have t2:=hx7.cell (i:=2) rfl;have t3:=hx7.cell (i:=3) rfl;have t4:=hx7.cell (i:=4) rfl;have t5:=hx7.cell (i:=5) rfl;have tf:=λi=>hx7.free i
        clear hx7;go_wp2_with fail;exact zr (v:=jg (Rp.sense 4 0) (.slice none 0 0) (.slice none 0 0)) (by simp[results,results77,go_sem,jg,Rp.sense,t0,t1,t2,t3,t4,t5]) rfl ⟨vt,vc,Xm,Rm,rfl,ji HD7.out Zp.out _ _ _ _ _ _,lX zO.out HB4.out.2.2.2 _ _ _ _ _ _,HOM.out⟩
     case pos=>
      have hz:=HZ3.out;rw[zj h0]at hz;have HZ4:=zH hz;obtain⟨w2,hw2⟩:∃w2,w2=((W.setCell ⟨b6,0,none⟩ (.int .i64 r.cl)).setCell ⟨b6,1,none⟩ (.bool r.fin)).setCell ⟨b6,2,none⟩ (.slice a6 r.l.length c6):=⟨_,rfl⟩;have ho2:fB b6 W w2:=by rw[hw2];exact(((fB.refl b6 W).set 0 _).set 1 _).set 2 _
      have amq:Bx w2 b6 37 [.int .i64 r.cl,.bool r.fin,.slice a6 r.l.length c6]:=by rw[hw2];exact((PU.set 0 _).set 1 _).set 2 _
      have ajQ:∀k,DX p vc EX Xm k\/DR vt Rm k->k≠b6:=λk hk=>by have:=Ib.out k hk;have:=uG.out;have:=HSZ.out;omega
      have hd2:=acA DJ.out ho2 ajQ;have ht2:=afL VF.out ho2 (by have:=uG.out;have:=HSZ.out;have:=HB4.out.2.2.2;have:=HB4.out.2.1;omega);have ajR:∀k,(Value.slice a6 r.l.length c6).ownBlock=some k->n0<=k:=hF.2;have hstp:=HR.out;have hl1:1<=L.length:=by have hv':=HO.out.v;rw[hstp]at h0;exact afA hv' h0
      have hln:r.l≠[]:=by intro e;have hv':=HO.out.v;rw[hstp]at h0 e;exact ai9 hv' h0 e
      have hh2:Held w2 (.slice a6 r.l.length c6) r.l (DX p vc EX Xm):=Held.only ⟨hF.1,UY hF.1 hln,λk hk hx=>by have:=hF.2 k hk;have:=Ib.out k (.inl hx);have:=uG.out;have:=HSZ.out;omega⟩ ho2 (λk hk=>by have:=hF.2 k hk;have:=uG.out.1;omega);have ajW:Bx w2 b4 58 aX:=(ho2.block b4 (by have:=HB4.out.2.1;have:=uG.out.2.1;omega)).trans HXW.out;have hx32:Bx w2 b3 49 [.int .i64 k,.int .i64 aj,.int .i64 cnt,.int .i64 bP,.int .i64 pk,.slice a5 L.length c5]:=(ho2.block b3 (by have:=HB4.out.1;have:=uG.out.2.1;omega)).trans qp;have hl2:fQ w2 (.slice a5 L.length c5) L:=Dv hLW λk hk=>ho2.block k (by have:=(HLX.out hl1 k hk).1;have:=uG.out;have:=HSZ.out;omega)
      obtain⟨w3,hw3⟩:∃w3,w3=w2.alloc (.cells aX.toArray 58):=⟨_,rfl⟩;obtain⟨b9,xB⟩:∃b,b=W.heap.size:=⟨_,rfl⟩;have hs2:w2.heap.size=W.heap.size:=ho2.size;have hA3:=(zB w2.heap.size w2).alloc (zl _) (.cells aX.toArray 58);have hx93:=Bx.new w2 58 aX;rw[<-hw3]at hA3 hx93;rw[hs2,<-xB]at hx93;have hd3:=hd2.below hA3;have adf:∀k,k<w.heap.size->k<b9:=λk hk=>by have:=HSZ.out;have:=uG.out;have:=xx.out;have:=xA.size;omega
      have zY:Hid (DU w0 X0 R0 p pm E EX vt (.slice a5 L.length c5) (.slice a6 r.l.length c6) L r.l b3 b4 b6 b9 [.int .i64 k,.int .i64 aj,.int .i64 cnt,.int .i64 bP,.int .i64 pk,.slice a5 L.length c5] [.int .i64 r.cl,.bool r.fin,.slice a6 r.l.length c6] Rp.ok D (N+64) w3):=zH
       ⟨⟨vc,Xm,Rm,hd3,ht2.trans (Ch.of hA3),λk hk=>⟨(HB4.out.2.2.1 k hk).1,(HB4.out.2.2.1 k hk).2,ajQ k hk,λe=>by have:=adf k (Ib.out k hk);omega⟩,hh2.keep (Ch.of (R:=DR vt Rm) hA3),λk hk=>⟨by have:=adf k (HLX.out hl1 k hk).1;have:=hx93.lt;omega,(HLX.out hl1 k hk).2⟩⟩,hx32.call hA3,ajW.call hA3,amq.call hA3,hx93,dB.keep hl2 hA3,HOM.out⟩
      have anK:Hid (DU w0 X0 R0 p pm E EX vt (.slice a5 L.length c5) (.slice a6 r.l.length c6) L r.l b3 b4 b6 b9 [.int .i64 k,.int .i64 aj,.int .i64 cnt,.int .i64 bP,.int .i64 pk,.slice a5 L.length c5] [.int .i64 r.cl,.bool r.fin,.slice a6 r.l.length c6] Rp.ok D N w3):=zH ⟨zY.out.ex,zY.out.x3,zY.out.x4,zY.out.x6,zY.out.x9,zY.out.l,HO.out.md⟩;have HLB:Hid (0<=aj/\aj+(m:Int)<=449849):=zH (by rw[HM.out];rw[hstp]at h0;exact ai8 HO.out.v h0);have HV6:Hid (∀k,(Value.slice a6 r.l.length c6).ownBlock=some k->w0.heap.size<=k):=zH λk hk=>by have:=ajR k hk;have:=uG.out;have:=HSZ.out;have:=HB4.out.2.2.2;have:=HB4.out.2.1;omega
      have anP:Hid (∀k,(Value.slice a6 r.l.length c6).ownBlock=some k->k≠b4):=zH λk hk=>by have:=ajR k hk;have:=uG.out;have:=HB4.out.2.1;omega
      have HN9:Hid (w0.heap.size<=b9/\b3≠b9/\b4≠b9/\b6≠b9/\(∀k,(Value.slice a6 r.l.length c6).ownBlock=some k->k≠b9)/\∀k,(Value.slice a5 L.length c5).ownBlock=some k->k≠b9):=zH
       ⟨by have:=HB4.out;have:=ajW.lt;have:=xA.size;have:=uG.out;omega,by have:=HB4.out.1;have:=uG.out;have:=xx.out;have:=xA.size;omega,by have:=HB4.out.2.1;have:=uG.out;have:=xx.out;have:=xA.size;omega,by have:=uG.out;have:=xx.out;have:=xA.size;omega,λk hk=>by have:=hh2.lt k hk;omega,λk hk=>by have:=adf k (HLX.out hl1 k hk).1;omega⟩
      have c9:=(hd3.cells).2.2.2.2.2.2.2.2.2;obtain⟨a9,k9,hvc⟩:=aS hd3.ca;rw[hvc]at c9;have g0:=hcx.cell (i:=0) rfl;have g1:=hcx.cell (i:=1) rfl;have g2:=hcx.cell (i:=2) rfl;have y0:=PU.cell (i:=0) rfl;have y1:=PU.cell (i:=1) rfl;have y2:=PU.cell (i:=2) rfl;have yl:=PU.lt;have yf:=λi=>PU.free i
      rw[HVT.out]at y2;have HW2:=zH hw2.symm;have HW3:Hid (w2.alloc (.cells #[.int .i64 0,.int .i64 0,.slice none 0 0,.int .i64 0,.bool false,.slice none 0 0] 58)=w3):=zH hw3.symm;have HB9:=zH xB;have HS2:=zH hs2;have HH:=HB9;clear hcx hF hval hC PU hLW qp xA ac2 hw2 ho2 amq ajQ hd2 ht2 ajR hstp hln hh2 ajW hx32 hl2 hw3 xB hs2 hA3 hx93 hd3 adf hz x1;have hb0:decide (r.code=0)=true:=zt h0;have hq0:(r.code == 0)=true:=YG.2 h0;rw[h0];go_upto_region 12 with (fail)
      go_upto_region 19 with (fail)
      rw[HW2.out];go_upto_region 20 with (fail)
      rw[HW3.out,HS2.out,<-HB9.out];have HNE:Hid (w0.heap.size<=b9/\b3≠b9/\b4≠b9/\b6≠b9/\(∀k,(Value.slice a6 r.l.length c6).ownBlock=some k->k≠b9)/\∀k,(Value.slice a5 L.length c5).ownBlock=some k->k≠b9):=HN9;have HC9:=zH c9;have hwr:wrap64 ((D.ca.length:Int)+(m:Int))=(D.ca.length:Int)+(m:Int):=amV HO.out.n64 HS.out.2
      go_upto_if 99 with (fail)
      go_cut [9] from 92 to 111 (λv9 wx=>v9=.pointer (some ⟨b9,0,none⟩)/\∃rr D',Hid (Z=(rr,({D' with ca:=D'.ca++oJ aj L L.length }:PD).zA r.cl r.fin r.l))/\D'.ca.length<=64/\DU w0 X0 R0 p pm E EX vt (.slice a5 L.length c5) (.slice a6 r.l.length c6) L r.l b3 b4 b6 b9 [.int .i64 k,.int .i64 aj,.int .i64 cnt,.int .i64 bP,.int .i64 pk,.slice a5 L.length c5] [.int .i64 r.cl,.bool r.fin,.slice a6 r.l.length c6] rr D' (N+64) wx)
      case first=>
       by_cases hfl:64<D.ca.length+m
       ·have hZ5:Z=((qZ (kM D.M D.ca).2.1 (kM D.M D.ca).2.2),({({D with M:=(kM D.M D.ca).1,ca:=[] }:PD) with ca:=({D with M:=(kM D.M D.ca).1,ca:=[] }:PD).ca++oJ aj L L.length }:PD).zA r.cl r.fin r.l):=by rw[HZ4.out];unfold GG;rw[zj (by rw[<-HM.out];exact hfl)]
        have HZ5:=zH hZ5;obtain⟨a8,k8,hc8,hfc⟩:=anK.out.flush (by have:=HO.out.n64;omega) (by have:=HO.out.n64;omega) HO.out.ca;have HFC:=zH hfc;have Wq:(Value.slice a9 D.ca.length k9)=.slice a8 D.ca.length k8:=zs (HC9.out.symm.trans hc8);rw[<-Wq]at HFC;obtain⟨q,hq⟩:∃q,q=kM D.M D.ca:=⟨_,rfl⟩;rw[<-hq]at HFC HZ5;clear hZ5 hfc Wq hc8 hq;have hfd:(64:Int)<(D.ca.length:Int)+(m:Int):=afI hfl;have hfw:(64:Int)<wrap64 ((D.ca.length:Int)+(m:Int)):=by rw[hwr];exact hfd
        rw[zt hfd];go_wp2_with fail;refine HFC.out.mono ?_;rintro e w4 ⟨rfl,hS4⟩;have HFD:=zH (V9 q.2.1 q.2.2 w4);unfold jg at HFD;have xE:=zH hS4;clear hS4 c9;go_wp2_with fail;refine HFD.out.mono ?_;rintro e w5 ⟨rfl,hb5⟩;have hS5:=xE.out.below hb5;have Dl:=hS5.x9;unfold rps at Dl;have t0:=Dl.cell (i:=0) rfl;have t1:=Dl.cell (i:=1) rfl;have t2:=Dl.cell (i:=2) rfl;have t3:=Dl.cell (i:=3) rfl;have t4:=Dl.cell (i:=4) rfl;have t5:=Dl.cell (i:=5) rfl;have tf:=λi=>Dl.free i
        have tl:=Dl.lt;have hS6:=hS5.rep HNE.out.1 HNE.out.2.1 HNE.out.2.2.1 HNE.out.2.2.2.1 HNE.out.2.2.2.2.1 HNE.out.2.2.2.2.2 (qZ q.2.1 q.2.2);obtain⟨w6,hw6⟩:∃w6,w6=W6 w5 b9 (.int .i64 (qZ q.2.1 q.2.2).key) (.int .i64 (qZ q.2.1 q.2.2).aj) (.slice none 0 0) (.int .i64 (qZ q.2.1 q.2.2).cl) (.bool (qZ q.2.1 q.2.2).fin) (.slice none 0 0):=⟨_,rfl⟩;rw[<-hw6]at hS6;unfold W6 at hw6;have HW6:=zH hw6.symm;have zZ:=zH hS6;obtain⟨vc6,X6,R6,hd6,_⟩:=hS6.ex;have u9:=hd6.box.cell (i:=9) rfl;have uf:=hd6.box.free 9;have ul:=hd6.box.lt;have HS7:=zH hS6.nil;clear hS5 Dl hS6 hw6 hd6 hb5;go_upto_region 22 with (fail)
        rw[HW6.out];go_wp2_with fail;go_meet;exact⟨rfl,_,_,HZ5,Xx _,⟨HS7.out.ex,HS7.out.x3,HS7.out.x4,HS7.out.x6,HS7.out.x9,HS7.out.l,HS7.out.ok.mono (by have:=HO.out.n64;omega)⟩⟩
       ·have hZ5:Z=(Rp.ok,({D with ca:=D.ca++oJ aj L L.length }:PD).zA r.cl r.fin r.l):=by rw[HZ4.out];unfold GG;rw[zi (by rw[<-HM.out];exact hfl)]
        have HZ5:=zH hZ5;clear hZ5;have hfd:¬ (64:Int)<(D.ca.length:Int)+(m:Int):=acg hfl;have hfw:¬ (64:Int)<wrap64 ((D.ca.length:Int)+(m:Int)):=by rw[hwr];exact hfd
        rw[zf hfd];go_wp2_with fail;go_meet;exact⟨rfl,_,_,HZ5,HO.out.n64,zY.out⟩
      case rest=>
       obtain⟨rfl,rr,D',HZ5,hca,hS⟩:=hcut;have KE:=zH hS;have x5:=hS.x3.cell (i:=5) rfl;have x1:=hS.x3.cell (i:=1) rfl;rw[<-HM.out]at x5;obtain⟨bl,ol,kl⟩:=dB.at hS.l;clear hS c9 g0 g1 g2 y0 y1 y2 yl yf hwr;go_upto_region 23 with (fail)
       go_wp2_with fail
       go_loopw [115] (λvi wr=>∃i:Nat,i<=m/\vi=.int .i64 i/\Hid (DU w0 X0 R0 p pm E EX vt (.slice a5 L.length c5) (.slice a6 r.l.length c6) L r.l b3 b4 b6 b9 [.int .i64 k,.int .i64 aj,.int .i64 cnt,.int .i64 bP,.int .i64 pk,.slice a5 L.length c5] [.int .i64 r.cl,.bool r.fin,.slice a6 r.l.length c6] rr ({D' with ca:=D'.ca++oJ aj L i }:PD) (N+64) wr)) (λvi _=>m-(RowKit.intOf vi).toNat)
       case atStart=>exact⟨0,by omega,rfl,zH (by simpa[oJ]using KE.out)⟩
       case round=>
        obtain⟨iw,hi,rfl,HSI⟩:=hrel;by_cases hlt:iw<m
        ·have hS:=HSI.out;have hlt':iw<L.length:=by rw[<-HM.out];exact hlt
         obtain⟨bl2,ol2,kl2⟩:=dB.at hS.l;obtain⟨ha,hrange⟩:=kl2 iw hlt';have hix:=λw'=>aB underlying45 (by kernel_rfl:(prog.info? 9).map (·.size)=some 1) (cap:=c5) ha hlt' (iw:Int) rfl w'
         have hcl:wr.cell? ⟨bl2,ol2+iw*1,none⟩=some (.string (str (aJ [] L iw))):=hrange 0 _ rfl;simp only[Yy]at hix hcl;rw[<-HM.out]at hix;have hlen:({D' with ca:=D'.ca++oJ aj L iw }:PD).ca.length<=1000:=by show(D'.ca++oJ aj L iw).length<=1000;rw[Yb,Rq];exact agT hca hlt HS.out.2
         obtain⟨vc9,Vu,w9,q1,q2,q3,q4,q5,hrun,hform,hS2⟩:=hS.push (aj+(iw:Nat),aJ [] L iw) hlen 99;unfold Bg at hrun q2;have HSN:Hid (DU w0 X0 R0 p pm E EX vt (.slice a5 L.length c5) (.slice a6 r.l.length c6) L r.l b3 b4 b6 b9 [.int .i64 k,.int .i64 aj,.int .i64 cnt,.int .i64 bP,.int .i64 pk,.slice a5 L.length c5] [.int .i64 r.cl,.bool r.fin,.slice a6 r.l.length c6] rr ({D' with ca:=D'.ca++oJ aj L (iw+1) }:PD) (N+64) (w9.setCell ⟨p,9,none⟩ Vu)):=zH (by rw[abJ,<-Yz];exact hS2);obtain⟨hz,hhz⟩:∃h,h=wr.heap.size:=⟨_,rfl⟩;obtain⟨DS,hDS⟩:∃s,s=str (aJ [] L iw):=⟨_,rfl⟩;have hwl:wrap64 (aj+(iw:Int))=aj+(iw:Int):=wrl HLB.out hlt;have z1:=hS.x3.cell (i:=1) rfl;have HE4:Hid (∀r W,r<=1->wr3 wr.drew (wr.drew.alloc (.cells #[.int .i64 (aj+(iw:Nat)),.string DS] 131)) w9 (w9.setCell ⟨p,9,none⟩ Vu) r W->W.cell? ⟨p,9,none⟩=some vc9):=zH λr W hr h=>by
          rcases Nat.le_one_iff_eq_zero_or_eq_one.1 hr with rfl|rfl
          ·rw[show W=wr.drew from h];exact q1
          ·rw[show W=wr.drew.alloc (.cells #[.int .i64 (aj+(iw:Nat)),.string DS] 131) from h,hDS];exact q2
         have HE6:Hid (∀r W,r<=0->wr3 wr.drew (wr.drew.alloc (.cells #[.int .i64 (aj+(iw:Nat)),.string DS] 131)) w9 (w9.setCell ⟨p,9,none⟩ Vu) r W->W.cell? ⟨b3,1,none⟩=some (.int .i64 aj)):=zH λr W hr h=>by obtain rfl:r=0:=Nat.le_zero.1 hr;rw[show W=wr.drew from h];exact z1
         rw[<-hhz,<-hDS]at hrun;rw[<-hDS]at hcl;have HHZ:=zH hhz;have HAP:=zH hrun;have HK9:=zH (And.intro q3 (And.intro q4 q5));have HVF:=zH hform;have HCA:=zH hca;have IY:=zH hlt;have HI:=zH hi;clear hS hlt' kl2 ha hrange hlen q1 q2 q3 q4 q5 hrun hform hS2 hhz hDS z1 hca hi;go_upto_region 26 with (fail)
         clear hix hcl;refine lq (by kernel_rfl) (OB) (wr3 wr.drew (wr.drew.alloc (.cells #[.int .i64 (aj+(iw:Nat)),.string DS] 131)) w9 (w9.setCell ⟨p,9,none⟩ Vu)) (af0 p b3 iw hz aj DS vc9 Vu) (λ_=>false) aij 3 (by kernel_rfl) (by kernel_rfl) (.inl (by kernel_rfl)) (ZX p b3 iw hz aj DS vc9 Vu) (rfl) ⟨?_,?_,?_,?_,?s4,?_,?s6,?_,?s8,?_,?s10,?s11,?s12,?_,?_,?s15,trivial⟩ ?_;all_goals first
          | (intro r a W hc hsz hold ah hnot hlo hhi hrk
             have o0:a.tmps.getD 0 undef=.pointer (some ⟨p,0,none⟩):=hold 0 (by kernel_rfl);have o3:a.tmps.getD 3 undef=.pointer (some ⟨b3,0,none⟩):=hold 3 (by kernel_rfl);have Og:a.tmps.getD 10 undef=.int .i64 (iw:Nat):=hold 10 (by kernel_rfl);have o11:a.tmps.getD 11 undef=.string DS:=hold 11 (by kernel_rfl);try have d0:=zV 120 (.pointer (some ⟨p,0,none⟩)) (ah 0 rfl rfl _ rfl)
             try have d1:=zV 121 (.pointer (some ⟨p,0,none⟩)) (ah 1 rfl rfl _ rfl)
             try have d2:=zV 122 (.pointer (some ⟨p,0,none⟩)) (ah 2 rfl rfl _ rfl)
             try have d13:=zV 133 (.pointer (some ⟨p,0,none⟩)) (ah 13 rfl rfl _ rfl)
             clear hsz hold ah hnot hlo hhi hrk;refine ai rfl (ag rfl) ?_;refine aG (bG _ _ _) hc rfl λK hK=>?_
             go_simp;exact hK)
          |skip
         try case s4=>
          intro r a W hc hsz hold ah hnot hlo hhi hrk;have d3:=zV 123 (.pointer (some ⟨p,9,none⟩)) (ah 3 rfl rfl _ rfl);have hb:=hhi 12 1 rfl (by kernel_rfl);have c9:=HE4.out r W hb hc;clear hsz hold ah hnot hlo hhi hrk;refine ai rfl (ag rfl) ?_;refine aG (v:=vc9) (bG _ _ _) hc rfl λK hK=>?_
          go_simp;exact hK
         try case s6=>
          intro r a W hc hsz hold ah hnot hlo hhi hrk;have d5:=zV 125 (.pointer (some ⟨b3,1,none⟩)) (ah 5 rfl rfl _ rfl);have hb:=hhi 11 0 rfl (by kernel_rfl);have z1:=HE6.out r W hb hc;clear hsz hold ah hnot hlo hhi hrk;refine ai rfl (ag rfl) ?_;refine aG (v:=.int .i64 aj) (bG _ _ _) hc rfl λK hK=>?_
          go_simp;exact hK
         try case s8=>
          intro r a W hc hsz hold ah hnot hlo hhi hrk;have d6:=zV 126 (.int .i64 aj) (ah 6 rfl rfl _ rfl);have d7:=zV 127 (.int .i64 (iw:Nat)) (ah 7 rfl rfl _ rfl);clear hsz hold ah hnot hlo hhi hrk;refine ai rfl (ag rfl) ?_;refine aG (v:=.int .i64 (aj+(iw:Nat))) (bG _ _ _) hc rfl λK hK=>?_
          have hw8:IntKind.i64.wrap (aj+(iw:Int))=aj+(iw:Int):=(IntWalk.i64_left _).trans hwl;go_simp;exact hK
         try case s10=>
          intro r a W hc hsz hold ah hnot hlo hhi hrk;have d8:=zV 128 (.int .i64 (aj+(iw:Nat))) (ah 8 rfl rfl _ rfl);have e8:=zq d8;have d9:=zV 129 (.string DS) (ah 9 rfl rfl _ rfl);have e9:=zq d9;clear hsz hold ah hnot hlo hhi hrk;refine ai rfl (ag rfl) ?_;refine aG (v:=.agg #[.int .i64 (aj+(iw:Nat)),.string DS]) (bG _ _ _) hc rfl λK hK=>?_
          go_simp;exact hK
         try case s11=>
          intro r a W hc hsz hold ah hnot hlo hhi hrk;have hr:=hrk 0 rfl;subst hr;have d10:=zV 130 (.agg #[.int .i64 (aj+(iw:Nat)),.string DS]) (ah 10 rfl rfl _ rfl);have e10:=zq d10;clear hsz hold ah hnot hlo hhi hrk;refine ai rfl (ag rfl) ?_;replace hc:W=wr.drew:=hc;subst hc;refine iy (v:=.slice (some ⟨hz,0,none⟩) 1 1) (w':=wr.drew.alloc (.cells #[.int .i64 (aj+(iw:Nat)),.string DS] 131)) (bG _ _ _) (show wr3 _ _ _ _ 1 _ from rfl) rfl λK hK=>?_
          rw[HHZ.out]at hK;go_simp;exact hK
         try case s12=>
          intro r a W hc hsz hold ah hnot hlo hhi hrk;have hr:=hrk 1 rfl;subst hr;have d4:=zV 124 vc9 (ah 4 rfl rfl _ rfl);have e4:=zq d4;have d11:=zV 131 (.slice (some ⟨hz,0,none⟩) 1 1) (ah 11 rfl rfl _ rfl);have e11:=zq d11;clear hsz hold ah hnot hlo hhi hrk;refine ai rfl (ag rfl) ?_;replace hc:W=wr.drew.alloc (.cells #[.int .i64 (aj+(iw:Nat)),.string DS] 131):=hc;subst hc;refine iy (v:=Vu) (w':=w9) (bG _ _ _) (show wr3 _ _ _ _ 2 _ from rfl) rfl λK hK=>?_
          have hrun:=HAP.out;have v1:a.eval (.tmp 124)=vc9:=d4;have v2:a.eval (.tmp 131)=.slice (some ⟨hz,0,none⟩) 1 1:=d11;unfold Oper.wp execOp;simp only[resolve,invoke,builtin,Sem.run_bind,Sem.run_pure,Result.andThen_ok,List.map_toArray,Vh,Vg,v1,v2,hrun];exact hK
         try case s15=>
          intro r a W hc hsz hold ah hnot hlo hhi hrk;have hr:=hrk 2 rfl;subst hr;have d14:=zV 134 (.pointer (some ⟨p,9,none⟩)) (ah 14 rfl rfl _ rfl);have d12:=zV 132 Vu (ah 12 rfl rfl _ rfl);clear hsz hold ah hnot hlo hhi hrk;refine ai rfl (ag rfl) ?_;replace hc:W=w9:=hc;subst hc;have k9:=HK9.out.1;have kl:=HK9.out.2.1;have kf:=HK9.out.2.2;refine iy (v:=undef) (w':=W.setCell ⟨p,9,none⟩ Vu) (bG _ _ _) (show wr3 _ _ _ _ 3 _ from rfl) trivial λK hK=>?_
          obtain⟨a2,n2,cc2,hv2⟩:=HVF.out;subst hv2;go_simp;exact hK
         ·intro a W hC hd hsz hold hval;obtain⟨G,hG,ha⟩:=dK [120,121,122,123,124,125,126,127,128,129,130,131,132,133,134] (by kernel_rfl) hd hsz hold;rw[ha];clear ha hG hd hsz hold;simp only[cZ,Ym,List.set];replace hC:W=w9.setCell ⟨p,9,none⟩ Vu:=hC;subst hC;have hi:=IY.out;go_wp2_with fail;go_roundw;case rel=>exact⟨iw+1,by omega,by go_num,HSN⟩
          case measure=>simp[RowKit.intOf];omega
        ·obtain rfl:iw=m:=by omega
         obtain⟨vc5,X5,R5,hd5,hT5,agw,al2,h55⟩:=HSI.out.ex;have hx6:=HSI.out.x6;have e0:=hx6.cell (i:=0) rfl;have e1:=hx6.cell (i:=1) rfl;have e2:=hx6.cell (i:=2) rfl;have ul:=hd5.box.lt;have uf:=λiw=>hd5.box.free iw
         obtain⟨c0,c1,c2,c3,c4,Bf,c6',c7,c8,c9'⟩:=hd5.cells;obtain⟨w8,hw8⟩:∃w8,w8=((wr.setCell ⟨p,4,none⟩ (.int .i64 r.cl)).setCell ⟨p,5,none⟩ (.bool r.fin)).setCell ⟨p,6,none⟩ (.slice a6 r.l.length c6):=⟨_,rfl⟩;have ho8:fB p wr w8:=by rw[hw8];exact(((fB.refl p wr).set 4 _).set 5 _).set 6 _
         have hd8:=VY hd5 al2 (cl:=r.cl) (fin:=r.fin);rw[<-hw8]at hd8;have ht8:=Ch.put hT5 ho8 (λk hk=>hT5.x k (.inr (.inr (.inr hk)))) (λk hk=>.inr (HV6.out k hk));have hp:=agw p (.inl (.inl rfl));have Dl:Bx w8 b9 58 (rps rr):=(ho8.block b9 (Vb hp.2.2.2)).trans HSI.out.x9;have hx7:Bx w8 b4 58 aX:=(ho8.block b4 (Vb hp.2.1)).trans HSI.out.x4;have HD7:=zH hd8;have zO:=zH ht8;have HW8:=zH hw8.symm;have Ou:=zH hx7;have HX9:=zH Dl;have Cf:Hid (∀k,DX p vc5 EX X5 k\/DR (.slice a6 r.l.length c6) R5 k->k≠b4):=zH λk hk=>by
          rcases hk with h1|h1|h1
          ·exact(agw k (.inl h1)).2.1
          ·exact(agw k (.inr (.inl h1))).2.1
          ·exact anP.out k h1
         have vG:Hid (D'.M.Ok (N+64)):=zH HSI.out.ok;clear hd5 hT5 agw al2 h55 hx6 hw8 ho8 hd8 ht8 hp Dl hx7 hi hlt;go_upto_region 28 with (fail)
         go_upto_region 29 with (fail)
         rw[HW8.out];clear e0 e1 e2 ul uf c0 c1 c2 c3 c4 Bf c6' c7 c8 c9';have Dl:=HX9.out;unfold rps at Dl;have f0:=Dl.cell (i:=0) rfl;have f1:=Dl.cell (i:=1) rfl;have f2:=Dl.cell (i:=2) rfl;have f3:=Dl.cell (i:=3) rfl;have f4:=Dl.cell (i:=4) rfl;have f5:=Dl.cell (i:=5) rfl;have hx7:=Ou.out;unfold aX at hx7;have t0:=hx7.cell (i:=0) rfl;have t1:=hx7.cell (i:=1) rfl;have t2:=hx7.cell (i:=2) rfl;have t3:=hx7.cell (i:=3) rfl;have t4:=hx7.cell (i:=4) rfl;have t5:=hx7.cell (i:=5) rfl;have tf:=λiw=>hx7.free iw
         clear hx7 Dl;go_wp2_with fail;obtain rfl:=HZ5.out;exact zr (v:=jg rr (.slice none 0 0) (.slice none 0 0)) (by simp[results,results77,go_sem,jg,t0,t1,t2,t3,t4,t5]) rfl ⟨.slice a6 r.l.length c6,vc5,X5,R5,rfl,ji (by rw[HM.out]at HD7;exact HD7.out) Cf.out _ _ _ _ _ _,lX zO.out HB4.out.2.2.2 _ _ _ _ _ _,vG.out⟩
end T7
end Go.Proofs.YtfnehkmhcmkhjaaGreat
