/- Parts:XKj -/
import Derived.Test.YtfnehkmhcmkhjaaGreatDvAl
import Derived.Test.YtfnehkmhcmkhjaaGreatDv39
set_option maxRecDepth 100000
set_option maxHeartbeats 8000000
set_option linter.unusedVariables false
namespace Go.Proofs.YtfnehkmhcmkhjaaGreat
open Tryz
namespace T7
open Go Go.RowKit C9 oH
theorem WR(x:List UInt8)(hx:x.length<=9223372036854775807)(W:World):Calls prog 151 #[.string (str x)] W fun e w'=>e=.returned (.bool (Ar 2048 x))/\W=w':=by have hsz:=ax x;have hsz2:(str x).data.size=x.length:=hsz;unfold Ar;generalize str x=s at *;generalize x.length=n at *;go_enter func151,ntmps151;go_wp2_with fail;go_ret;exact⟨fQ (by by_cases h:n=2048 <;> simp[h] <;> omega),rfl⟩
def lI(aj:Int)(L:List (List UInt8))(k:Nat):List (Int×List UInt8):=(List.range k).map fun i=>(aj+(i:Nat),bF [] L i)
theorem Qw(aj:Int)(L:List (List UInt8))(k:Nat):lI aj L (k+1)=lI aj L k++[(aj+(k:Nat),bF [] L k)]:=by simp[lI,List.range_succ]
theorem Ih(aj:Int)(L:List (List UInt8))(k:Nat):(lI aj L k).length=k:=by simp[lI]
def Lp(L:List (List UInt8)):Prop:=1<=L.length/\L.length<=64/\anyS (Ar 2048) L=false
instance (L:List (List UInt8)):Decidable (Lp L):=by unfold Lp; infer_instance
noncomputable def Aa(n:Nat)(D:PD):Rp×PD:=if 64<D.ca.length+n then(nJ (jm D.M D.ca).2.1 (jm D.M D.ca).2.2,{ D with M:=(jm D.M D.ca).1,ca:=[] }) else(Rp.ok,D)
noncomputable def IE(aj:Int)(L:List (List UInt8))(r:eY)(D:PD):Rp×PD:=
 if ¬ Lp L then(Rp.sense 4 0,D) else if D.fin=true then(Rp.sense 5 0,D)
 else if r.code=0 then((Aa L.length D).1,({ (Aa L.length D).2 with ca:=(Aa L.length D).2.ca++lI aj L L.length }:PD).sU r.cl r.fin r.l)
 else if r.code=2 then(Rp.sense 6 aj,D) else if r.code=12 then(Rp.sense 7 aj,D) else(Rp.sense 4 0,D)
section
variable {aj:Int} {L:List (List UInt8)} {r:eY} {D:PD}
theorem Zz(h:¬ Lp L):IE aj L r D=(Rp.sense 4 0,D):=by unfold IE; rw[zj h]
theorem Zy(h:Lp L)(h1:D.fin=true):IE aj L r D=(Rp.sense 5 0,D):=by unfold IE; rw[zi (not_not_intro h),zj h1]
theorem NM(h:Lp L)(h1:D.fin=false):IE aj L r D=if r.code=0 then((Aa L.length D).1,({ (Aa L.length D).2 with ca:=(Aa L.length D).2.ca++lI aj L L.length }:PD).sU r.cl r.fin r.l)
 else if r.code=2 then(Rp.sense 6 aj,D) else if r.code=12 then(Rp.sense 7 aj,D) else(Rp.sense 4 0,D):=by unfold IE; rw[zi (not_not_intro h),zi (by rw[h1]; decide)]
end
theorem Sr{w w2:World}{p pm b:Nat}{D:PD}{df:Option Addr}{vt vc:Value}{E:World->Prop}{EX Xm Rm:Nat->Prop}(h:fH w p D pm df vt vc E EX Xm Rm)(ho:bU b w w2)(hb:∀k,DX p vc EX Xm k\/DR vt Rm k->k≠b):fH w2 p D pm df vt vc E EX Xm Rm:=
 h.keep (Nat.le_of_eq ho.size.symm) fun k hk=>ho.block k (hb k hk)
theorem WA{w0 w w2:World}{X0 R0 X R:Nat->Prop}{b:Nat}(h:Ch X0 R0 X R w0 w)(ho:bU b w w2)(hb:w0.heap.size<=b):Ch X0 R0 X R w0 w2:=
 ⟨ho.os.trans h.os,ho.tape.trans h.tape,ho.output.trans h.output,by rw[ho.size]; exact h.size,fun k hk hx=>(ho.block k (by omega)).trans (h.block k hk hx),h.x,h.r⟩
theorem Held.only{w w2:World}{v:Value}{l:List T.az}{X:Nat->Prop}{b:Nat}(h:Held w v l X)(ho:bU b w w2)(hb:∀k,v.ownBlock=some k->k≠b):Held w2 v l X:=
 ⟨iK h.rd fun k hk=>ho.block k (hb k hk),fun k hk=>by rw[ho.size]; exact h.lt k hk,h.ap⟩
theorem Rn{cap cl:Int}{fin:Bool}{l:List T.az}{aj n:Int}(hv:T.aQ cap cl fin l)(h0:(aZ cap cl fin l aj n).code=0):T.Step cap cl fin l (aZ cap cl fin l aj n).cl (aZ cap cl fin l aj n).fin (aZ cap cl fin l aj n).l:=(jG hv 1 aj n false).ok h0
theorem aap{cap cl:Int}{fin:Bool}{l:List T.az}{aj n:Int}(hv:T.aQ cap cl fin l)(h0:(aZ cap cl fin l aj n).code=0)(e:(aZ cap cl fin l aj n).l = []):False:=NJ hv (Rn hv h0) e
theorem Wj{cap cl:Int}{fin:Bool}{l:List T.az}{aj:Int}{n:Nat}(hv:T.aQ cap cl fin l)(h0:(aZ cap cl fin l aj n).code=0):1<=n:=by obtain⟨k,hk,_,h2,h3,h4,_⟩:=(jG hv 1 aj n false).app h0 rfl;omega
theorem aao{cap cl:Int}{fin:Bool}{l:List T.az}{aj:Int}{n:Nat}(hv:T.aQ cap cl fin l)(h0:(aZ cap cl fin l aj n).code=0):0<=aj/\aj+(n:Int)<=449849:=by obtain⟨k,hk,_,h2,h3,h4,_⟩:=(jG hv 1 aj n false).app h0 rfl;have ha:=T.aQ.at hv hk;have hn:=hv.2.1;omega
theorem wrl{aj:Int}{i m:Nat}(h:0<=aj/\aj+(m:Int)<=449849)(hi:i<m):wrap64 (aj+(i:Int))=aj+(i:Int):=by unfold wrap64; omega
theorem XG{a i m:Nat}(h1:a<=64)(h2:i<m)(h3:m<=64):a+i<=1000:=by omega
theorem adS{a m:Nat}(h1:a<=64)(h2:m<=64):wrap64 ((a:Int)+(m:Int))=(a:Int)+(m:Int):=by unfold wrap64; omega
theorem Wy{a m:Nat}(h:64<a+m):(64:Int)<(a:Int)+(m:Int):=by omega
theorem RJ{a m:Nat}(h:¬ 64<a+m):¬ (64:Int)<(a:Int)+(m:Int):=by omega
def wr3(wr wa w2 w3:World)(r:Nat)(W:World):Prop:=W=(match r with | 0=>wr | 1=>wa | 2=>w2 | _=>w3)
def EU(_:Nat)(_ _:World):Prop:=True
theorem bG(r:Nat)(w w':World):EU r w w':=trivial
def WQ(p n0 n b3:Nat)(cl:Int)(fin:Bool)(vt:Value)(aj cnt aN pk:Int)(r:eY)(m:Nat)(i:Nat)(v:Value)(d:Nat->Value)(W:World):Prop:=match i with
 | 0=>v=.pointer (some ⟨p,0,none⟩)
 | 1=>v=.pointer (some ⟨p,0,none⟩)
 | 2=>v=.pointer (some ⟨p,1,none⟩)
 | 3=>v=.int .i64 n
 | 4=>v=.pointer (some ⟨p,0,none⟩)
 | 5=>v=.pointer (some ⟨p,0,none⟩)
 | 6=>v=.pointer (some ⟨p,4,none⟩)
 | 7=>v=.agg #[.int .i64 cl,.bool fin,vt]
 | 8=>v=.pointer (some ⟨b3,1,none⟩)
 | 9=>v=.int .i64 aj
 | 10=>v=.int .i64 m
 | 11=>∃v':Value,v=.tuple #[au r.cl r.fin v',.int .i64 r.code]/\gm W n0 v' r.l
 | 12=>∃v':Value,v=.tuple #[au r.cl r.fin v',.int .i64 r.code]/\gm W n0 v' r.l
 | 13=>∃v':Value,v=au r.cl r.fin v'/\gm W n0 v' r.l
 | 14=>v=.int .i64 r.code
 | 15=>∃g,v=.pointer (some ⟨g,0,none⟩)/\n0<=g/\∃cs:List Value,cs.length=3/\Bx W g 37 cs
 | 16=>∃g,d 15=.pointer (some ⟨g,0,none⟩)/\n0<=g/\∃cs:List Value,cs.length=3/\Bx W g 37 cs/\(fun W cs=>∃v':Value,cs = [.int .i64 r.cl,.bool r.fin,v']/\gm W n0 v' r.l) W cs
 | 17=>v=.int .i64 r.code
 | _=>True
theorem Ou(p n0 n b3:Nat)(cl:Int)(fin:Bool)(vt:Value)(aj cnt aN pk:Int)(r:eY)(m:Nat)(i:Nat)(v:Value)(d:Nat->Value)(W W':World)(hR:(aI n0 37 3 (fun W cs=>∃v':Value,cs = [.int .i64 r.cl,.bool r.fin,v']/\gm W n0 v' r.l)) W W')(h:WQ p n0 n b3 cl fin vt aj cnt aN pk r m i v d W):WQ p n0 n b3 cl fin vt aj cnt aN pk r m i v d W':=by
 by_cases h11:i=11
 ·subst h11;obtain⟨v',h1,h2⟩:=h;exact⟨v',h1,aI.dW hR (by decide) h2.1,h2.2⟩
 by_cases h12:i=12
 ·subst h12;obtain⟨v',h1,h2⟩:=h;exact⟨v',h1,aI.dW hR (by decide) h2.1,h2.2⟩
 by_cases h13:i=13
 ·subst h13;obtain⟨v',h1,h2⟩:=h;exact⟨v',h1,aI.dW hR (by decide) h2.1,h2.2⟩
 by_cases h15:i=15
 ·subst h15;obtain⟨g,h1,h2,h3⟩:=h;exact⟨g,h1,h2,aI.some hR h3⟩
 by_cases h16:i=16
 ·subst h16;obtain⟨g,h1,h2,h3⟩:=h;exact⟨g,h1,h2,aI.full hR (fun cs h=>(by obtain⟨v',h1,h2⟩:=h; exact⟨v',h1,aI.dW hR (by decide) h2.1,h2.2⟩)) h3⟩
 unfold WQ at h ⊢;split at h <;> first | exact h | exact absurd rfl h11 | exact absurd rfl h12 | exact absurd rfl h13 | exact absurd rfl h15 | exact absurd rfl h16
def WO(p b3 iw hz:Nat)(aj:Int)(DS:ByteArray)(Vh Ld:Value)(i:Nat)(v:Value)(W:World):Prop:=match i with
 | 0=>v=.pointer (some ⟨p,0,none⟩)
 | 1=>v=.pointer (some ⟨p,0,none⟩)
 | 2=>v=.pointer (some ⟨p,0,none⟩)
 | 3=>v=.pointer (some ⟨p,9,none⟩)
 | 4=>v=Vh
 | 5=>v=.pointer (some ⟨b3,1,none⟩)
 | 6=>v=.int .i64 aj
 | 7=>v=.int .i64 (iw:Nat)
 | 8=>v=.int .i64 (aj+(iw:Nat))
 | 9=>v=.string DS
 | 10=>v=.agg #[.int .i64 (aj+(iw:Nat)),.string DS]
 | 11=>v=.slice (some ⟨hz,0,none⟩) 1 1
 | 12=>v=Ld
 | 13=>v=.pointer (some ⟨p,0,none⟩)
 | 14=>v=.pointer (some ⟨p,9,none⟩)
 | _=>True
def Y9:Nat->Option Nat
 | 11=>some 0
 | 12=>some 1
 | 15=>some 2
 | _=>none
theorem Ot(p b3 iw hz:Nat)(aj:Int)(DS:ByteArray)(Vh Ld:Value)(i r:Nat)(v:Value)(W W':World)(hk:∀k,Y9 i=some k->k<r)(hR:(EU) r W W')(h:WO p b3 iw hz aj DS Vh Ld i v W):WO p b3 iw hz aj DS Vh Ld i v W':=by unfold WO at h ⊢;split at h <;> first | exact h
theorem YI{w w0:World}{p pm N:Nat}{D:PD}{vt vc:Value}{E:World->Prop}{EX Xm Rm X0 R0:Nat->Prop}(h:fH w p D pm none vt vc E EX Xm Rm)(hc:Ch X0 R0 (DX p vc EX Xm) (DR vt Rm) w0 w)(ho:D.Ok N)(hN:N<=4611686018427380000)
 (k aj cnt aN pk:Int)(hi:i64 aj)(a5:Option Addr)(c5:Nat)(L:List (List UInt8))(hL:gU w (.slice a5 L.length c5) L)(hLx:1<=L.length->∀b,(Value.slice a5 L.length c5).ownBlock=some b->b<w.heap.size/\¬ DX p vc EX Xm b)(hn:L.length<=9223372036854775807)(hz:∀x ∈ L,x.length<=9223372036854775807)
 (r:eY)(hr:r=aZ D.n D.cl D.fin D.tr aj L.length):
 Calls prog 77 #[.pointer (some ⟨p,0,none⟩),dR k aj cnt aN pk (.slice a5 L.length c5)] w (oK w0 X0 R0 p pm none E EX (N+64) (IE aj L r D).1 (IE aj L r D).2):=by
 obtain⟨wA,hwA⟩:∃w1,w1=(w.alloc (.cells #[.int .i64 k,.int .i64 aj,.int .i64 cnt,.int .i64 aN,.int .i64 pk,.slice a5 L.length c5] 49)).alloc (.cells aO.toArray 58):=⟨_,rfl⟩;obtain⟨b3,hb3⟩:∃b,b=w.heap.size:=⟨_,rfl⟩;obtain⟨b4,hb4⟩:∃b,b=w.heap.size+1:=⟨_,rfl⟩;have hA1:=(zB w.heap.size w).alloc (zl _) (.cells #[.int .i64 k,.int .i64 aj,.int .i64 cnt,.int .i64 aN,.int .i64 pk,.slice a5 L.length c5] 49);have hA:=hA1.alloc hA1.size (.cells aO.toArray 58);have bT:Bx ((w.alloc (.cells #[.int .i64 k,.int .i64 aj,.int .i64 cnt,.int .i64 aN,.int .i64 pk,.slice a5 L.length c5] 49)).alloc (.cells aO.toArray 58)) w.heap.size 49 [.int .i64 k,.int .i64 aj,.int .i64 cnt,.int .i64 aN,.int .i64 pk,.slice a5 L.length c5]:=(Bx.new w 49 [.int .i64 k,.int .i64 aj,.int .i64 cnt,.int .i64 aN,.int .i64 pk,.slice a5 L.length c5]).alloc _;have hbx:=Bx.new (w.alloc (.cells #[.int .i64 k,.int .i64 aj,.int .i64 cnt,.int .i64 aN,.int .i64 pk,.slice a5 L.length c5] 49)) 58 aO;rw[<-hwA]at hA hbx bT;rw[World.size_alloc,<-hb4]at hbx;rw[<-hb3]at bT;have hd1:=h.below hA;have Am:=zH (hc.trans (Ch.of hA));have sQ:=zH hd1;have Iz:=zH hbx;have CP:=zH bT;have QG:=zH h.lo;have HLW:=zH (dX.keep hL hA);have HLX:=zH hLx;have QJ:=zH hA.size;have HF:=zH (fun(afJ:L.length<=64)=>aaw 151 (fun _ _=>by kernel_rfl) (Ar 2048) (.slice a5 L.length c5) L wA (dX.keep hL hA) (by omega) (fun x W hx=>WR x (hz x hx) W));obtain⟨c0,c1,c2,c3,c4,oJ,c6,c7,c8,c9'⟩:=hd1.cells;have x1:=bT.cell (i:=1) rfl;have x5:=bT.cell (i:=5) rfl;have wE:Hid ((w.alloc (.cells #[.int .i64 k,.int .i64 aj,.int .i64 cnt,.int .i64 aN,.int .i64 pk,.slice a5 L.length c5] 49)).alloc (.cells #[.int .i64 0,.int .i64 0,.slice none 0 0,.int .i64 0,.bool false,.slice none 0 0] 58)=wA):=zH hwA.symm;have qh:=zH hb4;have HB3:=zH hb3;have HB4:Hid (b3<wA.heap.size/\b4<wA.heap.size/\(∀b,DX p vc EX Xm b\/DR vt Rm b->b≠b3/\b≠b4)/\w0.heap.size<=b4):=zH ⟨bT.lt,hbx.lt,fun b hb=>by have:=h.lo b hb; omega,by have:=hc.size; omega⟩;have EN:Hid (∀b,DX p vc EX Xm b\/DR vt Rm b->b≠b4):=zH fun b hb=>(HB4.out.2.2.1 b hb).2
 have HO:=zH ho;have LC:Hid (D.M.Ok (N+64)):=zH (ho.md.mono (by omega));have HK0:Hid ((D.kind:Int)≠0):=zH (by rw[ho.kind]; decide);obtain⟨Z,hZ⟩:∃Z,Z=IE aj L r D:=⟨_,rfl⟩;rw[<-hZ];have HZG:Hid (¬ Lp L->Z=(Rp.sense 4 0,D)):=zH fun h=>hZ.trans (Zz h)
 have YW:Hid (Lp L->D.fin=true->Z=(Rp.sense 5 0,D)):=zH fun h h1=>hZ.trans (Zy h h1)
 have HZR:=zH fun(h:Lp L) (h1:D.fin=false)=>hZ.trans (NM h h1)
 have HR:=zH hr;obtain⟨m,hm⟩:∃m,m=L.length:=⟨_,rfl⟩;have HM:=zH hm;have HGD:Hid (Lp L↔1<=m/\m<=64/\anyS (Ar 2048) L=false):=zH (by rw[hm]; exact Iff.rfl);rw[<-hm]at HF x5 hn wE ⊢;obtain⟨any,hany⟩:∃b,b=anyS (Ar 2048) L:=⟨_,rfl⟩;rw[<-hany]at HF HGD;clear hwA hb3 hb4 hA1 hA hbx bT h hc ho hd1 hr hL hLx hz hZ hm hany;unfold dR;go_enter func77,ntmps77;go_upto_region 1 with (fail)
 rw[wE.out,<-qh.out,<-HB3.out];by_cases hg:Lp L;case neg=>
  obtain rfl:=HZG.out hg;rw[HGD.out]at hg;by_cases hs:1<=m/\m<=64
  ·obtain rfl:any=true:=by
    cases any
    ·exact absurd ⟨hs.1,hs.2,rfl⟩ hg
    ·rfl
   obtain⟨hs1,hs2⟩:=hs;go_wp2_with fail;refine(HF.out hs2).mono ?_;rintro e w6 ⟨rfl,rfl⟩;have jO:=zH (fU 4 0 wA);unfold dL Rp.sense at jO;go_wp2_with fail;refine jO.out.mono ?_;rintro e w7 ⟨rfl,hb7⟩;have HD7:=zH (sQ.out.below hb7);have kF:=zH (Am.out.trans (Ch.of (X:=DX p vc EX Xm) (R:=DR vt Rm) hb7));have hx7:=Iz.out.call hb7;clear hb7;unfold aO at hx7;have t0:=hx7.cell (i:=0) rfl;have t1:=hx7.cell (i:=1) rfl;have t2:=hx7.cell (i:=2) rfl;have t3:=hx7.cell (i:=3) rfl;have t4:=hx7.cell (i:=4) rfl;have t5:=hx7.cell (i:=5) rfl;have tf:=fun i=>hx7.free i
   clear hx7;go_wp2_with fail;exact zr (v:=dL (Rp.sense 4 0) (.slice none 0 0) (.slice none 0 0)) (by simp[results,results77,go_sem,dL,Rp.sense,t0,t1,t2,t3,t4,t5]) rfl ⟨vt,vc,Xm,Rm,rfl,dG HD7.out EN.out _ _ _ _ _ _,fB kF.out HB4.out.2.2.2 _ _ _ _ _ _,LC.out⟩
  ·by_cases hs1:m<1
   ·go_upto_region 3 with (fail)
    have jO:=zH (fU 4 0 wA);unfold dL Rp.sense at jO;go_wp2_with fail;refine jO.out.mono ?_;rintro e w7 ⟨rfl,hb7⟩;have HD7:=zH (sQ.out.below hb7);have kF:=zH (Am.out.trans (Ch.of (X:=DX p vc EX Xm) (R:=DR vt Rm) hb7));have hx7:=Iz.out.call hb7;clear hb7;unfold aO at hx7;have t0:=hx7.cell (i:=0) rfl;have t1:=hx7.cell (i:=1) rfl;have t2:=hx7.cell (i:=2) rfl;have t3:=hx7.cell (i:=3) rfl;have t4:=hx7.cell (i:=4) rfl;have t5:=hx7.cell (i:=5) rfl;have tf:=fun i=>hx7.free i
    clear hx7;go_wp2_with fail;exact zr (v:=dL (Rp.sense 4 0) (.slice none 0 0) (.slice none 0 0)) (by simp[results,results77,go_sem,dL,Rp.sense,t0,t1,t2,t3,t4,t5]) rfl ⟨vt,vc,Xm,Rm,rfl,dG HD7.out EN.out _ _ _ _ _ _,fB kF.out HB4.out.2.2.2 _ _ _ _ _ _,LC.out⟩
   ·have hs2:64<m:=by omega
    go_upto_region 3 with (fail)
    have jO:=zH (fU 4 0 wA);unfold dL Rp.sense at jO;go_wp2_with fail;refine jO.out.mono ?_;rintro e w7 ⟨rfl,hb7⟩;have HD7:=zH (sQ.out.below hb7);have kF:=zH (Am.out.trans (Ch.of (X:=DX p vc EX Xm) (R:=DR vt Rm) hb7));have hx7:=Iz.out.call hb7;clear hb7;unfold aO at hx7;have t0:=hx7.cell (i:=0) rfl;have t1:=hx7.cell (i:=1) rfl;have t2:=hx7.cell (i:=2) rfl;have t3:=hx7.cell (i:=3) rfl;have t4:=hx7.cell (i:=4) rfl;have t5:=hx7.cell (i:=5) rfl;have tf:=fun i=>hx7.free i
    clear hx7;go_wp2_with fail;exact zr (v:=dL (Rp.sense 4 0) (.slice none 0 0) (.slice none 0 0)) (by simp[results,results77,go_sem,dL,Rp.sense,t0,t1,t2,t3,t4,t5]) rfl ⟨vt,vc,Xm,Rm,rfl,dG HD7.out EN.out _ _ _ _ _ _,fB kF.out HB4.out.2.2.2 _ _ _ _ _ _,LC.out⟩
 case pos=>
  have HG:=zH hg;obtain⟨hs1,hs2,rfl⟩:=HGD.out.1 hg;clear hg;go_upto_region 2 with (fail)
  have hkn:¬ D.kind=0:=fun e=>HK0.out (by rw[e]; rfl)
  cases hfin:D.fin with
  | true=>
    obtain rfl:=YW.out HG.out hfin;have hfb:=oJ.trans (congrArg (fun b=>some (Value.bool b)) hfin);go_upto_region 5 with (go_at_call 38; refine(HF.out hs2).mono ?_; rintro e w6 ⟨rfl,rfl⟩)
    have jO:=zH (fU 5 0 wA);unfold dL Rp.sense at jO;go_wp2_with fail;refine jO.out.mono ?_;rintro e w7 ⟨rfl,hb7⟩;have HD7:=zH (sQ.out.below hb7);have kF:=zH (Am.out.trans (Ch.of (X:=DX p vc EX Xm) (R:=DR vt Rm) hb7));have hx7:=Iz.out.call hb7;clear hb7;unfold aO at hx7;have t0:=hx7.cell (i:=0) rfl;have t1:=hx7.cell (i:=1) rfl;have t2:=hx7.cell (i:=2) rfl;have t3:=hx7.cell (i:=3) rfl;have t4:=hx7.cell (i:=4) rfl;have t5:=hx7.cell (i:=5) rfl;have tf:=fun i=>hx7.free i
    clear hx7;go_wp2_with fail;exact zr (v:=dL (Rp.sense 5 0) (.slice none 0 0) (.slice none 0 0)) (by simp[results,results77,go_sem,dL,Rp.sense,t0,t1,t2,t3,t4,t5]) rfl ⟨vt,vc,Xm,Rm,rfl,dG HD7.out EN.out _ _ _ _ _ _,fB kF.out HB4.out.2.2.2 _ _ _ _ _ _,LC.out⟩
  | false=>
    have HZ3:=zH (HZR.out HG.out hfin);obtain⟨av,cv,hvt,_⟩:=bK.form sQ.out.tr;rw[hfin]at oJ;have hb6:=Bx.new wA 37 [.int .i64 D.cl,.bool D.fin,vt];have QL:=(zB wA.heap.size wA).alloc (zl _) (.cells #[.int .i64 D.cl,.bool D.fin,vt] 37);obtain⟨w1,hw1⟩:∃w1,w1=wA.alloc (.cells #[.int .i64 D.cl,.bool D.fin,vt] 37):=⟨_,rfl⟩;obtain⟨b6,aaR⟩:∃b,b=wA.heap.size:=⟨_,rfl⟩;rw[<-hw1]at QL;have hx6:Bx w1 b6 37 [.int .i64 D.cl,.bool D.fin,vt]:=by rw[hw1,aaR]; exact hb6
    have hd1:=sQ.out.below QL;have HD1:=zH hd1;have HT1:=zH (Am.out.trans (Ch.of (X:=DX p vc EX Xm) (R:=DR vt Rm) QL));have HX1:=zH (Iz.out.call QL);have acv:=zH (CP.out.call QL);have aeL:=zH hx6;have HL1:=zH (dX.keep HLW.out QL);obtain⟨n0,hn0⟩:∃n,n=w1.heap.size:=⟨_,rfl⟩;have lD:=zH hn0;have EG:Hid (b6<n0/\b6=wA.heap.size/\wA.heap.size<=n0):=zH ⟨by rw[hn0]; exact hx6.lt,aaR,by rw[hn0]; exact QL.size⟩;have QH:Hid (∀W,Below n0 w1 W->Calls prog 153 #[.int .i64 D.n,au D.cl D.fin vt,.int .i64 aj,.int .i64 m] W (oL r W)):=zH fun W hW=>by rw[HR.out,HM.out];exact EY D.n D.cl D.fin vt D.tr aj L.length W (aW.keep hd1.tr (hW.mono (Nat.le_of_eq hn0.symm))) (gz HO.out.v) (by have:=HM.out; unfold i64; omega) hi
    obtain⟨d0,d1,d2,d3,d4,d5,d6,d7,d8,d9⟩:=hd1.cells;have hpl:=hd1.box.lt;have jD:Hid (∀W,Below n0 w1 W->W.cell? ⟨p,1,none⟩=some (.int .i64 D.n)/\W.cell? ⟨p,4,none⟩=some (.int .i64 D.cl)/\W.cell? ⟨p,5,none⟩=some (.bool D.fin)/\W.cell? ⟨p,6,none⟩=some vt/\W.cell? ⟨b3,1,none⟩=some (.int .i64 aj)):=zH fun W hW=>by have hx:=acv.out.call (by rw[hn0]at hW; exact hW);exact⟨(hW.cell (p:=⟨p,1,none⟩) (by rw[hn0]; exact hpl)).trans d1,(hW.cell (p:=⟨p,4,none⟩) (by rw[hn0]; exact hpl)).trans d4,(hW.cell (p:=⟨p,5,none⟩) (by rw[hn0]; exact hpl)).trans d5,(hW.cell (p:=⟨p,6,none⟩) (by rw[hn0]; exact hpl)).trans d6,hx.cell (i:=1) rfl⟩
    have V3:=zH (yE d0);have ZU:Hid (((D.kind:Nat):Int)=1):=zH (by rw[HO.out.kind]; rfl);have HW1:Hid (wA.alloc (.cells #[.int .i64 D.cl,.bool D.fin,vt] 37)=w1):=zH hw1.symm;have VX:=zH hfin;rw[hfin,hvt]at HW1;have c6o:=(sQ.out.cells).2.2.2.2.2.2.1;rw[hvt]at c6o;clear hw1 aaR hb6 QL hx6 hd1 hn0 c6 d0 d1 d2 d3 d4 d5 d6 d7 d8 d9 hpl;go_upto_region 6 with (go_at_call 38; refine(HF.out hs2).mono ?_; rintro e w6 ⟨rfl,rfl⟩)
    go_upto_region 7 with (fail)
    rw[HW1.out,<-EG.out.2.1];clear c1 c2 c3 c4 oJ c6o c7 c8 c9';go_upto_region 8 with (refine V3.out.mono ?_; rintro e w6 ⟨rfl,rfl⟩; rw[zt ZU.out])
    obtain⟨n,hnn⟩:∃n,n=D.n:=⟨_,rfl⟩;obtain⟨cl,hcl⟩:∃n,n=D.cl:=⟨_,rfl⟩;obtain⟨fin,hfi⟩:∃n,n=D.fin:=⟨_,rfl⟩;rw[<-hnn,<-hcl,<-hfi]at jD QH;have HVT:=zH hvt;have HS:=zH (And.intro hs1 hs2);clear hnn hcl hfi hvt hs1 hs2 hkn hfin hn HZR HZG YW HF HK0 HGD HG;unfold au at QH;refine dw (by kernel_rfl) (aI n0 37 3 (fun W cs=>∃v':Value,cs = [.int .i64 r.cl,.bool r.fin,v']/\gm W n0 v' r.l)) (fun W=>Below n0 w1 W) (WQ p n0 n b3 cl fin vt aj cnt aN pk r m) (fun _=>false) (by kernel_rfl) (fun W W' hR h=>h.trans hR.1) (Ou p n0 n b3 cl fin vt aj cnt aN pk r m) ((zB _ _).drew) ⟨?_,?_,?_,?s3,?_,?_,?_,?s7,?_,?s9,?_,?s11,?s12,?s13,?s14,?s15,?s16,?_,trivial⟩ ?_;all_goals first
     | (intro a W hc hsz hold ah
        have o0:a.tmps.getD 0 undef=.pointer (some ⟨p,0,none⟩):=hold 0 (by kernel_rfl);have o3:a.tmps.getD 3 undef=.pointer (some ⟨b3,0,none⟩):=hold 3 (by kernel_rfl);have o5:a.tmps.getD 5 undef=.int .i64 m:=hold 5 (by kernel_rfl);try have d0:=zV 47 (.pointer (some ⟨p,0,none⟩)) (ah 0 rfl rfl _ rfl)
        try have d1:=zV 48 (.pointer (some ⟨p,0,none⟩)) (ah 1 rfl rfl _ rfl)
        try have d4:=zV 51 (.pointer (some ⟨p,0,none⟩)) (ah 4 rfl rfl _ rfl)
        try have d5:=zV 52 (.pointer (some ⟨p,0,none⟩)) (ah 5 rfl rfl _ rfl)
        try have d14:=zV 60 (.int .i64 r.code) (ah 14 rfl rfl _ rfl)
        clear hsz hold ah;refine ai rfl (ag rfl) ?_;refine aA aI.refl rfl fun K hK=>?_
        go_simp;exact hK)
     | skip
    try case s3=>
     intro a W hc hsz hold ah;have d2:=zV 49 (.pointer (some ⟨p,1,none⟩)) (ah 2 (by kernel_rfl) rfl _ rfl);obtain⟨q1,q4,q5,q6,z1⟩:=jD.out W hc;clear hsz hold ah;refine ai rfl (ag rfl) ?_;refine aA (v:=.int .i64 n) aI.refl rfl fun K hK=>?_
     go_simp;exact hK
    try case s7=>
     intro a W hc hsz hold ah;have d6:=zV 53 (.pointer (some ⟨p,4,none⟩)) (ah 6 (by kernel_rfl) rfl _ rfl);obtain⟨q1,q4,q5,q6,z1⟩:=jD.out W hc;clear hsz hold ah;refine ai rfl (ag rfl) ?_;refine aA (v:=.agg #[.int .i64 cl,.bool fin,vt]) aI.refl rfl fun K hK=>?_
     go_simp;exact hK
    try case s9=>
     intro a W hc hsz hold ah;have d8:=zV 55 (.pointer (some ⟨b3,1,none⟩)) (ah 8 (by kernel_rfl) rfl _ rfl);obtain⟨q1,q4,q5,q6,z1⟩:=jD.out W hc;clear hsz hold ah;refine ai rfl (ag rfl) ?_;refine aA (v:=.int .i64 aj) aI.refl rfl fun K hK=>?_
     go_simp;exact hK
    try case s11=>
     intro a W hc hsz hold ah;have d3:=zV 50 (.int .i64 n) (ah 3 (by kernel_rfl) rfl _ rfl);have e3:=zq d3;have d7:=zV 54 (.agg #[.int .i64 cl,.bool fin,vt]) (ah 7 (by kernel_rfl) rfl _ rfl);have e7:=zq d7;have d9:=zV 56 (.int .i64 aj) (ah 9 (by kernel_rfl) rfl _ rfl);have e9:=zq d9;have d10:=zV 57 (.int .i64 m) (ah 10 (by kernel_rfl) rfl _ rfl);have e10:=zq d10;clear hsz hold ah;refine ai rfl (ag rfl) ?_;refine gI fun K hK=>?_
     go_simp;refine(QH.out W hc).mono ?_;rintro e w' ⟨v',rfl,hF,hb'⟩;exact hK _ _ (aI.call (by rw[lD.out]; exact hc.size) hb') ⟨v',rfl,hF.1,fun k hk=>by have:=hF.2 k hk; have:=hc.size; have:=lD.out; omega⟩
    try case s12=>
     intro a W hc hsz hold ah;have x11:=ah 11 (by kernel_rfl) rfl _ rfl;clear hsz hold ah;refine ai rfl (ag rfl) ?_;obtain⟨v',hv,hF⟩:=x11;replace hv:a.tmps.getD 58 undef=.tuple #[au r.cl r.fin v',.int .i64 r.code]:=hv;have hw:=zq hv;unfold au at hv hw;refine bf (v:=.tuple #[au r.cl r.fin v',.int .i64 r.code]) aI.refl ⟨v',rfl,hF⟩ fun K hK=>?_
     unfold au at hK;go_simp;exact hK
    try case s13=>
     intro a W hc hsz hold ah;have x12:=ah 12 (by kernel_rfl) rfl _ rfl;clear hsz hold ah;refine ai rfl (ag rfl) ?_;obtain⟨v',hv,hF⟩:=x12;replace hv:a.tmps.getD 46 undef=.tuple #[au r.cl r.fin v',.int .i64 r.code]:=hv;have hw:=zq hv;unfold au at hv hw;refine bf (v:=au r.cl r.fin v') aI.refl ⟨v',rfl,hF⟩ fun K hK=>?_
     unfold au at hK;go_simp;exact hK
    try case s14=>
     intro a W hc hsz hold ah;have x12:=ah 12 (by kernel_rfl) rfl _ rfl;clear hsz hold ah;refine ai rfl (ag rfl) ?_;obtain⟨v',hv,hF⟩:=x12;replace hv:a.tmps.getD 46 undef=.tuple #[au r.cl r.fin v',.int .i64 r.code]:=hv;have hw:=zq hv;refine aA (v:=.int .i64 r.code) aI.refl rfl fun K hK=>?_
     go_simp;exact hK
    try case s15=>
     intro a W hc hsz hold ah;clear hsz hold ah;refine ai rfl (ag rfl) ?_;refine bf (v:=.pointer (some ⟨W.heap.size,0,none⟩)) (aI.alloc (by rw[lD.out]; exact hc.size) (.cells #[.int .i64 0,.bool false,.slice none 0 0] 37)) ⟨W.heap.size,rfl,(by rw[lD.out]; exact hc.size),[.int .i64 0,.bool false,.slice none 0 0],rfl,Bx.new _ _ _⟩ fun K hK=>?_
     go_simp;exact hK
    try case s16=>
     intro a W hc hsz hold ah;have x15:=ah 15 (by kernel_rfl) rfl _ rfl;have x13:=ah 13 (by kernel_rfl) rfl _ rfl;clear hsz hold ah;refine ai rfl (ag rfl) ?_;obtain⟨g,hg,hgB,cs,hl,hB⟩:=x15;replace hg:a.tmps.getD 7 undef=.pointer (some ⟨g,0,none⟩):=hg;have hlt:=hB.lt;have hf:=hB.free;have z0:∃v,W.cell? ⟨g,0,none⟩=some v:=⟨_,hB.cell (List.getElem?_eq_getElem (by rw[hl]; decide))⟩;obtain⟨u0,z0⟩:=z0;have z1:∃v,W.cell? ⟨g,1,none⟩=some v:=⟨_,hB.cell (List.getElem?_eq_getElem (by rw[hl]; decide))⟩;obtain⟨u1,z1⟩:=z1;have z2:∃v,W.cell? ⟨g,2,none⟩=some v:=⟨_,hB.cell (List.getElem?_eq_getElem (by rw[hl]; decide))⟩;obtain⟨u2,z2⟩:=z2;obtain⟨v',hv,hF⟩:=x13;replace hv:a.tmps.getD 59 undef=au r.cl r.fin v':=hv;obtain⟨a6,c6,rfl,_⟩:=bK.form hF.1;unfold au at hv;have hP:=(⟨.slice a6 r.l.length c6,rfl,aI.dW (aI.store (Φ:=fun _ _=>True) (t:=37) (B:=n0) (m:=3) (cs0:=[.int .i64 r.cl,.bool r.fin,.slice a6 r.l.length c6]) hgB rfl ⟨cs,hl,hB⟩ trivial) (by decide) hF.1,hF.2⟩:∃v2:Value,[.int .i64 r.cl,.bool r.fin,.slice a6 r.l.length c6] = [.int .i64 r.cl,.bool r.fin,v2]/\gm (bg W g 0 [.int .i64 r.cl,.bool r.fin,.slice a6 r.l.length c6]) n0 v2 r.l);refine bf (v:=undef) (aI.store (cs0:=[.int .i64 r.cl,.bool r.fin,.slice a6 r.l.length c6]) hgB rfl ⟨cs,hl,hB⟩ hP) ⟨g,hg,hgB,[.int .i64 r.cl,.bool r.fin,.slice a6 r.l.length c6],rfl,hB.full hl,hP⟩ fun K hK=>?_
     clear hB hl;go_simp;exact hK
    ·intro a W hC hd hsz hold hval;obtain⟨g,hg,hgB,cs,hcl,hcx,v',hcs,hF⟩:=hval 16 _ rfl rfl;have d7:a.tmps.getD 7 undef=.pointer (some ⟨g,0,none⟩):=hg;clear hg;subst hcs;have d8:a.tmps.getD 8 undef=.int .i64 r.code:=hval 17 _ rfl rfl;obtain⟨G,hG,ha⟩:=cO [7,8,46,47,48,49,50,51,52,53,54,55,56,57,58,59,60] (by kernel_rfl) hd hsz hold;simp only[hG]at d8 d7;rw[ha];clear ha hG hd hsz hold;simp only[bI,List.setIfInBounds_toArray,List.set,d8,d7];clear d8 d7;have hC:Below n0 w1 W:=hC;have wZ:=hC.mono (Nat.le_of_eq lD.out.symm);obtain⟨a6,c6,rfl,Dy⟩:=bK.form hF.1;have sQ:=zH (HD1.out.below wZ);have Am:=zH (HT1.out.trans (Ch.of (X:=DX p vc EX Xm) (R:=DR vt Rm) wZ));have Iz:=zH (HX1.out.call wZ);have mO:=acv.out.call wZ;have x1:=mO.cell (i:=1) rfl;have Gh:=aeL.out.call wZ;have hLW:=dX.keep HL1.out wZ;by_cases h0:r.code=0;case neg=>
      have hz:=HZ3.out;rw[zi h0]at hz;have hb0:decide (r.code=0)=false:=zf h0;have hq0:(r.code == 0)=false:=beq_eq_false_iff_ne.2 h0;clear hcx hF hval hC Gh hLW mO wZ Dy;by_cases h2:r.code=2
      ·rw[zj h2]at hz;obtain rfl:=hz;have hb2:decide (r.code=2)=true:=zt h2;have hq2:(r.code == 2)=true:=beq_iff_eq.2 h2;go_upto_region 14 with (fail)
       have jO:=zH (fU 6 aj W);unfold dL Rp.sense at jO;go_wp2_with fail;refine jO.out.mono ?_;rintro e w7 ⟨rfl,hb7⟩;have HD7:=zH (sQ.out.below hb7);have kF:=zH (Am.out.trans (Ch.of (X:=DX p vc EX Xm) (R:=DR vt Rm) hb7));have hx7:=Iz.out.call hb7;clear hb7;unfold aO at hx7;have t0:=hx7.cell (i:=0) rfl;have t1:=hx7.cell (i:=1) rfl;have t2:=hx7.cell (i:=2) rfl;have t3:=hx7.cell (i:=3) rfl;have t4:=hx7.cell (i:=4) rfl;have t5:=hx7.cell (i:=5) rfl;have tf:=fun i=>hx7.free i
       clear hx7;go_wp2_with fail;exact zr (v:=dL (Rp.sense 6 aj) (.slice none 0 0) (.slice none 0 0)) (by simp[results,results77,go_sem,dL,Rp.sense,t0,t1,t2,t3,t4,t5]) rfl ⟨vt,vc,Xm,Rm,rfl,dG HD7.out EN.out _ _ _ _ _ _,fB kF.out HB4.out.2.2.2 _ _ _ _ _ _,LC.out⟩
      ·rw[zi h2]at hz;have hb2:decide (r.code=2)=false:=zf h2;have hq2:(r.code == 2)=false:=beq_eq_false_iff_ne.2 h2;by_cases h12:r.code=12
       ·rw[zj h12]at hz;obtain rfl:=hz;have ae2:decide (r.code=12)=true:=zt h12;have hq12:(r.code == 12)=true:=beq_iff_eq.2 h12;go_upto_region 16 with (fail)
        have jO:=zH (fU 7 aj W);unfold dL Rp.sense at jO;go_wp2_with fail;refine jO.out.mono ?_;rintro e w7 ⟨rfl,hb7⟩;have HD7:=zH (sQ.out.below hb7);have kF:=zH (Am.out.trans (Ch.of (X:=DX p vc EX Xm) (R:=DR vt Rm) hb7));have hx7:=Iz.out.call hb7;clear hb7;unfold aO at hx7;have t0:=hx7.cell (i:=0) rfl;have t1:=hx7.cell (i:=1) rfl;have t2:=hx7.cell (i:=2) rfl;have t3:=hx7.cell (i:=3) rfl;have t4:=hx7.cell (i:=4) rfl;have t5:=hx7.cell (i:=5) rfl;have tf:=fun i=>hx7.free i
        clear hx7;go_wp2_with fail;exact zr (v:=dL (Rp.sense 7 aj) (.slice none 0 0) (.slice none 0 0)) (by simp[results,results77,go_sem,dL,Rp.sense,t0,t1,t2,t3,t4,t5]) rfl ⟨vt,vc,Xm,Rm,rfl,dG HD7.out EN.out _ _ _ _ _ _,fB kF.out HB4.out.2.2.2 _ _ _ _ _ _,LC.out⟩
       ·rw[zi h12]at hz;obtain rfl:=hz;have ae2:decide (r.code=12)=false:=zf h12;have hq12:(r.code == 12)=false:=beq_eq_false_iff_ne.2 h12;go_upto_region 10 with (fail)
        have jO:=zH (fU 4 0 W);unfold dL Rp.sense at jO;go_wp2_with fail;refine jO.out.mono ?_;rintro e w7 ⟨rfl,hb7⟩;have HD7:=zH (sQ.out.below hb7);have kF:=zH (Am.out.trans (Ch.of (X:=DX p vc EX Xm) (R:=DR vt Rm) hb7));have hx7:=Iz.out.call hb7;clear hb7;unfold aO at hx7;have t0:=hx7.cell (i:=0) rfl;have t1:=hx7.cell (i:=1) rfl;have t2:=hx7.cell (i:=2) rfl;have t3:=hx7.cell (i:=3) rfl;have t4:=hx7.cell (i:=4) rfl;have t5:=hx7.cell (i:=5) rfl;have tf:=fun i=>hx7.free i
        clear hx7;go_wp2_with fail;exact zr (v:=dL (Rp.sense 4 0) (.slice none 0 0) (.slice none 0 0)) (by simp[results,results77,go_sem,dL,Rp.sense,t0,t1,t2,t3,t4,t5]) rfl ⟨vt,vc,Xm,Rm,rfl,dG HD7.out EN.out _ _ _ _ _ _,fB kF.out HB4.out.2.2.2 _ _ _ _ _ _,LC.out⟩
     case pos=>
      have hz:=HZ3.out;rw[zj h0]at hz;have HZ4:=zH hz;obtain⟨w2,hw2⟩:∃w2,w2=((W.setCell ⟨b6,0,none⟩ (.int .i64 r.cl)).setCell ⟨b6,1,none⟩ (.bool r.fin)).setCell ⟨b6,2,none⟩ (.slice a6 r.l.length c6):=⟨_,rfl⟩;have ho2:bU b6 W w2:=by rw[hw2]; exact(((bU.refl b6 W).set 0 _).set 1 _).set 2 _
      have ado:Bx w2 b6 37 [.int .i64 r.cl,.bool r.fin,.slice a6 r.l.length c6]:=by rw[hw2]; exact((Gh.set 0 _).set 1 _).set 2 _
      have aa1:∀k,DX p vc EX Xm k\/DR vt Rm k->k≠b6:=fun k hk=>by have:=QG.out k hk; have:=EG.out; have:=QJ.out; omega
      have hd2:=Sr sQ.out ho2 aa1;have ht2:=WA Am.out ho2 (by have:=EG.out; have:=QJ.out; have:=HB4.out.2.2.2; have:=HB4.out.2.1; omega);have aa2:∀k,(Value.slice a6 r.l.length c6).ownBlock=some k->n0<=k:=hF.2;have hstp:=HR.out;have hl1:1<=L.length:=by have hv':=HO.out.v;rw[hstp]at h0;exact Wj hv' h0
      have hln:r.l≠[]:=by intro e;have hv':=HO.out.v;rw[hstp]at h0 e;exact aap hv' h0 e
      have hh2:Held w2 (.slice a6 r.l.length c6) r.l (DX p vc EX Xm):=Held.only ⟨hF.1,KD hF.1 hln,fun k hk hx=>by have:=hF.2 k hk; have:=QG.out k (.inl hx); have:=EG.out; have:=QJ.out; omega⟩ ho2 (fun k hk=>by have:=hF.2 k hk; have:=EG.out.1; omega);have aa8:Bx w2 b4 58 aO:=(ho2.block b4 (by have:=HB4.out.2.1; have:=EG.out.2.1; omega)).trans Iz.out;have hx32:Bx w2 b3 49 [.int .i64 k,.int .i64 aj,.int .i64 cnt,.int .i64 aN,.int .i64 pk,.slice a5 L.length c5]:=(ho2.block b3 (by have:=HB4.out.1; have:=EG.out.2.1; omega)).trans mO;have hl2:gU w2 (.slice a5 L.length c5) L:=qJ hLW fun k hk=>ho2.block k (by have:=(HLX.out hl1 k hk).1; have:=EG.out; have:=QJ.out; omega)
      obtain⟨w3,hw3⟩:∃w3,w3=w2.alloc (.cells aO.toArray 58):=⟨_,rfl⟩;obtain⟨b9,wI⟩:∃b,b=W.heap.size:=⟨_,rfl⟩;have hs2:w2.heap.size=W.heap.size:=ho2.size;have hA3:=(zB w2.heap.size w2).alloc (zl _) (.cells aO.toArray 58);have hx93:=Bx.new w2 58 aO;rw[<-hw3]at hA3 hx93;rw[hs2,<-wI]at hx93;have hd3:=hd2.below hA3;have Tz:∀k,k<w.heap.size->k<b9:=fun k hk=>by have:=QJ.out; have:=EG.out; have:=lD.out; have:=wZ.size; omega
      have qQ:Hid (yj w0 X0 R0 p pm E EX vt (.slice a5 L.length c5) (.slice a6 r.l.length c6) L r.l b3 b4 b6 b9 [.int .i64 k,.int .i64 aj,.int .i64 cnt,.int .i64 aN,.int .i64 pk,.slice a5 L.length c5] [.int .i64 r.cl,.bool r.fin,.slice a6 r.l.length c6] Rp.ok D (N+64) w3):=zH
       ⟨⟨vc,Xm,Rm,hd3,ht2.trans (Ch.of hA3),fun k hk=>⟨(HB4.out.2.2.1 k hk).1,(HB4.out.2.2.1 k hk).2,aa1 k hk,fun e=>by have:=Tz k (QG.out k hk); omega⟩,hh2.keep (Ch.of (R:=DR vt Rm) hA3),fun k hk=>⟨by have:=Tz k (HLX.out hl1 k hk).1; have:=hx93.lt; omega,(HLX.out hl1 k hk).2⟩⟩,hx32.call hA3,aa8.call hA3,ado.call hA3,hx93,dX.keep hl2 hA3,LC.out⟩
      have aey:Hid (yj w0 X0 R0 p pm E EX vt (.slice a5 L.length c5) (.slice a6 r.l.length c6) L r.l b3 b4 b6 b9 [.int .i64 k,.int .i64 aj,.int .i64 cnt,.int .i64 aN,.int .i64 pk,.slice a5 L.length c5] [.int .i64 r.cl,.bool r.fin,.slice a6 r.l.length c6] Rp.ok D N w3):=zH ⟨qQ.out.ex,qQ.out.x3,qQ.out.x4,qQ.out.x6,qQ.out.x9,qQ.out.l,HO.out.md⟩;have VY:Hid (0<=aj/\aj+(m:Int)<=449849):=zH (by rw[HM.out]; rw[hstp]at h0; exact aao HO.out.v h0);have HV6:Hid (∀k,(Value.slice a6 r.l.length c6).ownBlock=some k->w0.heap.size<=k):=zH fun k hk=>by have:=aa2 k hk; have:=EG.out; have:=QJ.out; have:=HB4.out.2.2.2; have:=HB4.out.2.1; omega
      have aeC:Hid (∀k,(Value.slice a6 r.l.length c6).ownBlock=some k->k≠b4):=zH fun k hk=>by have:=aa2 k hk; have:=EG.out; have:=HB4.out.2.1; omega
      have HN9:Hid (w0.heap.size<=b9/\b3≠b9/\b4≠b9/\b6≠b9/\(∀k,(Value.slice a6 r.l.length c6).ownBlock=some k->k≠b9)/\∀k,(Value.slice a5 L.length c5).ownBlock=some k->k≠b9):=zH
       ⟨by have:=HB4.out; have:=aa8.lt; have:=wZ.size; have:=EG.out; omega,by have:=HB4.out.1; have:=EG.out; have:=lD.out; have:=wZ.size; omega,by have:=HB4.out.2.1; have:=EG.out; have:=lD.out; have:=wZ.size; omega,by have:=EG.out; have:=lD.out; have:=wZ.size; omega,fun k hk=>by have:=hh2.lt k hk; omega,fun k hk=>by have:=Tz k (HLX.out hl1 k hk).1; omega⟩
      have c9:=(hd3.cells).2.2.2.2.2.2.2.2.2;obtain⟨a9,k9,QP⟩:=bu hd3.ca;rw[QP]at c9;have g0:=hcx.cell (i:=0) rfl;have g1:=hcx.cell (i:=1) rfl;have g2:=hcx.cell (i:=2) rfl;have y0:=Gh.cell (i:=0) rfl;have y1:=Gh.cell (i:=1) rfl;have y2:=Gh.cell (i:=2) rfl;have yl:=Gh.lt;have yf:=fun i=>Gh.free i
      rw[HVT.out]at y2;have HW2:=zH hw2.symm;have HW3:Hid (w2.alloc (.cells #[.int .i64 0,.int .i64 0,.slice none 0 0,.int .i64 0,.bool false,.slice none 0 0] 58)=w3):=zH hw3.symm;have ZI:=zH wI;have HS2:=zH hs2;have HH:=ZI;clear hcx hF hval hC Gh hLW mO wZ Dy hw2 ho2 ado aa1 hd2 ht2 aa2 hstp hln hh2 aa8 hx32 hl2 hw3 wI hs2 hA3 hx93 hd3 Tz hz x1;have hb0:decide (r.code=0)=true:=zt h0;have hq0:(r.code == 0)=true:=beq_iff_eq.2 h0;rw[h0];go_upto_region 12 with (fail)
      go_upto_region 19 with (fail)
      rw[HW2.out];go_upto_region 20 with (fail)
      rw[HW3.out,HS2.out,<-ZI.out];have vZ:Hid (w0.heap.size<=b9/\b3≠b9/\b4≠b9/\b6≠b9/\(∀k,(Value.slice a6 r.l.length c6).ownBlock=some k->k≠b9)/\∀k,(Value.slice a5 L.length c5).ownBlock=some k->k≠b9):=HN9;have HC9:=zH c9;have hwr:wrap64 ((D.ca.length:Int)+(m:Int))=(D.ca.length:Int)+(m:Int):=adS HO.out.n64 HS.out.2
      go_upto_if 99 with (fail)
      go_cut [9] from 92 to 111 (fun v9 wx=>v9=.pointer (some ⟨b9,0,none⟩)/\∃rr D',Hid (Z=(rr,({ D' with ca:=D'.ca++lI aj L L.length }:PD).sU r.cl r.fin r.l))/\D'.ca.length<=64/\yj w0 X0 R0 p pm E EX vt (.slice a5 L.length c5) (.slice a6 r.l.length c6) L r.l b3 b4 b6 b9 [.int .i64 k,.int .i64 aj,.int .i64 cnt,.int .i64 aN,.int .i64 pk,.slice a5 L.length c5] [.int .i64 r.cl,.bool r.fin,.slice a6 r.l.length c6] rr D' (N+64) wx)
      case first=>
       by_cases hfl:64<D.ca.length+m
       ·have hZ5:Z=((nJ (jm D.M D.ca).2.1 (jm D.M D.ca).2.2),({ ({ D with M:=(jm D.M D.ca).1,ca:=[] }:PD) with ca:=({ D with M:=(jm D.M D.ca).1,ca:=[] }:PD).ca++lI aj L L.length }:PD).sU r.cl r.fin r.l):=by rw[HZ4.out]; unfold Aa; rw[zj (by rw[<-HM.out]; exact hfl)]
        have HZ5:=zH hZ5;obtain⟨a8,k8,hc8,hfc⟩:=aey.out.flush (by have:=HO.out.n64; omega) (by have:=HO.out.n64; omega) HO.out.ca;have HFC:=zH hfc;have hee:(Value.slice a9 D.ca.length k9)=.slice a8 D.ca.length k8:=zs (HC9.out.symm.trans hc8);rw[<-hee]at HFC;obtain⟨q,hq⟩:∃q,q=jm D.M D.ca:=⟨_,rfl⟩;rw[<-hq]at HFC HZ5;clear hZ5 hfc hee hc8 hq;have hfd:(64:Int)<(D.ca.length:Int)+(m:Int):=Wy hfl;have hfw:(64:Int)<wrap64 ((D.ca.length:Int)+(m:Int)):=by rw[hwr]; exact hfd
        rw[zt hfd];go_wp2_with fail;refine HFC.out.mono ?_;rintro e w4 ⟨rfl,hS4⟩;have HFD:=zH (Md q.2.1 q.2.2 w4);unfold dL at HFD;have wX:=zH hS4;clear hS4 c9;go_wp2_with fail;refine HFD.out.mono ?_;rintro e w5 ⟨rfl,hb5⟩;have hS5:=wX.out.below hb5;have xH:=hS5.x9;unfold rps at xH;have t0:=xH.cell (i:=0) rfl;have t1:=xH.cell (i:=1) rfl;have t2:=xH.cell (i:=2) rfl;have t3:=xH.cell (i:=3) rfl;have t4:=xH.cell (i:=4) rfl;have t5:=xH.cell (i:=5) rfl;have tf:=fun i=>xH.free i
        have tl:=xH.lt;have hS6:=hS5.rep vZ.out.1 vZ.out.2.1 vZ.out.2.2.1 vZ.out.2.2.2.1 vZ.out.2.2.2.2.1 vZ.out.2.2.2.2.2 (nJ q.2.1 q.2.2);obtain⟨w6,hw6⟩:∃w6,w6=W6 w5 b9 (.int .i64 (nJ q.2.1 q.2.2).key) (.int .i64 (nJ q.2.1 q.2.2).aj) (.slice none 0 0) (.int .i64 (nJ q.2.1 q.2.2).cl) (.bool (nJ q.2.1 q.2.2).fin) (.slice none 0 0):=⟨_,rfl⟩;rw[<-hw6]at hS6;unfold W6 at hw6;have HW6:=zH hw6.symm;have wu:=zH hS6;obtain⟨vc6,X6,R6,hd6,_⟩:=hS6.ex;have u9:=hd6.box.cell (i:=9) rfl;have uf:=hd6.box.free 9;have ul:=hd6.box.lt;have NZ:=zH hS6.nil;clear hS5 xH hS6 hw6 hd6 hb5;go_upto_region 22 with (fail)
        rw[HW6.out];go_wp2_with fail;go_meet;exact⟨rfl,_,_,HZ5,Nat.zero_le _,⟨NZ.out.ex,NZ.out.x3,NZ.out.x4,NZ.out.x6,NZ.out.x9,NZ.out.l,NZ.out.ok.mono (by have:=HO.out.n64; omega)⟩⟩
       ·have hZ5:Z=(Rp.ok,({ D with ca:=D.ca++lI aj L L.length }:PD).sU r.cl r.fin r.l):=by rw[HZ4.out]; unfold Aa; rw[zi (by rw[<-HM.out]; exact hfl)]
        have HZ5:=zH hZ5;clear hZ5;have hfd:¬ (64:Int)<(D.ca.length:Int)+(m:Int):=RJ hfl;have hfw:¬ (64:Int)<wrap64 ((D.ca.length:Int)+(m:Int)):=by rw[hwr]; exact hfd
        rw[zf hfd];go_wp2_with fail;go_meet;exact⟨rfl,_,_,HZ5,HO.out.n64,qQ.out⟩
      case rest=>
       obtain⟨rfl,rr,D',HZ5,hca,hS⟩:=hcut;have xZ:=zH hS;have x5:=hS.x3.cell (i:=5) rfl;have x1:=hS.x3.cell (i:=1) rfl;rw[<-HM.out]at x5;obtain⟨bl,ol,kl⟩:=dX.at hS.l;clear hS c9 g0 g1 g2 y0 y1 y2 yl yf hwr;go_upto_region 23 with (fail)
       go_wp2_with fail
       go_loopw [115] (fun vi wr=>∃i:Nat,i<=m/\vi=.int .i64 i/\Hid (yj w0 X0 R0 p pm E EX vt (.slice a5 L.length c5) (.slice a6 r.l.length c6) L r.l b3 b4 b6 b9 [.int .i64 k,.int .i64 aj,.int .i64 cnt,.int .i64 aN,.int .i64 pk,.slice a5 L.length c5] [.int .i64 r.cl,.bool r.fin,.slice a6 r.l.length c6] rr ({ D' with ca:=D'.ca++lI aj L i }:PD) (N+64) wr)) (fun vi _=>m - (RowKit.intOf vi).toNat)
       case atStart=>exact⟨0,by omega,rfl,zH (by simpa[lI]using xZ.out)⟩
       case round=>
        obtain⟨iw,hi,rfl,HSI⟩:=hrel;by_cases hlt:iw<m
        ·have hS:=HSI.out;have hlt':iw<L.length:=by rw[<-HM.out]; exact hlt
         obtain⟨bl2,ol2,kl2⟩:=dX.at hS.l;obtain⟨ha,hrange⟩:=kl2 iw hlt';have hix:=fun w'=>aH underlying45 (by kernel_rfl:(prog.info? 9).map (·.size)=some 1) (cap:=c5) ha hlt' (iw:Int) rfl w'
         have hcl:wr.cell? ⟨bl2,ol2+iw * 1,none⟩=some (.string (str (bF [] L iw))):=hrange 0 _ rfl;simp only[Nat.mul_one]at hix hcl;rw[<-HM.out]at hix;have hlen:({ D' with ca:=D'.ca++lI aj L iw }:PD).ca.length<=1000:=by show(D'.ca++lI aj L iw).length<=1000;rw[List.length_append,Ih]; exact XG hca hlt HS.out.2
         obtain⟨Vh,Ld,w9,q1,q2,q3,q4,q5,hrun,hform,hS2⟩:=hS.push (aj+(iw:Nat),bF [] L iw) hlen 99;unfold wF at hrun q2;have HSN:Hid (yj w0 X0 R0 p pm E EX vt (.slice a5 L.length c5) (.slice a6 r.l.length c6) L r.l b3 b4 b6 b9 [.int .i64 k,.int .i64 aj,.int .i64 cnt,.int .i64 aN,.int .i64 pk,.slice a5 L.length c5] [.int .i64 r.cl,.bool r.fin,.slice a6 r.l.length c6] rr ({ D' with ca:=D'.ca++lI aj L (iw+1) }:PD) (N+64) (w9.setCell ⟨p,9,none⟩ Ld)):=zH (by rw[Qw,<-List.append_assoc]; exact hS2);obtain⟨hz,hhz⟩:∃h,h=wr.heap.size:=⟨_,rfl⟩;obtain⟨DS,hDS⟩:∃s,s=str (bF [] L iw):=⟨_,rfl⟩;have hwl:wrap64 (aj+(iw:Int))=aj+(iw:Int):=wrl VY.out hlt;have z1:=hS.x3.cell (i:=1) rfl;have HE4:Hid (∀r W,r<=1->wr3 wr.drew (wr.drew.alloc (.cells #[.int .i64 (aj+(iw:Nat)),.string DS] 131)) w9 (w9.setCell ⟨p,9,none⟩ Ld) r W->W.cell? ⟨p,9,none⟩=some Vh):=zH fun r W hr h=>by
          rcases Nat.le_one_iff_eq_zero_or_eq_one.1 hr with rfl | rfl
          ·rw[show W=wr.drew from h]; exact q1
          ·rw[show W=wr.drew.alloc (.cells #[.int .i64 (aj+(iw:Nat)),.string DS] 131) from h,hDS]; exact q2
         have HE6:Hid (∀r W,r<=0->wr3 wr.drew (wr.drew.alloc (.cells #[.int .i64 (aj+(iw:Nat)),.string DS] 131)) w9 (w9.setCell ⟨p,9,none⟩ Ld) r W->W.cell? ⟨b3,1,none⟩=some (.int .i64 aj)):=zH fun r W hr h=>by obtain rfl:r=0:=Nat.le_zero.1 hr;rw[show W=wr.drew from h]; exact z1
         rw[<-hhz,<-hDS]at hrun;rw[<-hDS]at hcl;have HHZ:=zH hhz;have HAP:=zH hrun;have HK9:=zH (And.intro q3 (And.intro q4 q5));have HVF:=zH hform;have HCA:=zH hca;have A7:=zH hlt;have HI:=zH hi;clear hS hlt' kl2 ha hrange hlen q1 q2 q3 q4 q5 hrun hform hS2 hhz hDS z1 hca hi;go_upto_region 26 with (fail)
         clear hix hcl;refine lY (by kernel_rfl) (EU) (wr3 wr.drew (wr.drew.alloc (.cells #[.int .i64 (aj+(iw:Nat)),.string DS] 131)) w9 (w9.setCell ⟨p,9,none⟩ Ld)) (WO p b3 iw hz aj DS Vh Ld) (fun _=>false) Y9 3 (by kernel_rfl) (by kernel_rfl) (.inl (by kernel_rfl)) (Ot p b3 iw hz aj DS Vh Ld) (rfl) ⟨?_,?_,?_,?_,?s4,?_,?s6,?_,?s8,?_,?s10,?s11,?s12,?_,?_,?s15,trivial⟩ ?_;all_goals first
          | (intro r a W hc hsz hold ah hnot hlo hhi hrk
             have o0:a.tmps.getD 0 undef=.pointer (some ⟨p,0,none⟩):=hold 0 (by kernel_rfl);have o3:a.tmps.getD 3 undef=.pointer (some ⟨b3,0,none⟩):=hold 3 (by kernel_rfl);have JS:a.tmps.getD 10 undef=.int .i64 (iw:Nat):=hold 10 (by kernel_rfl);have QQ:a.tmps.getD 11 undef=.string DS:=hold 11 (by kernel_rfl);try have d0:=zV 120 (.pointer (some ⟨p,0,none⟩)) (ah 0 rfl rfl _ rfl)
             try have d1:=zV 121 (.pointer (some ⟨p,0,none⟩)) (ah 1 rfl rfl _ rfl)
             try have d2:=zV 122 (.pointer (some ⟨p,0,none⟩)) (ah 2 rfl rfl _ rfl)
             try have d13:=zV 133 (.pointer (some ⟨p,0,none⟩)) (ah 13 rfl rfl _ rfl)
             clear hsz hold ah hnot hlo hhi hrk;refine ai rfl (ag rfl) ?_;refine aJ (bG _ _ _) hc rfl fun K hK=>?_
             go_simp;exact hK)
          | skip
         try case s4=>
          intro r a W hc hsz hold ah hnot hlo hhi hrk;have d3:=zV 123 (.pointer (some ⟨p,9,none⟩)) (ah 3 (by kernel_rfl) rfl _ rfl);have hb:=hhi 12 1 rfl (by kernel_rfl);have c9:=HE4.out r W hb hc;clear hsz hold ah hnot hlo hhi hrk;refine ai rfl (ag rfl) ?_;refine aJ (v:=Vh) (bG _ _ _) hc rfl fun K hK=>?_
          go_simp;exact hK
         try case s6=>
          intro r a W hc hsz hold ah hnot hlo hhi hrk;have d5:=zV 125 (.pointer (some ⟨b3,1,none⟩)) (ah 5 (by kernel_rfl) rfl _ rfl);have hb:=hhi 11 0 rfl (by kernel_rfl);have z1:=HE6.out r W hb hc;clear hsz hold ah hnot hlo hhi hrk;refine ai rfl (ag rfl) ?_;refine aJ (v:=.int .i64 aj) (bG _ _ _) hc rfl fun K hK=>?_
          go_simp;exact hK
         try case s8=>
          intro r a W hc hsz hold ah hnot hlo hhi hrk;have d6:=zV 126 (.int .i64 aj) (ah 6 (by kernel_rfl) rfl _ rfl);have d7:=zV 127 (.int .i64 (iw:Nat)) (ah 7 (by kernel_rfl) rfl _ rfl);clear hsz hold ah hnot hlo hhi hrk;refine ai rfl (ag rfl) ?_;refine aJ (v:=.int .i64 (aj+(iw:Nat))) (bG _ _ _) hc rfl fun K hK=>?_
          have hw8:IntKind.i64.wrap (aj+(iw:Int))=aj+(iw:Int):=(IntWalk.i64_left _).trans hwl;go_simp;exact hK
         try case s10=>
          intro r a W hc hsz hold ah hnot hlo hhi hrk;have d8:=zV 128 (.int .i64 (aj+(iw:Nat))) (ah 8 (by kernel_rfl) rfl _ rfl);have e8:=zq d8;have d9:=zV 129 (.string DS) (ah 9 (by kernel_rfl) rfl _ rfl);have e9:=zq d9;clear hsz hold ah hnot hlo hhi hrk;refine ai rfl (ag rfl) ?_;refine aJ (v:=.agg #[.int .i64 (aj+(iw:Nat)),.string DS]) (bG _ _ _) hc rfl fun K hK=>?_
          go_simp;exact hK
         try case s11=>
          intro r a W hc hsz hold ah hnot hlo hhi hrk;have hr:=hrk 0 rfl;subst hr;have d10:=zV 130 (.agg #[.int .i64 (aj+(iw:Nat)),.string DS]) (ah 10 (by kernel_rfl) rfl _ rfl);have e10:=zq d10;clear hsz hold ah hnot hlo hhi hrk;refine ai rfl (ag rfl) ?_;replace hc:W=wr.drew:=hc;subst hc;refine jw (v:=.slice (some ⟨hz,0,none⟩) 1 1) (w':=wr.drew.alloc (.cells #[.int .i64 (aj+(iw:Nat)),.string DS] 131)) (bG _ _ _) (show wr3 _ _ _ _ 1 _ from rfl) rfl fun K hK=>?_
          rw[HHZ.out]at hK;go_simp;exact hK
         try case s12=>
          intro r a W hc hsz hold ah hnot hlo hhi hrk;have hr:=hrk 1 rfl;subst hr;have d4:=zV 124 Vh (ah 4 (by kernel_rfl) rfl _ rfl);have e4:=zq d4;have d11:=zV 131 (.slice (some ⟨hz,0,none⟩) 1 1) (ah 11 (by kernel_rfl) rfl _ rfl);have e11:=zq d11;clear hsz hold ah hnot hlo hhi hrk;refine ai rfl (ag rfl) ?_;replace hc:W=wr.drew.alloc (.cells #[.int .i64 (aj+(iw:Nat)),.string DS] 131):=hc;subst hc;refine jw (v:=Ld) (w':=w9) (bG _ _ _) (show wr3 _ _ _ _ 2 _ from rfl) rfl fun K hK=>?_
          have hrun:=HAP.out;have v1:a.eval (.tmp 124)=Vh:=d4;have v2:a.eval (.tmp 131)=.slice (some ⟨hz,0,none⟩) 1 1:=d11;unfold Oper.wp execOp;simp only[resolve,invoke,builtin,Sem.run_bind,Sem.run_pure,Result.andThen_ok,List.map_toArray,List.map_cons,List.map_nil,v1,v2,hrun];exact hK
         try case s15=>
          intro r a W hc hsz hold ah hnot hlo hhi hrk;have hr:=hrk 2 rfl;subst hr;have d14:=zV 134 (.pointer (some ⟨p,9,none⟩)) (ah 14 (by kernel_rfl) rfl _ rfl);have d12:=zV 132 Ld (ah 12 (by kernel_rfl) rfl _ rfl);clear hsz hold ah hnot hlo hhi hrk;refine ai rfl (ag rfl) ?_;replace hc:W=w9:=hc;subst hc;have k9:=HK9.out.1;have kl:=HK9.out.2.1;have kf:=HK9.out.2.2;refine jw (v:=undef) (w':=W.setCell ⟨p,9,none⟩ Ld) (bG _ _ _) (show wr3 _ _ _ _ 3 _ from rfl) trivial fun K hK=>?_
          obtain⟨a2,n2,cc2,hv2⟩:=HVF.out;subst hv2;go_simp;exact hK
         ·intro a W hC hd hsz hold hval;obtain⟨G,hG,ha⟩:=cO [120,121,122,123,124,125,126,127,128,129,130,131,132,133,134] (by kernel_rfl) hd hsz hold;rw[ha];clear ha hG hd hsz hold;simp only[bI,List.setIfInBounds_toArray,List.set];replace hC:W=w9.setCell ⟨p,9,none⟩ Ld:=hC;subst hC;have hi:=A7.out;go_wp2_with fail;go_roundw;case rel=>exact⟨iw+1,by omega,by go_num,HSN⟩
          case measure=>simp[RowKit.intOf]; omega
        ·obtain rfl:iw=m:=by omega
         obtain⟨vc5,X5,R5,hd5,hT5,Xj,ada,h55⟩:=HSI.out.ex;have hx6:=HSI.out.x6;have e0:=hx6.cell (i:=0) rfl;have e1:=hx6.cell (i:=1) rfl;have e2:=hx6.cell (i:=2) rfl;have ul:=hd5.box.lt;have uf:=fun iw=>hd5.box.free iw
         obtain⟨c0,c1,c2,c3,c4,oJ,c6',c7,c8,c9'⟩:=hd5.cells;obtain⟨w8,hw8⟩:∃w8,w8=((wr.setCell ⟨p,4,none⟩ (.int .i64 r.cl)).setCell ⟨p,5,none⟩ (.bool r.fin)).setCell ⟨p,6,none⟩ (.slice a6 r.l.length c6):=⟨_,rfl⟩;have ho8:bU p wr w8:=by rw[hw8]; exact(((bU.refl p wr).set 4 _).set 5 _).set 6 _
         have hd8:=LZ hd5 ada (cl:=r.cl) (fin:=r.fin);rw[<-hw8]at hd8;have ht8:=Ch.put hT5 ho8 (fun k hk=>hT5.x k (.inr (.inr (.inr hk)))) (fun k hk=>.inr (HV6.out k hk));have hp:=Xj p (.inl (.inl rfl));have xH:Bx w8 b9 58 (rps rr):=(ho8.block b9 (Ne.symm hp.2.2.2)).trans HSI.out.x9;have hx7:Bx w8 b4 58 aO:=(ho8.block b4 (Ne.symm hp.2.1)).trans HSI.out.x4;have HD7:=zH hd8;have kF:=zH ht8;have HW8:=zH hw8.symm;have LH:=zH hx7;have V8:=zH xH;have uN:Hid (∀k,DX p vc5 EX X5 k\/DR (.slice a6 r.l.length c6) R5 k->k≠b4):=zH fun k hk=>by
          rcases hk with h1 | h1 | h1
          ·exact(Xj k (.inl h1)).2.1
          ·exact(Xj k (.inr (.inl h1))).2.1
          ·exact aeC.out k h1
         have ni:Hid (D'.M.Ok (N+64)):=zH HSI.out.ok;clear hd5 hT5 Xj ada h55 hx6 hw8 ho8 hd8 ht8 hp xH hx7 hi hlt;go_upto_region 28 with (fail)
         go_upto_region 29 with (fail)
         rw[HW8.out];clear e0 e1 e2 ul uf c0 c1 c2 c3 c4 oJ c6' c7 c8 c9';have xH:=V8.out;unfold rps at xH;have f0:=xH.cell (i:=0) rfl;have f1:=xH.cell (i:=1) rfl;have f2:=xH.cell (i:=2) rfl;have f3:=xH.cell (i:=3) rfl;have f4:=xH.cell (i:=4) rfl;have f5:=xH.cell (i:=5) rfl;have hx7:=LH.out;unfold aO at hx7;have t0:=hx7.cell (i:=0) rfl;have t1:=hx7.cell (i:=1) rfl;have t2:=hx7.cell (i:=2) rfl;have t3:=hx7.cell (i:=3) rfl;have t4:=hx7.cell (i:=4) rfl;have t5:=hx7.cell (i:=5) rfl;have tf:=fun iw=>hx7.free iw
         clear hx7 xH;go_wp2_with fail;obtain rfl:=HZ5.out;exact zr (v:=dL rr (.slice none 0 0) (.slice none 0 0)) (by simp[results,results77,go_sem,dL,t0,t1,t2,t3,t4,t5]) rfl ⟨.slice a6 r.l.length c6,vc5,X5,R5,rfl,dG (by rw[HM.out]at HD7; exact HD7.out) uN.out _ _ _ _ _ _,fB kF.out HB4.out.2.2.2 _ _ _ _ _ _,ni.out⟩
end T7
end Go.Proofs.YtfnehkmhcmkhjaaGreat
