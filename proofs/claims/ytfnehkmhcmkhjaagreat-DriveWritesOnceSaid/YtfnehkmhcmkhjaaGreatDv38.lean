/- Parts:XKd XKe XKg -/
import Derived.Test.YtfnehkmhcmkhjaaGreatDvAl
import Derived.Test.YtfnehkmhcmkhjaaGreatDv34
import Derived.Test.YtfnehkmhcmkhjaaGreatDv35
set_option maxRecDepth 100000
set_option maxHeartbeats 8000000
set_option linter.unusedVariables false
namespace Go.Proofs.YtfnehkmhcmkhjaaGreat
open Tryz
namespace T7
open Go Go.RowKit C9 oH
def qW(D:PD):List UInt8×List UInt8:=if (E1.jR D.n D.sA D.sB D.cl D.fin D.tr).2=0 then(E1.jR D.n D.sA D.sB D.cl D.fin D.tr).1 else(D.sA,D.sB)
def mX(D:PD):PD:={ D with sA:=(qW D).1,sB:=(qW D).2 }
structure Rj (D:PD):Prop where
 fine:E1.Fine D.tr
 cl:D.cl<=9223372036854775807
 a:D.sA.length<=20000
 b:D.sB.length<=20000
def Yk(p n0 n:Nat)(cl code:Int)(fin:Bool)(vt:Value)(SA SB A B:ByteArray)(i:Nat)(v:Value)(d:Nat->Value)(W:World):Prop:=match i with
 | 0=>v=.pointer (some ⟨p,0,none⟩)
 | 1=>v=.pointer (some ⟨p,0,none⟩)
 | 2=>v=.pointer (some ⟨p,1,none⟩)
 | 3=>v=.int .i64 n
 | 4=>v=.pointer (some ⟨p,0,none⟩)
 | 5=>v=.pointer (some ⟨p,0,none⟩)
 | 6=>v=.pointer (some ⟨p,7,none⟩)
 | 7=>v=.agg #[.string SA,.string SB]
 | 8=>v=.pointer (some ⟨p,0,none⟩)
 | 9=>v=.pointer (some ⟨p,0,none⟩)
 | 10=>v=.pointer (some ⟨p,4,none⟩)
 | 11=>v=.agg #[.int .i64 cl,.bool fin,vt]
 | 12=>v=.tuple #[.agg #[.string A,.string B],.int .i64 code]
 | 13=>v=.tuple #[.agg #[.string A,.string B],.int .i64 code]
 | 14=>v=.agg #[.string A,.string B]
 | 15=>v=.int .i64 code
 | 16=>∃g,v=.pointer (some ⟨g,0,none⟩)/\n0<=g/\∃cs:List Value,cs.length=2/\Bx W g 39 cs
 | 17=>∃g,d 16=.pointer (some ⟨g,0,none⟩)/\n0<=g/\∃cs:List Value,cs.length=2/\Bx W g 39 cs/\(fun _ cs=>cs = [.string A,.string B]) W cs
 | 18=>v=.int .i64 code
 | _=>True
theorem P8(p n0 n:Nat)(cl code:Int)(fin:Bool)(vt:Value)(SA SB A B:ByteArray)(i:Nat)(v:Value)(d:Nat->Value)(W W':World)(hR:(aI n0 39 2 (fun _ cs=>cs = [.string A,.string B])) W W')(h:Yk p n0 n cl code fin vt SA SB A B i v d W):Yk p n0 n cl code fin vt SA SB A B i v d W':=by
 by_cases h16:i=16
 ·subst h16;obtain⟨g,h1,h2,h3⟩:=h;exact⟨g,h1,h2,aI.some hR h3⟩
 by_cases h17:i=17
 ·subst h17;obtain⟨g,h1,h2,h3⟩:=h;exact⟨g,h1,h2,aI.full hR (fun _ h=>h) h3⟩
 unfold Yk at h ⊢;split at h <;> first | exact h | exact absurd rfl h16 | exact absurd rfl h17
theorem En{w w0:World}{p pm:Nat}{D:PD}{df:Option Addr}{vt vc:Value}{E:World->Prop}{EX Xm Rm X0 R0:Nat->Prop}(h:fH w p D pm df vt vc E EX Xm Rm)(ht:Rj D)(hc:Ch X0 R0 (DX p vc EX Xm) (DR vt Rm) w0 w):
 Calls prog 35 #[.pointer (some ⟨p,0,none⟩)] w fun e w'=>e=.returned (.tuple #[])/\fH w' p (mX D) pm df vt vc E EX Xm Rm/\Ch X0 R0 (DX p vc EX Xm) (DR vt Rm) w0 w':=by
 have wC:Hid (∀W,Below w.heap.size w W->Calls prog 85 #[.int .i64 D.n,E1.jf D.sA D.sB,au D.cl D.fin vt] W (E1.qZ (E1.jR D.n D.sA D.sB D.cl D.fin D.tr) W)):=zH fun W hW=>E1.Pq D.n D.sA D.sB D.cl D.fin _ D.tr W (aW.keep h.tr hW) ht.fine ht.cl ht.a ht.b
 obtain⟨⟨⟨LA,LB⟩,code⟩,hZ⟩:∃Z,Z=E1.jR D.n D.sA D.sB D.cl D.fin D.tr:=⟨_,rfl⟩;have HZ:Hid (qW D=if code=0 then(LA,LB) else(D.sA,D.sB)):=zH (by unfold qW; rw[<-hZ]);rw[<-hZ]at wC;unfold E1.qZ E1.jf at wC;dsimp only at wC;obtain⟨c0,c1,c2,c3,c4,c5,c6,c7,c8,c9⟩:=h.cells;have HD:=zH h;have HC:=zH hc;have IP:=zH h.box.lt;have jD:Hid (∀W,Below w.heap.size w W->W.cell? ⟨p,1,none⟩=some (.int .i64 D.n)/\W.cell? ⟨p,4,none⟩=some (.int .i64 D.cl)/\W.cell? ⟨p,5,none⟩=some (.bool D.fin)/\W.cell? ⟨p,6,none⟩=some vt/\W.cell? ⟨p,7,none⟩=some (.string (str D.sA))/\W.cell? ⟨p,8,none⟩=some (.string (str D.sB))):=zH fun W hW=>
  ⟨(hW.cell (p:=⟨p,1,none⟩) h.box.lt).trans c1,(hW.cell (p:=⟨p,4,none⟩) h.box.lt).trans c4,(hW.cell (p:=⟨p,5,none⟩) h.box.lt).trans c5,(hW.cell (p:=⟨p,6,none⟩) h.box.lt).trans c6,(hW.cell (p:=⟨p,7,none⟩) h.box.lt).trans c7,(hW.cell (p:=⟨p,8,none⟩) h.box.lt).trans c8⟩
 obtain⟨A,hA⟩:∃A,A=str LA:=⟨_,rfl⟩;obtain⟨B,hB⟩:∃B,B=str LB:=⟨_,rfl⟩;rw[<-hA,<-hB]at wC;have HA:=zH hA;have HB:=zH hB;obtain⟨SA,Tf⟩:∃S,S=str D.sA:=⟨_,rfl⟩;obtain⟨SB,Zg⟩:∃S,S=str D.sB:=⟨_,rfl⟩;rw[<-Tf,<-Zg]at jD wC;have HSA:=zH Tf;have HSB:=zH Zg;obtain⟨n,hn⟩:∃n,n=D.n:=⟨_,rfl⟩;obtain⟨cl,hcl⟩:∃n,n=D.cl:=⟨_,rfl⟩;obtain⟨fin,hfin⟩:∃n,n=D.fin:=⟨_,rfl⟩;rw[<-hn,<-hcl,<-hfin]at jD wC;obtain⟨n0,hn0⟩:∃n,n=w.heap.size:=⟨_,rfl⟩;have lD:=zH hn0;rw[<-hn0]at jD wC;clear h ht hc hZ c0 c1 c2 c3 c4 c5 c6 c7 c8 c9 hA hB Tf Zg hn hcl hfin hn0;go_enter func35,ntmps35;go_upto_region 0 with (fail)
 refine dw (by kernel_rfl) (aI n0 39 2 (fun _ cs=>cs = [.string A,.string B])) (fun W=>Below n0 w W) (Yk p n0 n cl code fin vt SA SB A B) (fun _=>false) (by kernel_rfl) (fun W W' hR h=>h.trans hR.1) (P8 p n0 n cl code fin vt SA SB A B) ((zB _ _).drew) ⟨?_,?_,?_,?s3,?_,?_,?_,?s7,?_,?_,?_,?s11,?s12,?_,?_,?_,?s16,?s17,?_,trivial⟩ ?_;all_goals first
  | (intro a W hc hsz hold ah
     have o0:a.tmps.getD 0 undef=.pointer (some ⟨p,0,none⟩):=hold 0 (by kernel_rfl);try have d0:=zV 5 (.pointer (some ⟨p,0,none⟩)) (ah 0 rfl rfl _ rfl)
     try have d1:=zV 6 (.pointer (some ⟨p,0,none⟩)) (ah 1 rfl rfl _ rfl)
     try have d4:=zV 9 (.pointer (some ⟨p,0,none⟩)) (ah 4 rfl rfl _ rfl)
     try have d5:=zV 10 (.pointer (some ⟨p,0,none⟩)) (ah 5 rfl rfl _ rfl)
     try have d8:=zV 13 (.pointer (some ⟨p,0,none⟩)) (ah 8 rfl rfl _ rfl)
     try have d9:=zV 14 (.pointer (some ⟨p,0,none⟩)) (ah 9 rfl rfl _ rfl)
     try have d12:=zV 17 (.tuple #[.agg #[.string A,.string B],.int .i64 code]) (ah 12 rfl rfl _ rfl)
     try have d13:=zV 4 (.tuple #[.agg #[.string A,.string B],.int .i64 code]) (ah 13 rfl rfl _ rfl)
     try have d15:=zV 19 (.int .i64 code) (ah 15 rfl rfl _ rfl)
     clear hsz hold ah;refine ai rfl (ag rfl) ?_;refine aA aI.refl rfl fun K hK=>?_
     go_simp;exact hK)
  | skip
 try case s3=>
  intro a W hc hsz hold ah;have d2:=zV 7 (.pointer (some ⟨p,1,none⟩)) (ah 2 (by kernel_rfl) rfl _ rfl);obtain⟨q1,q4,q5,q6,q7,q8⟩:=jD.out W hc;clear hsz hold ah;refine ai rfl (ag rfl) ?_;refine aA (v:=.int .i64 n) aI.refl rfl fun K hK=>?_
  go_simp;exact hK
 try case s7=>
  intro a W hc hsz hold ah;have d6:=zV 11 (.pointer (some ⟨p,7,none⟩)) (ah 6 (by kernel_rfl) rfl _ rfl);obtain⟨q1,q4,q5,q6,q7,q8⟩:=jD.out W hc;clear hsz hold ah;refine ai rfl (ag rfl) ?_;refine aA (v:=.agg #[.string SA,.string SB]) aI.refl rfl fun K hK=>?_
  go_simp;exact hK
 try case s11=>
  intro a W hc hsz hold ah;have d10:=zV 15 (.pointer (some ⟨p,4,none⟩)) (ah 10 (by kernel_rfl) rfl _ rfl);obtain⟨q1,q4,q5,q6,q7,q8⟩:=jD.out W hc;clear hsz hold ah;refine ai rfl (ag rfl) ?_;refine aA (v:=.agg #[.int .i64 cl,.bool fin,vt]) aI.refl rfl fun K hK=>?_
  go_simp;exact hK
 try case s12=>
  intro a W hc hsz hold ah;have d3:=zV 8 (.int .i64 n) (ah 3 (by kernel_rfl) rfl _ rfl);have e3:=zq d3;have d7:=zV 12 (.agg #[.string SA,.string SB]) (ah 7 (by kernel_rfl) rfl _ rfl);have e7:=zq d7;have d11:=zV 16 (.agg #[.int .i64 cl,.bool fin,vt]) (ah 11 (by kernel_rfl) rfl _ rfl);have e11:=zq d11;clear hsz hold ah;refine ai rfl (ag rfl) ?_;refine zQ (v:=.tuple #[.agg #[.string A,.string B],.int .i64 code]) (fun W' hb=>aI.call (by rw[lD.out]; exact hc.size) hb) (fun _=>rfl) fun K hK=>?_
  go_simp;refine(wC.out W hc).mono ?_;rintro e w' ⟨rfl,hb'⟩;exact hK _ hb'
 try case s16=>
  intro a W hc hsz hold ah;clear hsz hold ah;refine ai rfl (ag rfl) ?_;refine bf (v:=.pointer (some ⟨W.heap.size,0,none⟩)) (aI.alloc (by rw[lD.out]; exact hc.size) (.cells #[.string ⟨#[]⟩,.string ⟨#[]⟩] 39)) ⟨W.heap.size,rfl,(by rw[lD.out]; exact hc.size),[.string ⟨#[]⟩,.string ⟨#[]⟩],rfl,Bx.new _ _ _⟩ fun K hK=>?_
  go_simp;exact hK
 try case s17=>
  intro a W hc hsz hold ah;have x16:=ah 16 (by kernel_rfl) rfl _ rfl;have d14:=zV 18 (.agg #[.string A,.string B]) (ah 14 (by kernel_rfl) rfl _ rfl);clear hsz hold ah;refine ai rfl (ag rfl) ?_;obtain⟨g,hg,hgB,cs,hl,hB⟩:=x16;replace hg:a.tmps.getD 2 undef=.pointer (some ⟨g,0,none⟩):=hg;have hlt:=hB.lt;have hf:=hB.free;have z0:∃v,W.cell? ⟨g,0,none⟩=some v:=⟨_,hB.cell (List.getElem?_eq_getElem (by rw[hl]; decide))⟩;obtain⟨u0,z0⟩:=z0;have z1:∃v,W.cell? ⟨g,1,none⟩=some v:=⟨_,hB.cell (List.getElem?_eq_getElem (by rw[hl]; decide))⟩;obtain⟨u1,z1⟩:=z1;have hP:=(rfl:([.string A,.string B]:List Value) = [.string A,.string B]);refine bf (v:=undef) (aI.store (cs0:=[.string A,.string B]) hgB rfl ⟨cs,hl,hB⟩ hP) ⟨g,hg,hgB,[.string A,.string B],rfl,hB.full hl,hP⟩ fun K hK=>?_
  clear hB hl;go_simp;exact hK
 ·intro a W hC hd hsz hold hval;obtain⟨g,hg,hgB,cs,hcl,hcx,hcs⟩:=hval 17 _ rfl rfl;have d2:a.tmps.getD 2 undef=.pointer (some ⟨g,0,none⟩):=hg;clear hg;replace hcs:cs = [.string A,.string B]:=hcs;subst hcs;have d3:a.tmps.getD 3 undef=.int .i64 code:=hval 18 _ rfl rfl;obtain⟨G,hG,ha⟩:=cO [2,3,4,5,6,7,8,9,10,11,12,13,14,15,16,17,18,19] (by kernel_rfl) hd hsz hold;simp only[hG]at d3 d2;rw[ha];clear ha hG hd hsz hold;simp only[bI,List.setIfInBounds_toArray,List.set,d3,d2];clear d3 d2;have hC:Below w.heap.size w W:=by rw[<-lD.out]; exact hC
  have hd:=HD.out.below hC;have sQ:=zH hd;have uP:=zH (HC.out.trans (Ch.of hC));have HGN:Hid (g≠p):=zH (by have:=IP.out; have:=lD.out; omega);obtain⟨e0,e1,e2,e3,e4,e5,e6,e7,e8,e9⟩:=hd.cells;have f7:=hd.box.free 7;have f8:=hd.box.free 8;have g0:=hcx.cell (i:=0) rfl;have g1:=hcx.cell (i:=1) rfl;have hpl:=hd.box.lt;clear hC hval hcx hcl hgB hd;by_cases hcode:code=0
  ·have HS2:Hid (qW D=(LA,LB)):=zH (by rw[HZ.out,zj hcode]);subst hcode;go_wp2_with fail;have HF:Hid (fH ((W.setCell ⟨p,7,none⟩ (.string A)).setCell ⟨p,8,none⟩ (.string B)) p (mX D) pm df vt vc E EX Xm Rm/\Ch X0 R0 (DX p vc EX Xm) (DR vt Rm) w0 ((W.setCell ⟨p,7,none⟩ (.string A)).setCell ⟨p,8,none⟩ (.string B))):=zH (by
    have hk:=((bU.refl p W).set 7 (.string A)).set 8 (.string B);have hbx:=(sQ.out.box.set 7 (.string A)).set 8 (.string B);have hh:=uP.out;have hlo:=sQ.out.lo;refine⟨sQ.out.put hk (D':=mX D) (QS:=vt) (Vg:=vc) ?_ rfl sQ.out.tr sQ.out.tl sQ.out.ca sQ.out.ap,Ch.put hh hk (fun k hk=>hh.x k (.inr (.inr (.inr hk)))) (fun k hk=>hh.r k (.inr hk))⟩;unfold mX;rw[HS2.out];simp only;rw[<-HA.out,<-HB.out];exact hbx)
   go_end0;exact⟨rfl,HF.out⟩
  ·have HS2:Hid (mX D=D):=zH (by unfold mX; rw[HZ.out,zi hcode]);have hcb:(code == 0)=false:=beq_eq_false_iff_ne.2 hcode;clear hcode;go_wp2_with fail;go_end0;rw[HS2.out];exact⟨rfl,sQ.out,uP.out⟩
def qX(M:aP)(x:Int×List UInt8):aP×Bool:=((pO M x).2,decide ((pO M x).1=0))
noncomputable def jm(M:aP)(l:List (Int×List UInt8)):aP×Int×Bool:=JB qX M l
theorem Du{w w0:World}{p pm N:Nat}{D:PD}{vt vc:Value}{E:World->Prop}{EX Xm Rm X0 R0:Nat->Prop}(h:fH w p D pm none vt vc E EX Xm Rm)(hc:Ch X0 R0 (DX p vc EX Xm) (DR vt Rm) w0 w)(ho:D.M.Ok N)
 (v:Value)(l:List (Int×List UInt8))(hN:N+l.length<=4611686018427387904)(hl:l.length<=1000000)(hv:∀W:World,W.ownsRow 0 131 2 vc D.ca.length (fK wF D.ca)->dX Ai wF 2 W v l)(hx:∀x ∈ l,NQ x):
 Calls prog 155 #[.pointer (some ⟨p,0,none⟩),v] w fun e w'=>∃X2 R2,e=.returned (.tuple #[.int .i64 (jm D.M l).2.1,.bool (jm D.M l).2.2])/\fH w' p { D with M:=(jm D.M l).1 } pm none vt vc E EX X2 R2/\
  Ch X0 R0 (DX p vc EX X2) (DR vt R2) w0 w'/\(jm D.M l).1.Ok (N+l.length):=by
 refine(OA (fun k M W=>∃X2 R2,fH W p { D with M:=M } pm none vt vc E EX X2 R2/\Ch X0 R0 (DX p vc EX X2) (DR vt R2) w0 W/\M.Ok (N+k)/\N+k<=N+l.length) qX p v l D.M w hl ?_ ?_ ⟨Xm,Rm,h,hc,ho,by omega⟩).mono ?_
 ·rintro k M W o hk ⟨X2,R2,hd,hch,hok,hle⟩;have hA:=(zB W.heap.size W).alloc (zl _) o;have hd1:=hd.below hA;have hlo:=hd.lo;have hmem:bF Ai l k ∈ l:=tq hk;refine(UG hd1 hok (by omega) (bF Ai l k) (hx _ hmem)).mono ?_;rintro e w' ⟨X3,R3,rfl,hd3,hc3⟩;refine⟨rfl,⟨X3,R3,hd3,hch.trans (Ch.trans (Ch.of hA) hc3),hok.record _ _,by omega⟩,?_⟩;have:=hc3.block W.heap.size (by simp) (fun xH=>by have:=hlo _ (.inl xH); omega);rw[this];exact heap_alloc_new _ _
 ·rintro k M W ⟨X2,R2,hd,_⟩;exact hv W hd.ca
 ·rintro e w' ⟨rfl,X2,R2,hd,hch,hok,_⟩;exact⟨X2,R2,rfl,hd,hch,hok⟩
noncomputable def vV(D:PD):PD:=mX { D with M:=(jm D.M D.ca).1,ca:=[] }
noncomputable def uC(D:PD):Rp:=nJ (jm D.M D.ca).2.1 (jm D.M D.ca).2.2
def dR(k aj cnt aN pk:Int)(vb:Value):Value:=.agg #[.int .i64 k,.int .i64 aj,.int .i64 cnt,.int .i64 aN,.int .i64 pk,vb]
structure PD.Fit (D:PD) (N:Nat):Prop where
 ok:D.M.Ok N
 sU:Rj D
 ca:∀x ∈ D.ca,NQ x
 n64:D.ca.length<=64
theorem U8{w w0:World}{p pm N:Nat}{D:PD}{vt vc:Value}{E:World->Prop}{EX Xm Rm X0 R0:Nat->Prop}(h:fH w p D pm none vt vc E EX Xm Rm)(hc:Ch X0 R0 (DX p vc EX Xm) (DR vt Rm) w0 w)(hk:D.kind=1)(hf:D.Fit N)(hN:N<=4611686018427380000)
 (k aj cnt aN pk:Int)(a5:Option Addr)(n5 c5:Nat):
 Calls prog 78 #[.pointer (some ⟨p,0,none⟩),dR k aj cnt aN pk (.slice a5 n5 c5)] w fun e w'=>∃X2 R2,e=.returned (dL (uC D) (.slice none 0 0) (.slice none 0 0))/\fH w' p (vV D) pm none vt (.slice none 0 0) E EX X2 R2/\
  Ch X0 R0 (DX p (.slice none 0 0) EX X2) (DR vt R2) w0 w'/\(vV D).M.Ok (N+64):=by
 obtain⟨w1,hw1⟩:∃w1,w1=(w.alloc (.cells #[.int .i64 k,.int .i64 aj,.int .i64 cnt,.int .i64 aN,.int .i64 pk,.slice a5 n5 c5] 49)).alloc (.cells aO.toArray 58):=⟨_,rfl⟩;obtain⟨b4,hb4⟩:∃b,b=w.heap.size+1:=⟨_,rfl⟩;have hA1:=(zB w.heap.size w).alloc (zl _) (.cells #[.int .i64 k,.int .i64 aj,.int .i64 cnt,.int .i64 aN,.int .i64 pk,.slice a5 n5 c5] 49);have hA:=hA1.alloc hA1.size (.cells aO.toArray 58);have hbx:=Bx.new (w.alloc (.cells #[.int .i64 k,.int .i64 aj,.int .i64 cnt,.int .i64 aN,.int .i64 pk,.slice a5 n5 c5] 49)) 58 aO;rw[<-hw1]at hA hbx;rw[World.size_alloc,<-hb4]at hbx;obtain⟨a9,c9,QP⟩:=bu h.ca;subst QP;have hd1:=h.below hA;have hlo1:=h.lo;have hc1:=hc.trans (Ch.of hA);have HT1:=zH hc1;have HT0:=zH hc.size;have HFL:=zH (Du hd1 (Ch.refl (X:=DX p (.slice a9 D.ca.length c9) EX Xm) (R:=DR vt Rm)) hf.ok (.slice a9 D.ca.length c9) D.ca (by have:=hf.n64; omega) (by have:=hf.n64; omega) (fun W hW=>dX.bM qx hW) hf.ca);have HXB:=zH hbx;have HB4:Hid (b4<w1.heap.size/\∀b,DX p (.slice a9 D.ca.length c9) EX Xm b\/DR vt Rm b->b≠b4):=zH ⟨hbx.lt,fun b hb=>by have:=hlo1 b hb; omega⟩;have HW1:Hid ((w.alloc (.cells #[.int .i64 k,.int .i64 aj,.int .i64 cnt,.int .i64 aN,.int .i64 pk,.slice a5 n5 c5] 49)).alloc (.cells #[.int .i64 0,.int .i64 0,.slice none 0 0,.int .i64 0,.bool false,.slice none 0 0] 58)=w1):=zH hw1.symm;have qh:=zH hb4;have HF:=zH hf;have HK:=zH hk;obtain⟨c0,c1,c2,c3,c4,oJ,c6,c7,c8,c9'⟩:=hd1.cells;have VH:Hid (uC D=nJ (jm D.M D.ca).2.1 (jm D.M D.ca).2.2):=zH rfl;obtain⟨Z,hZ⟩:∃Z,Z=jm D.M D.ca:=⟨_,rfl⟩;rw[<-hZ]at HFL VH;have QI:Hid (vV D=mX { D with M:=Z.1,ca:=[] }):=zH (by rw[hZ]; rfl);clear hw1 hb4 hA1 hA hbx h hc hk hf hd1 hlo1 hc1 hZ;unfold dR;go_enter func78,ntmps78;go_upto_region 1 with (fail)
 rw[HW1.out,<-qh.out];go_wp2_with fail;refine HFL.out.mono ?_;rintro e w2 ⟨X2,R2,rfl,hd2,yN,hok2⟩;have HD2:=zH hd2;have HT2:=zH (HT1.out.trans yN);have LG:Hid (Bx w2 b4 58 aO):=zH ((yN.block b4 HB4.out.1 (fun h9=>HB4.out.2 b4 (.inl h9) rfl)).trans HXB.out);have VC:Hid (∀b,DX p (.slice a9 D.ca.length c9) EX X2 b\/DR vt R2 b->b≠b4):=zH fun b hb e=>by
  subst e;rcases hb with hb | hb
  ·rcases yN.x _ hb with h1 | h1
   ·exact HB4.out.2 _ (.inl h1) rfl
   ·have:=HB4.out.1; omega
  ·rcases yN.r _ hb with h1 | h1
   ·exact HB4.out.2 _ (.inr h1) rfl
   ·have:=HB4.out.1; omega
 have ni:=zH hok2;have HFD:=zH (Md Z.2.1 Z.2.2 w2);unfold dL at HFD;clear hd2 yN hok2 c0 c1 c2 c3 c4 oJ c6 c7 c8 c9';go_wp2_with fail;refine HFD.out.mono ?_;rintro e w3 ⟨rfl,hb3⟩;obtain⟨r,hr⟩:∃r,r=nJ Z.2.1 Z.2.2:=⟨_,rfl⟩;rw[<-hr]at VH ⊢;obtain⟨w4,hw4⟩:∃w4,w4=w3.alloc (.cells #[.int .i64 r.key,.int .i64 r.aj,.slice none 0 0,.int .i64 r.cl,.bool r.fin,.slice none 0 0] 58):=⟨_,rfl⟩;obtain⟨b5,hb5⟩:∃b,b=w3.heap.size:=⟨_,rfl⟩;have wH:=hb3.alloc hb3.size (.cells #[.int .i64 r.key,.int .i64 r.aj,.slice none 0 0,.int .i64 r.cl,.bool r.fin,.slice none 0 0] 58);have hx5:Bx w4 b5 58 [.int .i64 r.key,.int .i64 r.aj,.slice none 0 0,.int .i64 r.cl,.bool r.fin,.slice none 0 0]:=by rw[hw4,hb5]; exact Bx.new w3 _ _
 rw[<-hw4]at wH;have hd4:=HD2.out.below wH;have HD4:=zH hd4;have HT4:=zH (HT2.out.trans (Ch.of wH));have ny:=zH (LG.out.call wH);have H5:=zH hx5;have ZX:Hid (b5≠p/\b4≠p/\∀b,DX p (.slice a9 D.ca.length c9) EX X2 b\/DR vt R2 b->b≠b5):=zH ⟨by have:=HD2.out.box.lt; have:=hb3.size; omega,fun e=>VC.out p (.inl (.inl rfl)) e.symm,fun b hb=>by have:=HD2.out.lo b hb; have:=hb3.size; omega⟩;have V7:=zH hw4.symm;have Lu:=zH hb5;have f9:=hd4.box.free 9;obtain⟨c0,c1,c2,c3,c4,oJ,c6,c7,c8,c9'⟩:=hd4.cells;clear wH hx5 hw4 hb5 hb3 hd4 hr;go_upto_region 2 with (fail)
 rw[V7.out,<-Lu.out];obtain⟨w5,hw5⟩:∃w5,w5=w4.setCell ⟨p,9,none⟩ (.slice none 0 0):=⟨_,rfl⟩;have hk5:=(bU.refl p w4).set 9 (.slice none 0 0);have aaV:=HD4.out.box.set 9 (.slice none 0 0);rw[<-hw5]at hk5 aaV;have hd5:fH w5 p { D with M:=Z.1,ca:=[] } pm none vt (.slice none 0 0) E EX X2 R2:=HD4.out.put hk5 aaV rfl HD4.out.tr HD4.out.tl ⟨rfl,.inl ⟨rfl,rfl⟩⟩ ⟨HD4.out.ap.p1,HD4.out.ap.p2,HD4.out.ap.p3,HD4.out.ap.e1,HD4.out.ap.e2,HD4.out.ap.t1,HD4.out.ap.t2,HD4.out.ap.t3,fun k _ h=>(by cases h),fun k h=>(by cases h),fun k h=>(by cases h),fun k h=>(by cases h),fun k h=>by cases h⟩;have HT5:=zH (Ch.put (QS:=vt) (Vg:=.slice none 0 0) HT4.out hk5 (fun k h=>by cases h) (fun k hk=>HT4.out.r k (.inr hk)));have HD5:=zH hd5;have YV:Hid (Bx w5 b4 58 aO):=zH ((hk5.block b4 ZX.out.2.1).trans ny.out);have H55:=zH ((hk5.block b5 ZX.out.1).trans H5.out);have HW5:=zH hw5.symm;have V3:=zH (yE (hd5.cells).1);have wC:=zH (En hd5 (D:={ D with M:=Z.1,ca:=[] }) ⟨HF.out.sU.fine,HF.out.sU.cl,HF.out.sU.a,HF.out.sU.b⟩ (Ch.refl (X:=DX p (.slice none 0 0) EX X2) (R:=DR vt R2)));clear hw5 hk5 aaV hd5;go_upto_region 3 with (fail)
 rw[HW5.out];clear c0 c1 c2 c3 c4 oJ c6 c7 c8 c9' f9;go_wp2_with fail;refine V3.out.mono ?_;rintro e w6 ⟨rfl,rfl⟩;rw[zt (show(({ D with M:=Z.1,ca:=[] }:PD).kind:Int)=1 by show(D.kind:Int)=1; rw[HK.out]; rfl)];go_wp2_with fail;refine wC.out.mono ?_;rintro e w7 ⟨rfl,hd7,xe⟩;have HD7:=zH hd7;have kF:=zH (HT5.out.trans xe);have hx7:Bx w7 b4 58 aO:=(xe.block b4 YV.out.lt (fun h9=>by
  rcases h9 with h9 | h9 | h9 | h9
  ·exact ZX.out.2.1 h9
  ·exact VC.out b4 (.inl (.inr (.inl h9))) rfl
  ·exact VC.out b4 (.inl (.inr (.inr (.inl h9)))) rfl
  ·cases h9)).trans YV.out
 have h57:=(xe.block b5 (show b5<w5.heap.size from(Array.getElem?_eq_some_iff.1 H55.out).1) (fun h9=>by
  rcases h9 with h9 | h9 | h9 | h9
  ·exact ZX.out.1 h9
  ·exact ZX.out.2.2 b5 (.inl (.inr (.inl h9))) rfl
  ·exact ZX.out.2.2 b5 (.inl (.inr (.inr (.inl h9)))) rfl
  ·cases h9)).trans H55.out
 have h57:Bx w7 b5 58 [.int .i64 r.key,.int .i64 r.aj,.slice none 0 0,.int .i64 r.cl,.bool r.fin,.slice none 0 0]:=h57;have s0:=h57.cell (i:=0) rfl;have s1:=h57.cell (i:=1) rfl;have s2:=h57.cell (i:=2) rfl;have s3:=h57.cell (i:=3) rfl;have s4:=h57.cell (i:=4) rfl;have s5:=h57.cell (i:=5) rfl;unfold aO at hx7;have t0:=hx7.cell (i:=0) rfl;have t1:=hx7.cell (i:=1) rfl;have t2:=hx7.cell (i:=2) rfl;have t3:=hx7.cell (i:=3) rfl;have t4:=hx7.cell (i:=4) rfl;have t5:=hx7.cell (i:=5) rfl;have tf:=fun i=>hx7.free i
 have LH:=zH hx7;have EN:Hid (∀b,DX p (.slice none 0 0) EX X2 b\/DR vt R2 b->b≠b4):=zH fun b hb=>by
  rcases hb with (h9 | h9 | h9 | h9) | h9
  ·exact h9 ▸ Ne.symm ZX.out.2.1
  ·exact VC.out b (.inl (.inr (.inl h9)))
  ·exact VC.out b (.inl (.inr (.inr (.inl h9))))
  ·cases h9
  ·exact VC.out b (.inr h9)
 clear hd7 xe hx7 h57;have aet:Hid ((vV D).M.Ok (N+64)):=zH (by rw[QI.out]; exact ni.out.mono (by have:=HF.out.n64; omega));have HB0:Hid (w0.heap.size<=b4):=zH (by have:=HT0.out; have:=qh.out; omega);go_wp2_with fail;refine zr (v:=dL (uC D) (.slice none 0 0) (.slice none 0 0)) (by rw[VH.out]; simp[results,results78,go_sem,dL,t0,t1,t2,t3,t4,t5]) rfl ⟨X2,R2,rfl,?_,fB kF.out HB0.out _ _ _ _ _ _,aet.out⟩;rw[QI.out];exact dG HD7.out EN.out _ _ _ _ _ _
theorem jV{w w':World}{X R X2 R2:Nat->Prop}(h:Ch X R X2 R2 w w'){b:Nat}(hb:b<w.heap.size)(hX:∀k,X k\/R k->k≠b):(∀k,X2 k\/R2 k->k≠b)/\w'.heap[b]? = w.heap[b]?:=by
 refine⟨?_,h.block b hb fun h9=>hX b (.inl h9) rfl⟩;rintro k (hk | hk) rfl
 ·rcases h.x _ hk with h1 | h1
  ·exact hX _ (.inl h1) rfl
  ·omega
 ·rcases h.r _ hk with h1 | h1
  ·exact hX _ (.inr h1) rfl
  ·omega
def oK(w0:World)(X0 R0:Nat->Prop)(p pm:Nat)(df:Option Addr)(E:World->Prop)(EX:Nat->Prop)(N:Nat)(r:Rp)(D:PD)(e:Ending)(w':World):Prop:=
 ∃vt vc X2 R2,e=.returned (dL r (.slice none 0 0) (.slice none 0 0))/\fH w' p D pm df vt vc E EX X2 R2/\Ch X0 R0 (DX p vc EX X2) (DR vt R2) w0 w'/\D.M.Ok N
def PD.sU(D:PD)(cl:Int)(fin:Bool)(l:List T.az):PD:={ D with cl:=cl,fin:=fin,tr:=l }
theorem LZ{w:World}{p pm:Nat}{D:PD}{df:Option Addr}{vt vc:Value}{E:World->Prop}{EX Xm Rm:Nat->Prop}(h:fH w p D pm df vt vc E EX Xm Rm){cl:Int}{fin:Bool}{v:Value}{l:List T.az}(hv:Held w v l (DX p vc EX Xm)):
 fH (((w.setCell ⟨p,4,none⟩ (.int .i64 cl)).setCell ⟨p,5,none⟩ (.bool fin)).setCell ⟨p,6,none⟩ v) p (D.sU cl fin l) pm df v vc E EX Xm Rm:=by
 have hk:=(((bU.refl p w).set 4 (.int .i64 cl)).set 5 (.bool fin)).set 6 v;have hbx:=((h.box.set 4 (.int .i64 cl)).set 5 (.bool fin)).set 6 v;exact h.put (D':=D.sU cl fin l) hk hbx rfl hv.rd hv.lt h.ca ⟨h.ap.p1,h.ap.p2,h.ap.p3,h.ap.e1,h.ap.e2,fun k hk e=>hv.ap k hk (.inl e),fun k hk h9=>hv.ap k hk (.inr (.inl h9)),fun k hk h9=>hv.ap k hk (.inr (.inr (.inl h9))),fun k hk h9=>hv.ap k hk (.inr (.inr (.inr h9))),h.ap.c1,h.ap.c2,h.ap.c3,h.ap.c4⟩
noncomputable def RN(D:PD)(cl:Int)(fin:Bool)(l:List T.az):PD:=mX ((vV D).sU cl fin l)
theorem Oc{w w0:World}{p pm N:Nat}{D:PD}{vt vc:Value}{E:World->Prop}{EX Xm Rm X0 R0:Nat->Prop}(h:fH w p D pm none vt vc E EX Xm Rm)(hc:Ch X0 R0 (DX p vc EX Xm) (DR vt Rm) w0 w)(hk:D.kind=1)(hf:D.Fit N)(hN:N<=4611686018427380000)
 (cl:Int)(fin:Bool)(v:Value)(l:List T.az)(hv:Held w v l (DX p vc EX Xm))(hv0:∀k,v.ownBlock=some k->R0 k\/w0.heap.size<=k)(hfl:E1.Fine l)(hcl:cl<=9223372036854775807)(hsl:(qW { D with M:=(jm D.M D.ca).1,ca:=[] }).1.length<=20000/\(qW { D with M:=(jm D.M D.ca).1,ca:=[] }).2.length<=20000)(kv:Value):
 Calls prog 157 #[.pointer (some ⟨p,0,none⟩),au cl fin v,.int .i64 0,kv] w (oK w0 X0 R0 p pm none E EX (N+64) (uC D) (RN D cl fin l)):=by
 obtain⟨a6,k6,rfl,Dy⟩:=bK.form hv.rd;obtain⟨w1,hw1⟩:∃w1,w1=(w.alloc (.cells #[.int .i64 cl,.bool fin,(.slice a6 l.length k6)] 37)).alloc (.cells aO.toArray 58):=⟨_,rfl⟩;obtain⟨bt,hbt⟩:∃b,b=w.heap.size:=⟨_,rfl⟩;obtain⟨b8,hb8⟩:∃b,b=w.heap.size+1:=⟨_,rfl⟩;have hA1:=(zB w.heap.size w).alloc (zl _) (.cells #[.int .i64 cl,.bool fin,(.slice a6 l.length k6)] 37);have hA:=hA1.alloc hA1.size (.cells aO.toArray 58);have F6:Bx ((w.alloc (.cells #[.int .i64 cl,.bool fin,(.slice a6 l.length k6)] 37)).alloc (.cells aO.toArray 58)) w.heap.size 37 [.int .i64 cl,.bool fin,(.slice a6 l.length k6)]:=(Bx.new w 37 [.int .i64 cl,.bool fin,(.slice a6 l.length k6)]).alloc _;have hbx:=Bx.new (w.alloc (.cells #[.int .i64 cl,.bool fin,(.slice a6 l.length k6)] 37)) 58 aO;rw[<-hw1]at hA hbx F6;rw[World.size_alloc,<-hb8]at hbx;rw[<-hbt]at F6;have hd1:=h.below hA;have hlo1:=h.lo;have hc1:=hc.trans (Ch.of hA);have HT1:=zH hc1;have HT0:=zH hc.size;have VH:=zH (U8 hd1 (Ch.refl (X:=DX p vc EX Xm) (R:=DR vt Rm)) hk hf hN 0 0 0 0 0 none 0 0);unfold dR dL at VH;have V3:=zH (yE (hd1.cells).1);have HXB:=zH hbx;have HXT:=zH F6;have CJ:Hid (b8<w1.heap.size/\(∀b,DX p vc EX Xm b\/DR vt Rm b->b≠b8)/\bt<w1.heap.size/\(∀b,DX p vc EX Xm b\/DR vt Rm b->b≠bt)/\w0.heap.size<=b8):=zH ⟨hbx.lt,fun b hb=>by have:=hlo1 b hb; omega,F6.lt,fun b hb=>by have:=hlo1 b hb; omega,by have:=hc.size; omega⟩;have HW1:Hid ((w.alloc (.cells #[.int .i64 cl,.bool fin,(.slice a6 l.length k6)] 37)).alloc (.cells #[.int .i64 0,.int .i64 0,.slice none 0 0,.int .i64 0,.bool false,.slice none 0 0] 58)=w1):=zH hw1.symm;have qh:=zH hb8;have HBT:=zH hbt;have HK:=zH hk;have HV:=zH (hv.keep (Ch.of (X:=DX p vc EX Xm) (R:=DR vt Rm) hA));have HV0:=zH hv0;have HVP:Hid (∀k,(Value.slice a6 l.length k6).ownBlock=some k->k≠b8):=zH fun k hk=>by have:=hv.lt k hk; omega
 have VZ:=zH (⟨hfl,hcl,hsl.1,hsl.2⟩:E1.Fine l/\cl<=9223372036854775807/\_/\_);have ZU:Hid (((D.kind:Nat):Int)=1):=zH (by rw[hk]; rfl);have x0:=F6.cell (i:=0) rfl;have x1:=F6.cell (i:=1) rfl;have x2:=F6.cell (i:=2) rfl;obtain⟨r,hr⟩:∃r,r=uC D:=⟨_,rfl⟩;rw[<-hr]at VH ⊢;clear hw1 hb8 hbt hA1 hA hbx F6 h hc hk hf hd1 hlo1 hc1 hv hv0 hfl hcl hsl hr;unfold au;go_enter func157,ntmps157;go_upto_region 1 with (fail)
 rw[HW1.out,<-qh.out,<-HBT.out];go_wp2_with fail;refine V3.out.mono ?_;rintro e w6 ⟨rfl,rfl⟩;rw[zt ZU.out];go_upto_region 5 with (fail)
 go_wp2_with fail;refine VH.out.mono ?_;rintro e w2 ⟨X2,R2,rfl,hd2,yN,hok2⟩;have a8:=jV yN CJ.out.1 CJ.out.2.1;have at_:=jV yN CJ.out.2.2.1 CJ.out.2.2.2.1;obtain⟨w4,hw4⟩:∃w4,w4=w2.alloc (.cells #[.int .i64 r.key,.int .i64 r.aj,.slice none 0 0,.int .i64 r.cl,.bool r.fin,.slice none 0 0] 58):=⟨_,rfl⟩;obtain⟨b5,hb5⟩:∃b,b=w2.heap.size:=⟨_,rfl⟩;have wH:=(zB w2.heap.size w2).alloc (zl _) (.cells #[.int .i64 r.key,.int .i64 r.aj,.slice none 0 0,.int .i64 r.cl,.bool r.fin,.slice none 0 0] 58);have hx5:Bx w4 b5 58 [.int .i64 r.key,.int .i64 r.aj,.slice none 0 0,.int .i64 r.cl,.bool r.fin,.slice none 0 0]:=by rw[hw4,hb5]; exact Bx.new w2 _ _
 rw[<-hw4]at wH;have hd4:=hd2.below wH;have HD4:=zH hd4;have HT4:=zH ((HT1.out.trans yN).trans (Ch.of wH));have acZ:Bx w2 b8 58 aO:=a8.2.trans HXB.out;have ac3:Bx w2 bt 37 [.int .i64 cl,.bool fin,(.slice a6 l.length k6)]:=at_.2.trans HXT.out;have QK:=zH (acZ.call wH);have aaf:=zH (ac3.call wH);have H5:=zH hx5;have HV4:=zH ((HV.out.keep yN).keep (Ch.of (X:=DX p (.slice none 0 0) EX X2) (R:=DR vt R2) wH));have HN8:Hid (b8≠p/\b5≠p/\bt≠p/\(∀b,DX p (.slice none 0 0) EX X2 b\/DR vt R2 b->b≠b8)/\∀b,DX p (.slice none 0 0) EX X2 b\/DR vt R2 b->b≠b5):=zH ⟨fun e=>a8.1 p (.inl (.inl rfl)) e.symm,fun e=>by have:=hd2.lo p (.inl (.inl rfl)); omega,fun e=>at_.1 p (.inl (.inl rfl)) e.symm,a8.1,fun b hb=>by have:=hd2.lo b hb; omega⟩;have V7:=zH hw4.symm;have Lu:=zH hb5;have ni:=zH hok2;have hpl:=hd4.box.lt;have f4:=hd4.box.free 4;have f5:=hd4.box.free 5;have f6:=hd4.box.free 6;obtain⟨c0,c1,c2,c3,c4,oJ,c6,c7,c8,c9'⟩:=hd4.cells;replace x0:=aaf.out.cell (i:=0) rfl;replace x1:=aaf.out.cell (i:=1) rfl;replace x2:=aaf.out.cell (i:=2) rfl;clear wH hx5 hw4 hb5 hd4 a8 at_ hd2 yN hok2 acZ ac3;go_upto_region 6 with (fail)
 rw[V7.out,<-Lu.out];go_upto_region 7 with (fail)
 obtain⟨w5,hw5⟩:∃w5,w5=((w4.setCell ⟨p,4,none⟩ (.int .i64 cl)).setCell ⟨p,5,none⟩ (.bool fin)).setCell ⟨p,6,none⟩ (.slice a6 l.length k6):=⟨_,rfl⟩;have hd5:=LZ (cl:=cl) (fin:=fin) HD4.out HV4.out;have hc5:=Ch.put HT4.out (QS:=(.slice a6 l.length k6)) (Vg:=.slice none 0 0) ((((bU.refl p w4).set 4 (.int .i64 cl)).set 5 (.bool fin)).set 6 (.slice a6 l.length k6)) (fun k h=>by cases h) HV0.out;have hk5:=((((bU.refl p w4).set 4 (.int .i64 cl)).set 5 (.bool fin)).set 6 (.slice a6 l.length k6));rw[<-hw5]at hd5 hc5 hk5;have HD5:=zH hd5;have HT5:=zH hc5;have YV:Hid (Bx w5 b8 58 aO):=zH ((hk5.block b8 HN8.out.1).trans QK.out);have H55:Hid (Bx w5 b5 58 [.int .i64 r.key,.int .i64 r.aj,.slice none 0 0,.int .i64 r.cl,.bool r.fin,.slice none 0 0]):=zH ((hk5.block b5 HN8.out.2.1).trans H5.out);have wC:=zH (En hd5 ⟨VZ.out.1,VZ.out.2.1,VZ.out.2.2.1,VZ.out.2.2.2⟩ (Ch.refl (X:=DX p (.slice none 0 0) EX X2) (R:=DR (.slice a6 l.length k6) R2)));have HW5:=zH hw5.symm;clear hw5 hd5 hc5 hk5;rw[HW5.out];clear c0 c1 c2 c3 c4 oJ c6 c7 c8 c9' f4 f5 f6 x0 x1 x2 hpl;go_wp2_with fail;refine wC.out.mono ?_;rintro e w7 ⟨rfl,hd7,xe⟩;have HD7:=zH hd7;have kF:=zH (HT5.out.trans xe);have EN:Hid (∀b,DX p (.slice none 0 0) EX X2 b\/DR (.slice a6 l.length k6) R2 b->b≠b8):=zH fun b hb=>by
  rcases hb with h9 | h9 | h9
  ·exact HN8.out.2.2.2.1 b (.inl h9)
  ·exact HN8.out.2.2.2.1 b (.inr (.inl h9))
  ·exact HVP.out b h9
 have a8:w7.heap[b8]? = w5.heap[b8]?:=xe.block b8 YV.out.lt fun h9=>HN8.out.2.2.2.1 b8 (.inl h9) rfl
 have a5:w7.heap[b5]? = w5.heap[b5]?:=xe.block b5 H55.out.lt fun h9=>HN8.out.2.2.2.2 b5 (.inl h9) rfl
 have hx7:Bx w7 b8 58 aO:=a8.trans YV.out;have h57:Bx w7 b5 58 [.int .i64 r.key,.int .i64 r.aj,.slice none 0 0,.int .i64 r.cl,.bool r.fin,.slice none 0 0]:=a5.trans H55.out;have s0:=h57.cell (i:=0) rfl;have s1:=h57.cell (i:=1) rfl;have s2:=h57.cell (i:=2) rfl;have s3:=h57.cell (i:=3) rfl;have s4:=h57.cell (i:=4) rfl;have s5:=h57.cell (i:=5) rfl;unfold aO at hx7;have t0:=hx7.cell (i:=0) rfl;have t1:=hx7.cell (i:=1) rfl;have t2:=hx7.cell (i:=2) rfl;have t3:=hx7.cell (i:=3) rfl;have t4:=hx7.cell (i:=4) rfl;have t5:=hx7.cell (i:=5) rfl;have tf:=fun i=>hx7.free i
 clear hd7 xe hx7 h57 a8 a5;go_wp2_with fail;refine zr (v:=dL r (.slice none 0 0) (.slice none 0 0)) (by simp[results,results157,go_sem,dL,t0,t1,t2,t3,t4,t5]) rfl ⟨(.slice a6 l.length k6),.slice none 0 0,X2,R2,rfl,dG HD7.out EN.out _ _ _ _ _ _,fB kF.out CJ.out.2.2.2.2 _ _ _ _ _ _,ni.out⟩
theorem I9{w w0:World}{p pm N:Nat}{D:PD}{vt vc:Value}{E:World->Prop}{EX Xm Rm X0 R0:Nat->Prop}(h:fH w p D pm none vt vc E EX Xm Rm)(hc:Ch X0 R0 (DX p vc EX Xm) (DR vt Rm) w0 w)(hk:D.kind=1)(ho:D.M.Ok N)
 (cl:Int)(fin:Bool)(v:Value){code key:Int}(hcd:code≠0)(hc1:-9223372036854775808<=code)(hc2:code<=9223372036854775807){b n:Nat}{f:Int->Option Value}(hm:MF 66 w b n f)(hfk:f code=some (.int .i64 key)):
 Calls prog 157 #[.pointer (some ⟨p,0,none⟩),au cl fin v,.int .i64 code,.map (some b)] w (oK w0 X0 R0 p pm none E EX N (Rp.sense key 0) D):=by
 obtain⟨w1,hw1⟩:∃w1,w1=(w.alloc (.cells #[.int .i64 cl,.bool fin,v] 37)).alloc (.cells aO.toArray 58):=⟨_,rfl⟩;obtain⟨b8,hb8⟩:∃b,b=w.heap.size+1:=⟨_,rfl⟩;have hA1:=(zB w.heap.size w).alloc (zl _) (.cells #[.int .i64 cl,.bool fin,v] 37);have hA:=hA1.alloc hA1.size (.cells aO.toArray 58);have hbx:=Bx.new (w.alloc (.cells #[.int .i64 cl,.bool fin,v] 37)) 58 aO;rw[<-hw1]at hA hbx;rw[World.size_alloc,<-hb8]at hbx;have hd1:=h.below hA;have hlo1:=h.lo;have hc1':=hc.trans (Ch.of hA);have HT1:=zH hc1';have V3:=zH (yE (hd1.cells).1);have HXB:=zH hbx;have CJ:Hid ((∀b,DX p vc EX Xm b\/DR vt Rm b->b≠b8)/\w0.heap.size<=b8):=zH ⟨fun b hb=>by have:=hlo1 b hb; omega,by have:=hc.size; omega⟩;have HW1:Hid ((w.alloc (.cells #[.int .i64 cl,.bool fin,v] 37)).alloc (.cells #[.int .i64 0,.int .i64 0,.slice none 0 0,.int .i64 0,.bool false,.slice none 0 0] 58)=w1):=zH hw1.symm;have qh:=zH hb8;have ZU:Hid (((D.kind:Nat):Int)=1):=zH (by rw[hk]; rfl);have hlook:=(hm.below hA).look1 underlying66 underlying258 (z:=.int .i64 0) (by kernel_rfl) code hc1 hc2 hfk;have afw:decide (code=0)=false:=zf hcd;have jO:=zH (fU key 0 w1);unfold dL Rp.sense at jO;have HD1:=zH hd1;have HO:=zH ho;clear hw1 hb8 hA1 hA hbx h hc hk hd1 hlo1 hc1' ho hm hfk;unfold au;go_enter func157,ntmps157;go_upto_region 1 with (fail)
 rw[HW1.out,<-qh.out];go_wp2_with fail;refine V3.out.mono ?_;rintro e w6 ⟨rfl,rfl⟩;rw[zt ZU.out];go_wp2_with fail;refine jO.out.mono ?_;rintro e w7 ⟨rfl,hb7⟩;have HD7:=zH (HD1.out.below (hb7.mono (zl _)));have kF:=zH (HT1.out.trans (Ch.of (X:=DX p vc EX Xm) (R:=DR vt Rm) hb7));have hx7:=HXB.out.call hb7;unfold aO at hx7;have t0:=hx7.cell (i:=0) rfl;have t1:=hx7.cell (i:=1) rfl;have t2:=hx7.cell (i:=2) rfl;have t3:=hx7.cell (i:=3) rfl;have t4:=hx7.cell (i:=4) rfl;have t5:=hx7.cell (i:=5) rfl;have tf:=fun i=>hx7.free i
 clear hb7 hx7;go_wp2_with fail;refine zr (v:=dL (Rp.sense key 0) (.slice none 0 0) (.slice none 0 0)) (by simp[results,results157,go_sem,dL,Rp.sense,t0,t1,t2,t3,t4,t5]) rfl ⟨vt,vc,Xm,Rm,rfl,dG HD7.out CJ.out.1 _ _ _ _ _ _,fB kF.out CJ.out.2 _ _ _ _ _ _,HO.out⟩
end T7
end Go.Proofs.YtfnehkmhcmkhjaaGreat
