/- Parts -/
import Derived.Maps.OwnOps
import Derived.Maps.OwnSet
import Derived.Maps.Views
import Derived.Maps.RangeWalk
import Derived.Deep.DeepMust
import Derived.Test.YtfnehkmhcmkhjaaGreatDu09
import Derived.Deep.CutBlock
import Derived.Deep.DeepCutAuto
set_option maxRecDepth 100000
set_option maxHeartbeats 8000000
set_option linter.unusedVariables false
namespace Go.Proofs.YtfnehkmhcmkhjaaGreat
open Tryz
namespace Ih
open Go.RowKit
def nmb(m s f:Int):Int:=(60*m+s)*75+f
theorem akb{m s f:Int}(h:vB m s f=true):0<=nmb m s f/\nmb m s f<450000:=by have:=Zd.1 h;unfold nmb;omega
theorem agS(m s f:Int)(w:World)(h:vB m s f=true):Calls prog 150 #[jK m s f] w (R2B (.int .i64 (nmb m s f-150)) (.int .i64 0) w):=by have HV:=zH h;have hbd:=akb h;have HN:=zH (λW=>Oz m s f W (Zd.1 h));clear h;have HE:Hid ((60*m+s)*75+f=nmb m s f):=zH rfl;go_enter func150,ntmps150;go_wp2_with fail;refine(wC m s f _).mono ?_;rw[HV.out];rintro e w1 ⟨rfl,hb⟩;have hM:=(Bx.new w 235 [.int .i64 m,.int .i64 s,.int .i64 f]).call hb;have hle:=((zB w.heap.size w).alloc (zl _) (.cells #[.int .i64 m,.int .i64 s,.int .i64 f] 235)).trans (hb.mono (by simp));have c0:=hM.cell (i:=0) rfl;have c1:=hM.cell (i:=1) rfl;have c2:=hM.cell (i:=2) rfl;clear hb hM;go_wp2_with fail;refine(HN.out _).mono ?_;rw[HE.out];rintro e w2 ⟨rfl,hb2⟩;go_wp2_with fail;go_ret2;exact⟨rfl,hle.trans (hb2.mono hle.size)⟩
theorem oh{P:Program}{t:TypeId}(ht:P.underlying t=some .string)(l:List UInt8)(k:Nat)(hk:k<l.length)(i:Int)(hi:i=k)(w:World):
 (Instr.index t (.string (str l)) (.int .i64 i)).run P w=.ok (B (G.ix l k)) w:=by
 subst hi;have h1:(str l).size=l.length:=au l;have h2:((str l)[k]'(by rw[h1];exact hk))=l[k]:=by simp[str,ByteArray.getElem_eq_getElem_data]
 simp[Instr.index,asIntOf,YH ht,h1,hk,h2,G.ix]
def bn(l:List UInt8)(k:Nat):Int:=((G.ix l k).toNat:Int)
theorem ace(l:List UInt8)(k:Nat):0<=bn l k/\bn l k<=255:=by have:=(G.ix l k).toNat_lt;unfold bn;omega
theorem Nu{P:Program}{t:TypeId}(ht:P.underlying t=some .string)(l:List UInt8)(k:Nat)(hk:k<l.length)(i:Int)(hi:i=k)(w:World):
 (Instr.index t (.string (str l)) (.int .i64 i)).run P w=.ok (.int .u8 (bn l k)) w:=oh ht l k hk i hi w
def okD(x y z:Int):Prop:=(aH x).2=0/\(aH y).2=0/\(aH z).2=0/\vB (aH x).1 (aH y).1 (aH z).1=true
instance (x y z:Int):Decidable (okD x y z):=by unfold okD;infer_instance
def dM(x y z:Int):Int:=if okD x y z then(aH x).1 else 0
def dS(x y z:Int):Int:=if okD x y z then(aH y).1 else 0
def dF(x y z:Int):Int:=if okD x y z then(aH z).1 else 0
def dE(x y z:Int):Int:=if okD x y z then 0 else 10
theorem aii{x y z:Int}(h:okD x y z):dM x y z=(aH x).1/\dS x y z=(aH y).1/\dF x y z=(aH z).1/\dE x y z=0:=⟨zj h,zj h,zj h,zj h⟩
theorem an6{x y z:Int}(h:¬ okD x y z):dM x y z=0/\dS x y z=0/\dF x y z=0/\dE x y z=10:=⟨zi h,zi h,zi h,zi h⟩
theorem Gs(c:Int):(aH c).2=0\/(aH c).2=2:=by unfold aH;split <;> simp
abbrev mo(m s f:Int):Obj:=.cells #[.int .i64 m,.int .i64 s,.int .i64 f] 235
abbrev mc(m s f:Int):List Value:=[.int .i64 m,.int .i64 s,.int .i64 f]
abbrev MB(W:World)(g:Nat)(m s f:Int):Prop:=Bx W g 235 (mc m s f)
abbrev ais(B g2:Nat)(m s f:Int):World->World->Prop:=Cj B g2 235 3 (λ_ W=>MB W g2 m s f)
def WC(B g2 g4:Nat)(m s f:Int)(i:Nat)(v:Value)(W:World):Prop:=match i with
 |0=>v=jK m s f
 |1=>v=jK m s f
 |2=>v=.bool (vB m s f)
 |3=>MB W g2 m s f
 |4=>v=.bool (vB m s f)
 |_=>True
theorem Us(B g2 g4:Nat)(m s f:Int)(i:Nat)(v:Value)(W W':World)(hR:ais B g2 m s f W W')(h:WC B g2 g4 m s f i v W):WC B g2 g4 m s f i v W':=by
 by_cases h3:i=3
 ·subst h3;exact hR.2.2.2 0 h
 unfold WC at h ⊢;split at h <;> first|exact h|exact absurd rfl h3
theorem Bx.amB(w:World)(o:Obj)(t:TypeId)(cs:List Value)(g:Nat)(hg:g=w.heap.size+1):Bx ((w.alloc o).alloc (.cells cs.toArray t)) g t cs:=by
 have h:=Bx.new (w.alloc o) t cs;have e:(w.alloc o).heap.size=g:=by rw[hg];simp
 rwa[e]at h
theorem adE(m s f:Int)(w:World):Calls prog 235 #[.agg #[.int .i64 m,.int .i64 s,.int .i64 f]] w (RV (.tuple #[jK m s f,.bool (vB m s f)]) w):=by
 go_enter func235,ntmps235;go_upto_region 2 with (fail)
 obtain⟨g2,hg2⟩:∃g,g=w.heap.size+1:=⟨_,rfl⟩;obtain⟨g4,hg4⟩:∃g,g=w.heap.size+1+1:=⟨_,rfl⟩;have hb0:=(zB w.heap.size w).alloc (zl _) (.cells #[.int .i64 m,.int .i64 s,.int .i64 f] 325);have hs0:(w.alloc (.cells #[.int .i64 m,.int .i64 s,.int .i64 f] 325)).heap.size=w.heap.size+1:=by simp
 rw[<-hg4,<-hg2];generalize w.alloc (.cells #[.int .i64 m,.int .i64 s,.int .i64 f] 325)=w1 at hb0 hs0 ⊢;have hB2:MB ((w1.alloc (mo 0 0 0)).alloc (mo m s f)) g2 0 0 0:=by rw[hg2,<-hs0];exact(Bx.new w1 _ (mc 0 0 0)).alloc _
 have hB4:MB ((w1.alloc (mo 0 0 0)).alloc (mo m s f)) g4 m s f:=Bx.amB w1 _ _ (mc m s f) g4 (by omega);have hle:=(hb0.alloc hb0.size (mo 0 0 0)).alloc (by have:=hb0.size;simp;omega) (mo m s f);generalize (w1.alloc (mo 0 0 0)).alloc (mo m s f)=w2 at hB2 hB4 hle ⊢;have hgB:w.heap.size<=g2:=by omega
 have aoi:g4≠g2:=by omega
 clear hg2 hg4 hs0 hb0;obtain⟨B,hBB⟩:∃B,B=w.heap.size:=⟨_,rfl⟩;rw[<-hBB]at hle hgB;refine fP (by kernel_rfl) (ais B g2 m s f) (λW=>Below B w W/\MB W g4 m s f/\∃cs:List Value,cs.length=3/\Bx W g2 235 cs) (WC B g2 g4 m s f) (λ_=>false) (by kernel_rfl) (λW W' hR h=>⟨h.1.trans hR.1,(hR.2.1.2 g4 h.2.1.lt (λe=>aoi (zs e))).trans h.2.1,hR.2.2.1 h.2.2⟩) (Us B g2 g4 m s f) (⟨hle.drew,hB4,_,rfl,hB2⟩) ⟨?_,?_,?_,?_,?_,trivial⟩ ?_
 ·intro a W hc hsz hold ah;have o4:a.tmps.getD 4 undef=.pointer (some ⟨g4,0,none⟩):=hold 4 (by kernel_rfl);have c0:=hc.2.1.cell (i:=0) rfl;have c1:=hc.2.1.cell (i:=1) rfl;have c2:=hc.2.1.cell (i:=2) rfl;clear hsz hold ah;refine ai rfl (ag rfl) ?_;refine ak (v:=jK m s f) Cj.refl rfl λK hK=>?_
  go_simp;exact hK
 ·intro a W hc hsz hold ah;have o4:a.tmps.getD 4 undef=.pointer (some ⟨g4,0,none⟩):=hold 4 (by kernel_rfl);have c0:=hc.2.1.cell (i:=0) rfl;have c1:=hc.2.1.cell (i:=1) rfl;have c2:=hc.2.1.cell (i:=2) rfl;clear hsz hold ah;refine ai rfl (ag rfl) ?_;refine ak (v:=jK m s f) Cj.refl rfl λK hK=>?_
  go_simp;exact hK
 ·intro a W hc hsz hold ah;have d1:=zV 13 (jK m s f) (ah 1 rfl rfl _ rfl);have e1:=zq d1;clear hsz hold ah;refine ai rfl (ag rfl) ?_;refine eG (v:=.bool (vB m s f)) (λW' hb=>Cj.call (λ_ _ _ hb h=>h.call hb) (zT (YF hBB) hc.1.size) hb) (λ_=>rfl) λK hK=>?_
  go_simp;refine(wC m s f _).mono ?_;rintro e w' ⟨rfl,hb'⟩;exact hK _ hb'
 ·intro a W hc hsz hold ah;have o2:a.tmps.getD 2 undef=.pointer (some ⟨g2,0,none⟩):=hold 2 (by kernel_rfl);have d0:=zV 12 (jK m s f) (ah 0 rfl rfl _ rfl);clear hsz hold ah;refine ai rfl (ag rfl) ?_;obtain⟨cs,hl,hB⟩:=hc.2.2;obtain⟨a0,a1,a2,rfl⟩:∃a0 a1 a2,cs = [a0,a1,a2]:=by
   match cs,hl with
   | [x,y,z],_=>exact⟨x,y,z,rfl⟩
  have c0:=hB.cell (i:=0) rfl;have c1:=hB.cell (i:=1) rfl;have c2:=hB.cell (i:=2) rfl;have hf:=hB.free;have hS:MB (bK W g2 0 (mc m s f)) g2 m s f:=hB.bK (mc m s f) 0;refine JY (v:=undef) (Cj.store hgB 0 (mc m s f) λ_ _=>hS) hS λK hK=>?_
  clear hS hB;go_simp;exact hK
 ·intro a W hc hsz hold ah;have d2:=zV 14 (.bool (vB m s f)) (ah 2 rfl rfl _ rfl);clear hsz hold ah;refine ai rfl (ag rfl) ?_;refine ak (v:=.bool (vB m s f)) Cj.refl rfl λK hK=>?_
  go_simp;exact hK
 ·intro a W hC hd hsz hold hval;have d3:a.tmps.getD 3 undef=.bool (vB m s f):=hval 4 _ rfl rfl;have d2:a.tmps.getD 2 undef=.pointer (some ⟨g2,0,none⟩):=hold 2 (by kernel_rfl);clear hold;obtain⟨tm,df⟩:=a;replace hd:df = []:=hd;replace hsz:tm.size=15:=hsz;replace d3:tm.getD 3 undef=.bool (vB m s f):=d3;replace d2:tm.getD 2 undef=.pointer (some ⟨g2,0,none⟩):=d2;subst hd;have e:tm = #[tm.getD 0 undef,tm.getD 1 undef,tm.getD 2 undef,tm.getD 3 undef,tm.getD 4 undef,tm.getD 5 undef,tm.getD 6 undef,tm.getD 7 undef,tm.getD 8 undef,tm.getD 9 undef,tm.getD 10 undef,tm.getD 11 undef,tm.getD 12 undef,tm.getD 13 undef,tm.getD 14 undef]:=ab1 tm 15 hsz;rw[d3,d2]at e;clear d3 d2 hsz;generalize tm.getD 0 undef=v0 at e;generalize tm.getD 1 undef=v1 at e;generalize tm.getD 4 undef=v4 at e;generalize tm.getD 5 undef=v5 at e;generalize tm.getD 6 undef=v6 at e;generalize tm.getD 7 undef=v7 at e;generalize tm.getD 8 undef=v8 at e;generalize tm.getD 9 undef=v9 at e;generalize tm.getD 10 undef=v10 at e;generalize tm.getD 11 undef=v11 at e;generalize tm.getD 12 undef=v12 at e;generalize tm.getD 13 undef=v13 at e;generalize tm.getD 14 undef=v14 at e;subst e;have hM:MB W g2 m s f:=hval 3 _ rfl rfl;have hle2:=hC.1;rw[hBB]at hle2;clear hval hC;have c0:=hM.cell (i:=0) rfl;have c1:=hM.cell (i:=1) rfl;have c2:=hM.cell (i:=2) rfl;clear hM;go_wp2_with fail;exact zr (v:=.tuple #[jK m s f,.bool (vB m s f)]) (by simp[results,results235,go_sem,c0,c1,c2]) rfl ⟨rfl,hle2⟩
def c3(i:Nat)(x y z:Int):List Value:=[.int .i64 (if 0<i then x else 0),.int .i64 (if 1<i then y else 0),.int .i64 (if 2<i then z else 0)]
def okN(i:Nat)(x y z:Int):Prop:=(0<i->(aH x).2=0)/\(1<i->(aH y).2=0)/\(2<i->(aH z).2=0)
theorem MN{x y z:Int}(h:(aH x).2=2\/(aH y).2=2\/(aH z).2=2):¬ okD x y z:=λe=>by obtain⟨e1,e2,e3,_⟩:=e;omega
theorem aia:∀w,(zeroValue 325).run prog w=.ok (.agg #[.int .i64 0,.int .i64 0,.int .i64 0]) w:=λ_=>by kernel_rfl
def zU(x y z:Int)(w:World)(e:Ending)(w':World):Prop:=e=.returned (.tuple #[jK (dM x y z) (dS x y z) (dF x y z),.int .i64 (dE x y z)])/\Below w.heap.size w w'
theorem zU.yes{x y z:Int}{w w':World}(h:okD x y z)(hb:Below w.heap.size w w'){v:Value}(hv:v=.tuple #[jK (aH x).1 (aH y).1 (aH z).1,.int .i64 0]):zU x y z w (.returned v) w':=by obtain⟨h1,h2,h3,h4⟩:=aii h;unfold zU;rw[h1,h2,h3,h4,hv];exact⟨rfl,hb⟩
theorem zU.no{x y z:Int}{w w':World}(h:¬ okD x y z)(hb:Below w.heap.size w w'){v:Value}(hv:v=.tuple #[jK 0 0 0,.int .i64 10]):zU x y z w (.returned v) w':=by obtain⟨h1,h2,h3,h4⟩:=an6 h;unfold zU;rw[h1,h2,h3,h4,hv];exact⟨rfl,hb⟩
theorem Sm(l:List UInt8)(w:World)(hl:l.length=2352):Calls prog 148 #[.string (str l),.int .i64 12] w (zU (bn l 12) (bn l 13) (bn l 14) w):=by
 have hsz:(str l).size=2352:=by rw[au,hl]
 have hx0:=λW=>Nu (P:=prog) underlying9 l 12 (by omega) 12 rfl W
 have hx1:=λW=>Nu (P:=prog) underlying9 l 13 (by omega) 13 rfl W
 have hx2:=λW=>Nu (P:=prog) underlying9 l 14 (by omega) 14 rfl W
 obtain⟨b0,b0'⟩:=ace l 12;obtain⟨b1,b1'⟩:=ace l 13;obtain⟨b2,b2'⟩:=ace l 14;clear hl;generalize str l=S at hsz hx0 hx1 hx2 ⊢;generalize bn l 12=x at *;generalize bn l 13=y at *;generalize bn l 14=z at *;have hz3:=aia;go_enter func148,ntmps148;go_wp2_with fail;clear hsz hz3;obtain⟨gR,hgR⟩:∃g,g=w.heap.size:=⟨_,rfl⟩;obtain⟨gL,hgL⟩:∃g,g=w.heap.size+1:=⟨_,rfl⟩;have hR:MB ((w.alloc (mo 0 0 0)).alloc (.cells #[.int .i64 0,.int .i64 0,.int .i64 0] 325)) gR 0 0 0:=by rw[hgR];exact(Bx.new w _ (mc 0 0 0)).alloc _
 have hL:Bx ((w.alloc (mo 0 0 0)).alloc (.cells #[.int .i64 0,.int .i64 0,.int .i64 0] 325)) gL 325 (c3 0 (aH x).1 (aH y).1 (aH z).1):=Bx.amB w _ _ (mc 0 0 0) gL hgL;have hle:=((zB w.heap.size w).alloc (zl _) (mo 0 0 0)).alloc (by simp) (.cells #[.int .i64 0,.int .i64 0,.int .i64 0] 325);generalize (w.alloc (mo 0 0 0)).alloc (.cells #[.int .i64 0,.int .i64 0,.int .i64 0] 325)=w1 at hR hL hle ⊢;have aag:w.heap.size<=gR:=by omega
 have agz:w.heap.size<=gL:=by omega
 have hne:gL≠gR:=by omega
 simp only[<-hgL];simp only[<-hgR];obtain⟨B,hBB⟩:∃B,B=w.heap.size:=⟨_,rfl⟩;rw[<-hBB]at hle aag agz;have HB:=zH hBB;clear hgR hgL hBB
 go_loopw [22] (λvi wr=>∃(i:Nat),i<=3/\vi=.int .i64 i/\Hid (okN i x y z)/\Hid (MB wr gR 0 0 0)/\Hid (Bx wr gL 325 (c3 i (aH x).1 (aH y).1 (aH z).1))/\Below B w wr) (λvi _=>3-(RowKit.intOf vi).toNat)
 case atStart=>exact⟨0,by omega,rfl,zH ⟨λh=>by omega,λh=>by omega,λh=>by omega⟩,zH hR,zH hL,hle⟩
 case round=>
  clear hR hL hle;obtain⟨i,hi,rfl,HO,HR,HL,hb⟩:=hrel;by_cases h3:i=3
  ·subst h3;have hO:(aH x).2=0/\(aH y).2=0/\(aH z).2=0:=⟨HO.out.1 (by omega),HO.out.2.1 (by omega),HO.out.2.2 (by omega)⟩;have vG:=zH hO;have hL:Bx wr gL 325 (mc (aH x).1 (aH y).1 (aH z).1):=HL.out;have c0:=hL.cell (i:=0) rfl;have c1:=hL.cell (i:=1) rfl;have c2:=hL.cell (i:=2) rfl;have HJ:=zH (λW=>adE (aH x).1 (aH y).1 (aH z).1 W);clear hL hO hx0 hx1 hx2 HL HO hi;have HY:vB (aH x).1 (aH y).1 (aH z).1=true->okD x y z:=λh=>⟨vG.out.1,vG.out.2.1,vG.out.2.2,h⟩
   have HN:vB (aH x).1 (aH y).1 (aH z).1=false->¬ okD x y z:=λh e=>by rw[e.2.2.2]at h;cases h
   have HY:=zH HY;have HN:=zH HN;have HZ:Hid (∀W',Below B w W'->Below w.heap.size w W'):=zH λW' h=>by rw[<-HB.out];exact h
   have hBs:B<=wr.heap.size:=zT (YF HB.out) hb.size;generalize hm1:(aH x).1=m at *;generalize hm2:(aH y).1=s at *;generalize Dk:(aH z).1=f at *;have HM1:=zH hm1;have HM2:=zH hm2;have HM3:=zH Dk;clear hm1 hm2 Dk;go_wp2_with fail;refine(HJ.out _).mono ?_;rintro e w2 ⟨rfl,hb2⟩;have hM2:=HR.out.call hb2;have hle2:=hb.trans (hb2.mono hBs);have hs2:B<=w2.heap.size:=zT hBs hb2.size;clear hb2 c0 c1 c2;cases hv:vB m s f with
   | true=>
     have hok:=HY.out hv;have HK:=zH hok;clear hok;have hf:=hM2.free;have hM4:MB ((bK w2 gR 0 (mc m s f)).alloc (mo m s f)) gR m s f:=(hM2.bK (mc m s f) 0).alloc _;have ac9:Below B w ((bK w2 gR 0 (mc m s f)).alloc (mo m s f)):=(Below.bK aag (mc m s f) 0 hle2).alloc (by simp[bK];exact hs2) _;have HM4:=zH hM4;have lQ:=zH (HZ.out _ ac9);have q0:=hM2.cell (i:=0) rfl;have q1:=hM2.cell (i:=1) rfl;have q2:=hM2.cell (i:=2) rfl;have hlt:=hM2.lt;clear hM4 ac9 hM2 hv hle2;go_wp2_with fail;have r0:=HM4.out.cell (i:=0) rfl;have r1:=HM4.out.cell (i:=1) rfl;have r2:=HM4.out.cell (i:=2) rfl;simp only[bK,Yf,Nat.reduceAdd]at r0 r1 r2;exact zr (v:=.tuple #[jK m s f,.int .i64 0]) (by simp[results,results148,go_sem,q0,q1,q2,hlt]) rfl (zU.yes HK.out lQ.out (by rw[HM1.out,HM2.out,HM3.out]))
   | false=>
     have hok:=HN.out hv;have HK:=zH hok;clear hok;have hf:=hM2.free;have hM4:MB ((bK w2 gR 0 (mc 0 0 0)).alloc (mo m s f)) gR 0 0 0:=(hM2.bK (mc 0 0 0) 0).alloc _;have ac9:Below B w ((bK w2 gR 0 (mc 0 0 0)).alloc (mo m s f)):=(Below.bK aag (mc 0 0 0) 0 hle2).alloc (by simp[bK];exact hs2) _;have HM4:=zH hM4;have lQ:=zH (HZ.out _ ac9);have q0:=hM2.cell (i:=0) rfl;have q1:=hM2.cell (i:=1) rfl;have q2:=hM2.cell (i:=2) rfl;have hlt:=hM2.lt;clear hM4 ac9 hM2 hv hle2;go_wp2_with fail;have r0:=HM4.out.cell (i:=0) rfl;have r1:=HM4.out.cell (i:=1) rfl;have r2:=HM4.out.cell (i:=2) rfl;simp only[bK,Yf,Nat.reduceAdd]at r0 r1 r2;exact zr (v:=.tuple #[jK 0 0 0,.int .i64 10]) (by simp[results,results148,go_sem,q0,q1,q2,hlt]) rfl (zU.no HK.out lQ.out rfl)
  by_cases h0:i=0
  ·subst h0;have HU:=zH (λW=>Bc x W b0 b0');have hL:Bx wr gL 325 (c3 0 (aH x).1 (aH y).1 (aH z).1):=HL.out;have hbs:=hb.size;rcases Gs x with he|he
   ·have HE:=zH he;clear he h3 HL;have hf:=hL.free;have hlt:=hL.lt;have hq:wr.cell? ⟨gL,0,none⟩=some (.int .i64 0):=hL.cell (i:=0) rfl;have HL2:Hid (Bx (wr.setCell ⟨gL,0,none⟩ (.int .i64 (aH x).1)) gL 325 (c3 1 (aH x).1 (aH y).1 (aH z).1)):=zH (hL.set 0 _);have HR2:Hid (MB (wr.setCell ⟨gL,0,none⟩ (.int .i64 (aH x).1)) gR 0 0 0):=zH (HR.out.far (p:=⟨gL,0,none⟩) hne _);have hb2:Below B w (wr.setCell ⟨gL,0,none⟩ (.int .i64 (aH x).1)):=hb.setCell (p:=⟨gL,0,none⟩) agz _;have Oq:Hid (∀W,Calls prog 234 #[.int .u8 x] W (R2 (.int .i64 (aH x).1) (.int .i64 0) W)):=zH (λW=>by have:=HU.out W;rwa[HE.out]at this);clear hL HR HU hb hbs;generalize (aH x).1=uu at HL2 HR2 hb2 Oq;go_wp2_with fail;refine(Oq.out _).mono ?_;rintro e w2 ⟨rfl,rfl⟩;go_wp2_with fail;first
    | (go_roundw
       case rel=>exact⟨1,by omega,by go_num,zH ⟨λ_=>HE.out,λh=>by omega,λh=>by omega⟩,HR2,HL2,hb2⟩
       case measure=>simp[RowKit.intOf])
    |exact⟨⟨1,by omega,by go_num,zH ⟨λ_=>HE.out,λh=>by omega,λh=>by omega⟩,HR2,HL2,hb2⟩,by simp[RowKit.intOf]⟩
   ·have HE:=zH he;have N7:=zH (MN (x:=x) (y:=y) (z:=z) (by first|exact .inl he|exact .inr (.inl he)|exact .inr (.inr he)));clear he h3 HL hL;have hf:=HR.out.free;have hlt:=HR.out.lt;have q0:=HR.out.cell (i:=0) rfl;have q1:=HR.out.cell (i:=1) rfl;have q2:=HR.out.cell (i:=2) rfl;have HR2:Hid (MB (bK wr gR 0 (mc 0 0 0)) gR 0 0 0):=zH (HR.out.bK (mc 0 0 0) 0);have hb2:Below B w (bK wr gR 0 (mc 0 0 0)):=Below.bK aag (mc 0 0 0) 0 hb;rw[HB.out]at hb2;have lQ:=zH hb2;have Oq:Hid (∀W,Calls prog 234 #[.int .u8 x] W (R2 (.int .i64 (aH x).1) (.int .i64 2) W)):=zH (λW=>by have:=HU.out W;rwa[HE.out]at this);clear HR HU hb hbs hb2;generalize (aH x).1=uu at Oq;go_wp2_with fail;refine(Oq.out _).mono ?_;rintro e w2 ⟨rfl,rfl⟩;go_wp2_with fail;have r0:=HR2.out.cell (i:=0) rfl;have r1:=HR2.out.cell (i:=1) rfl;have r2:=HR2.out.cell (i:=2) rfl;simp only[bK,Yf,Nat.reduceAdd]at r0 r1 r2;exact zr (v:=.tuple #[jK 0 0 0,.int .i64 10]) (by simp[results,results148,go_sem,q0,q1,q2]) rfl (zU.no N7.out lQ.out rfl)
  by_cases h1:i=1
  ·subst h1;have HU:=zH (λW=>Bc y W b1 b1');have hL:Bx wr gL 325 (c3 1 (aH x).1 (aH y).1 (aH z).1):=HL.out;have hbs:=hb.size;rcases Gs y with he|he
   ·have HE:=zH he;clear he h3 HL;have hf:=hL.free;have hlt:=hL.lt;have hq:wr.cell? ⟨gL,1,none⟩=some (.int .i64 0):=hL.cell (i:=1) rfl;have HL2:Hid (Bx (wr.setCell ⟨gL,1,none⟩ (.int .i64 (aH y).1)) gL 325 (c3 2 (aH x).1 (aH y).1 (aH z).1)):=zH (hL.set 1 _);have HR2:Hid (MB (wr.setCell ⟨gL,1,none⟩ (.int .i64 (aH y).1)) gR 0 0 0):=zH (HR.out.far (p:=⟨gL,1,none⟩) hne _);have hb2:Below B w (wr.setCell ⟨gL,1,none⟩ (.int .i64 (aH y).1)):=hb.setCell (p:=⟨gL,1,none⟩) agz _;have Oq:Hid (∀W,Calls prog 234 #[.int .u8 y] W (R2 (.int .i64 (aH y).1) (.int .i64 0) W)):=zH (λW=>by have:=HU.out W;rwa[HE.out]at this);clear hL HR HU hb hbs;generalize (aH y).1=uu at HL2 HR2 hb2 Oq;go_wp2_with fail;refine(Oq.out _).mono ?_;rintro e w2 ⟨rfl,rfl⟩;go_wp2_with fail;first
    | (go_roundw
       case rel=>exact⟨2,by omega,by go_num,zH ⟨λ_=>HO.out.1 (by omega),λ_=>HE.out,λh=>by omega⟩,HR2,HL2,hb2⟩
       case measure=>simp[RowKit.intOf])
    |exact⟨⟨2,by omega,by go_num,zH ⟨λ_=>HO.out.1 (by omega),λ_=>HE.out,λh=>by omega⟩,HR2,HL2,hb2⟩,by simp[RowKit.intOf]⟩
   ·have HE:=zH he;have N7:=zH (MN (x:=x) (y:=y) (z:=z) (by first|exact .inl he|exact .inr (.inl he)|exact .inr (.inr he)));clear he h3 HL hL;have hf:=HR.out.free;have hlt:=HR.out.lt;have q0:=HR.out.cell (i:=0) rfl;have q1:=HR.out.cell (i:=1) rfl;have q2:=HR.out.cell (i:=2) rfl;have HR2:Hid (MB (bK wr gR 0 (mc 0 0 0)) gR 0 0 0):=zH (HR.out.bK (mc 0 0 0) 0);have hb2:Below B w (bK wr gR 0 (mc 0 0 0)):=Below.bK aag (mc 0 0 0) 0 hb;rw[HB.out]at hb2;have lQ:=zH hb2;have Oq:Hid (∀W,Calls prog 234 #[.int .u8 y] W (R2 (.int .i64 (aH y).1) (.int .i64 2) W)):=zH (λW=>by have:=HU.out W;rwa[HE.out]at this);clear HR HU hb hbs hb2;generalize (aH y).1=uu at Oq;go_wp2_with fail;refine(Oq.out _).mono ?_;rintro e w2 ⟨rfl,rfl⟩;go_wp2_with fail;have r0:=HR2.out.cell (i:=0) rfl;have r1:=HR2.out.cell (i:=1) rfl;have r2:=HR2.out.cell (i:=2) rfl;simp only[bK,Yf,Nat.reduceAdd]at r0 r1 r2;exact zr (v:=.tuple #[jK 0 0 0,.int .i64 10]) (by simp[results,results148,go_sem,q0,q1,q2]) rfl (zU.no N7.out lQ.out rfl)
  by_cases h2:i=2
  ·subst h2;have HU:=zH (λW=>Bc z W b2 b2');have hL:Bx wr gL 325 (c3 2 (aH x).1 (aH y).1 (aH z).1):=HL.out;have hbs:=hb.size;rcases Gs z with he|he
   ·have HE:=zH he;clear he h3 HL;have hf:=hL.free;have hlt:=hL.lt;have hq:wr.cell? ⟨gL,2,none⟩=some (.int .i64 0):=hL.cell (i:=2) rfl;have HL2:Hid (Bx (wr.setCell ⟨gL,2,none⟩ (.int .i64 (aH z).1)) gL 325 (c3 3 (aH x).1 (aH y).1 (aH z).1)):=zH (hL.set 2 _);have HR2:Hid (MB (wr.setCell ⟨gL,2,none⟩ (.int .i64 (aH z).1)) gR 0 0 0):=zH (HR.out.far (p:=⟨gL,2,none⟩) hne _);have hb2:Below B w (wr.setCell ⟨gL,2,none⟩ (.int .i64 (aH z).1)):=hb.setCell (p:=⟨gL,2,none⟩) agz _;have Oq:Hid (∀W,Calls prog 234 #[.int .u8 z] W (R2 (.int .i64 (aH z).1) (.int .i64 0) W)):=zH (λW=>by have:=HU.out W;rwa[HE.out]at this);clear hL HR HU hb hbs;generalize (aH z).1=uu at HL2 HR2 hb2 Oq;go_wp2_with fail;refine(Oq.out _).mono ?_;rintro e w2 ⟨rfl,rfl⟩;go_wp2_with fail;first
    | (go_roundw
       case rel=>exact⟨3,by omega,by go_num,zH ⟨λ_=>HO.out.1 (by omega),λ_=>HO.out.2.1 (by omega),λ_=>HE.out⟩,HR2,HL2,hb2⟩
       case measure=>simp[RowKit.intOf])
    |exact⟨⟨3,by omega,by go_num,zH ⟨λ_=>HO.out.1 (by omega),λ_=>HO.out.2.1 (by omega),λ_=>HE.out⟩,HR2,HL2,hb2⟩,by simp[RowKit.intOf]⟩
   ·have HE:=zH he;have N7:=zH (MN (x:=x) (y:=y) (z:=z) (by first|exact .inl he|exact .inr (.inl he)|exact .inr (.inr he)));clear he h3 HL hL;have hf:=HR.out.free;have hlt:=HR.out.lt;have q0:=HR.out.cell (i:=0) rfl;have q1:=HR.out.cell (i:=1) rfl;have q2:=HR.out.cell (i:=2) rfl;have HR2:Hid (MB (bK wr gR 0 (mc 0 0 0)) gR 0 0 0):=zH (HR.out.bK (mc 0 0 0) 0);have hb2:Below B w (bK wr gR 0 (mc 0 0 0)):=Below.bK aag (mc 0 0 0) 0 hb;rw[HB.out]at hb2;have lQ:=zH hb2;have Oq:Hid (∀W,Calls prog 234 #[.int .u8 z] W (R2 (.int .i64 (aH z).1) (.int .i64 2) W)):=zH (λW=>by have:=HU.out W;rwa[HE.out]at this);clear HR HU hb hbs hb2;generalize (aH z).1=uu at Oq;go_wp2_with fail;refine(Oq.out _).mono ?_;rintro e w2 ⟨rfl,rfl⟩;go_wp2_with fail;have r0:=HR2.out.cell (i:=0) rfl;have r1:=HR2.out.cell (i:=1) rfl;have r2:=HR2.out.cell (i:=2) rfl;simp only[bK,Yf,Nat.reduceAdd]at r0 r1 r2;exact zr (v:=.tuple #[jK 0 0 0,.int .i64 10]) (by simp[results,results148,go_sem,q0,q1,q2]) rfl (zU.no N7.out lQ.out rfl)
  omega
end Ih
namespace Ih
open Go.RowKit Go.Maps
def isSp(n:Int):Bool:=n == 160 || n == 161 || n == 162 || n == 170
def num(n:Int):Int:=if 99<n then n else uH n
end Ih
namespace E1
open Go.RowKit Ih
def b2(n:Int):List UInt8:=(gQ n 2).1
def b4(n:Int):List UInt8:=(gQ n 4).1
theorem aca{n:Int}{k:Nat}(h:Ah n k=true):(gQ n k).1.length=k/\(sQ (gQ n k).1:Int)=n:=by
 unfold gQ;rw[zj h];unfold Ah at h;rw[Yt,Yj,Yj]at h;refine⟨wE _ _,?_⟩;simp only;rw[VL,Nat.mod_eq_of_lt]
 ·omega
 ·have:=h.2;rw[Nat.div_eq_zero_iff]at this;rcases this with h0|h0
  ·exact absurd h0 (by simp)
  ·exact h0
theorem sW{n:Int}(h0:0<=n)(h1:n<65536):(b2 n).length=2/\(sQ (b2 n):Int)=n:=aca (by rw[TN];exact zt ⟨h0,h1⟩)
theorem D6{n:Int}(h0:0<=n)(h1:n<4294967296):(b4 n).length=4/\(sQ (b4 n):Int)=n:=aca (by rw[TP];exact zt ⟨h0,h1⟩)
def lW(x:T.ax):List UInt8:=b2 x.num++b2 x.dm++b4 x.st++b4 x.len++b4 x.nx++b2 x.dZ++b2 x.pk
def fn(f:Bool):Int:=if f=true then 1 else 0
def Jo(q cl:Int)(f:Bool)(n:Int):List UInt8:=[80,77,65,49]++b4 q++b2 cl++b2 (fn f)++b2 n
def oL(q cl:Int)(f:Bool)(l:List T.ax):List UInt8:=Jo q cl f l.length++l.flatMap lW
def dV(q cl:Int)(f:Bool)(l:List T.ax):List UInt8:=oL q cl f l++vI (C.crc 0 (oL q cl f l))
theorem ahV(x:T.ax):(lW x).length<=20:=by have h1:=jP x.num 2;have h2:=jP x.dm 2;have h3:=jP x.st 4;have h4:=jP x.len 4;have h5:=jP x.nx 4;have h6:=jP x.dZ 2;have h7:=jP x.pk 2;unfold lW b2 b4;simp only[Yb];omega
theorem Wi(l:List T.ax):(l.flatMap lW).length<=20*l.length:=by
 induction l with
 |nil=>simp
 | cons x l ih=>
   rw[List.flatMap_cons,Yb,Yn];have:=ahV x;omega
theorem Wp(q cl:Int)(f:Bool)(n:Int):(Jo q cl f n).length<=14:=by have h1:=jP q 4;have h2:=jP cl 2;have h3:=jP (fn f) 2;have h4:=jP n 2;unfold Jo b2 b4;simp only[Yb,Yn,YC];omega
theorem VM(q cl:Int)(f:Bool)(l:List T.ax):(oL q cl f l).length<=14+20*l.length:=by have:=Wp q cl f l.length;have:=Wi l;unfold oL;rw[Yb];omega
structure Zn (x:T.ax):Prop where
 a:0<=x.num/\x.num<65536
 b:0<=x.dm/\x.dm<65536
 c:0<=x.st/\x.st<4294967296
 d:0<=x.len/\x.len<4294967296
 e:0<=x.nx/\x.nx<4294967296
 f:0<=x.dZ/\x.dZ<65536
 g:0<=x.pk/\x.pk<65536
theorem Zn.length{x:T.ax}(h:Zn x):(lW x).length=20:=by unfold lW;simp only[Yb,(sW h.a.1 h.a.2).1,(sW h.b.1 h.b.2).1,(D6 h.c.1 h.c.2).1,(D6 h.d.1 h.d.2).1,(D6 h.e.1 h.e.2).1,(sW h.f.1 h.f.2).1,(sW h.g.1 h.g.2).1]
def rW(s:List UInt8)(o:Nat):T.ax:=⟨dO s o 2,dO s (o+2) 2,dO s (o+4) 4,dO s (o+8) 4,dO s (o+12) 4,dO s (o+16) 2,dO s (o+18) 2⟩
theorem ahU{x:T.ax}(h:Zn x)(a c:List UInt8){o:Nat}(ha:a.length=o):rW (a++lW x++c) o=x:=by
 obtain⟨a1,a2⟩:=sW h.a.1 h.a.2;obtain⟨b1,b2'⟩:=sW h.b.1 h.b.2;obtain⟨c1,c2⟩:=D6 h.c.1 h.c.2;obtain⟨d1,d2⟩:=D6 h.d.1 h.d.2;obtain⟨e1,e2⟩:=D6 h.e.1 h.e.2;obtain⟨f1,f2⟩:=sW h.f.1 h.f.2;obtain⟨g1,g2⟩:=sW h.g.1 h.g.2;unfold rW lW;generalize b2 x.num=A at *;generalize b2 x.dm=B at *;generalize b4 x.st=C at *;generalize b4 x.len=D at *;generalize b4 x.nx=E at *;generalize b2 x.dZ=F at *;generalize b2 x.pk=G at *;have r1:dO (a++(A++B++C++D++E++F++G)++c) o 2=sQ A:=by have:=og a A (B++C++D++E++F++G++c) ha a1;simpa only[Yz]using this
 have r2:dO (a++(A++B++C++D++E++F++G)++c) (o+2) 2=sQ B:=by have:=og (a++A) B (C++D++E++F++G++c) (o:=o+2) (by simp only[Yb];omega) b1;simpa only[Yz]using this
 have r3:dO (a++(A++B++C++D++E++F++G)++c) (o+4) 4=sQ C:=by have:=og (a++A++B) C (D++E++F++G++c) (o:=o+4) (by simp only[Yb];omega) c1;simpa only[Yz]using this
 have r4:dO (a++(A++B++C++D++E++F++G)++c) (o+8) 4=sQ D:=by have:=og (a++A++B++C) D (E++F++G++c) (o:=o+8) (by simp only[Yb];omega) d1;simpa only[Yz]using this
 have r5:dO (a++(A++B++C++D++E++F++G)++c) (o+12) 4=sQ E:=by have:=og (a++A++B++C++D) E (F++G++c) (o:=o+12) (by simp only[Yb];omega) e1;simpa only[Yz]using this
 have r6:dO (a++(A++B++C++D++E++F++G)++c) (o+16) 2=sQ F:=by have:=og (a++A++B++C++D++E) F (G++c) (o:=o+16) (by simp only[Yb];omega) f1;simpa only[Yz]using this
 have r7:dO (a++(A++B++C++D++E++F++G)++c) (o+18) 2=sQ G:=by have:=og (a++A++B++C++D++E++F) G c (o:=o+18) (by simp only[Yb];omega) g1;simpa only[Yz]using this
 rw[r1,r2,r3,r4,r5,r6,r7,a2,b2',c2,d2,e2,f2,g2]
theorem PH{l:List T.ax}(h:∀x∈l,Zn x):(l.flatMap lW).length=20*l.length:=by
 induction l with
 |nil=>simp
 | cons x l ih=>
   rw[List.flatMap_cons,Yb,Yn,(h x (by simp)).length,ih λy hy=>h y (by simp[hy])];omega
def fK(s:List UInt8):Nat:=dO s 4 4
def tu(s:List UInt8):Nat:=dO s 8 2
def dI(s:List UInt8):Bool:=dO s 10 2 == 1
def pX(s:List UInt8):Nat:=dO s 12 2
def jE(s:List UInt8)(n:Nat):List T.ax:=(List.range n).map λk=>rW s (14+20*k)
theorem lN(s:List UInt8)(n:Nat):(jE s n).length=n:=by simp[jE]
theorem abA(s:List UInt8)(n:Nat):jE s (n+1)=jE s n++[rW s (14+20*n)]:=by simp[jE,Xf]
def okD(cap:Int)(s:List UInt8):Bool:=
 decide (16<=s.length/\s.length=16+20*pX s) && T.az cap (tu s) (dI s) (jE s (pX s)) && decide (fK s<=2147483647) && decide (dV (fK s) (tu s) (dI s) (jE s (pX s))=s)
theorem yK{cap:Int}{s:List UInt8}:okD cap s=true↔(16<=s.length/\s.length=16+20*pX s)/\T.aK cap (tu s) (dI s) (jE s (pX s))/\fK s<=2147483647/\dV (fK s) (tu s) (dI s) (jE s (pX s))=s:=by unfold okD;simp only[Yt,Yj,T.bz,and_assoc]
theorem LD{cap cl:Int}{fin:Bool}{l:List T.ax}(hv:T.aK cap cl fin l):∀x∈l,Zn x:=by
 intro x hx;obtain⟨i,hi,rfl⟩:=YL hx;have e:l[i]=T.tr l i:=by simp[T.tr,hi]
 rw[e];have h1:=T.aK.at hv hi;have h2:=hv.2.1;have h0:=hv.2.2.1;obtain⟨o1,o2,o3,o4,o5,o6,o7,o8,o9,Og,o11,Qs,o13,o14⟩:=hv.2.2.2.2.2.1 i hi;have hs:1<=(T.tr l i).dm:=by have:=T.okR.mono hv.2.2.2.2.2.1 0 (i+1) (by omega);rw[Yf,T.yV,T.fV]at this;exact this
 exact⟨by omega,by omega,by omega,by omega,by omega,by omega,by omega⟩
theorem akt{l:List T.ax}{i:Nat}(h:i<l.length):T.tr l i∈l:=by simp[T.tr,h]
theorem aeQ{l:List T.ax}{k:Nat}(hk:k<l.length):l=l.take k++T.tr l k::l.drop (k+1):=by
 have e:T.tr l k=l[k]:=by simp[T.tr,hk]
 rw[e,<-List.drop_eq_getElem_cons hk,List.take_append_drop]
theorem acJ{q cl:Int}{fin:Bool}{l:List T.ax}(hq:0<=q/\q<4294967296)(hc:0<=cl/\cl<65536)(hn:l.length<65536)(hl:∀x∈l,Zn x):
 (dV q cl fin l).length=16+20*l.length/\(fK (dV q cl fin l):Int)=q/\(tu (dV q cl fin l):Int)=cl/\dI (dV q cl fin l)=fin/\pX (dV q cl fin l)=l.length/\jE (dV q cl fin l) l.length=l:=by
 obtain⟨a1,a2⟩:=D6 hq.1 hq.2;obtain⟨b1,b2'⟩:=sW hc.1 hc.2;obtain⟨c1,c2⟩:=sW (n:=fn fin) (by unfold fn;split <;> omega) (by unfold fn;split <;> omega);obtain⟨d1,d2⟩:=sW (n:=(l.length:Int)) (by omega) (by omega);have hlen:=PH hl;have he:dV q cl fin l = [80,77,65,49]++b4 q++b2 cl++b2 (fn fin)++b2 l.length++(l.flatMap lW++vI (C.crc 0 (oL q cl fin l))):=by simp only[dV,oL,Jo,Yz]
 have hcr:(vI (C.crc 0 (oL q cl fin l))).length=2:=rfl;generalize vI (C.crc 0 (oL q cl fin l))=Z at he hcr;have htr:∀k,k<l.length->rW (dV q cl fin l) (14+20*k)=T.tr l k:=λk hk=>by
  have hx:=hl _ (akt hk);have e1:l.flatMap lW=(l.take k).flatMap lW++lW (T.tr l k)++(l.drop (k+1)).flatMap lW:=by
   conv=>lhs;rw[aeQ hk]
   rw[Vk,List.flatMap_cons,Yz]
  have e2:((l.take k).flatMap lW).length=20*k:=by rw[PH λx hx=>hl x (List.mem_of_mem_take hx),Yk];omega
  have:=ahU hx ([80,77,65,49]++b4 q++b2 cl++b2 (fn fin)++b2 l.length++(l.take k).flatMap lW) ((l.drop (k+1)).flatMap lW++Z) (o:=14+20*k) (by simp only[Yb,Yn,YC];omega);rw[he,e1];simpa only[Yz]using this
 have r1:dO (dV q cl fin l) 4 4=sQ (b4 q):=by have:=og [80,77,65,49] (b4 q) (b2 cl++b2 (fn fin)++b2 l.length++(l.flatMap lW++Z)) (o:=4) rfl a1;rw[he];simpa only[Yz]using this
 have r2:dO (dV q cl fin l) 8 2=sQ (b2 cl):=by have:=og ([80,77,65,49]++b4 q) (b2 cl) (b2 (fn fin)++b2 l.length++(l.flatMap lW++Z)) (o:=8) (by simp only[Yb,Yn,YC];omega) b1;rw[he];simpa only[Yz]using this
 have r3:dO (dV q cl fin l) 10 2=sQ (b2 (fn fin)):=by have:=og ([80,77,65,49]++b4 q++b2 cl) (b2 (fn fin)) (b2 l.length++(l.flatMap lW++Z)) (o:=10) (by simp only[Yb,Yn,YC];omega) c1;rw[he];simpa only[Yz]using this
 have r4:dO (dV q cl fin l) 12 2=sQ (b2 l.length):=by have:=og ([80,77,65,49]++b4 q++b2 cl++b2 (fn fin)) (b2 l.length) (l.flatMap lW++Z) (o:=12) (by simp only[Yb,Yn,YC];omega) d1;rw[he];simpa only[Yz]using this
 refine⟨?_,?_,?_,?_,?_,?_⟩
 ·rw[he];simp only[Yb,Yn,YC];omega
 ·unfold fK;rw[r1];exact a2
 ·unfold tu;rw[r2];exact b2'
 ·unfold dI;rw[r3];have:sQ (b2 (fn fin))=if fin=true then 1 else 0:=by
   have h:=c2;generalize sQ (b2 (fn fin))=z at h ⊢;unfold fn at h;by_cases hf:fin=true
   ·rw[zj hf]at h ⊢;omega
   ·rw[zi hf]at h ⊢;omega
  rw[this];cases fin <;> rfl
 ·unfold pX;rw[r4];omega
 ·apply Xt
  ·simp[jE]
  ·intro i h1 h2;simp only[jE,List.getElem_map,List.getElem_range];rw[htr i h2];simp[T.tr,h2]
theorem ag3{cap q cl:Int}{fin:Bool}{l:List T.ax}(hv:T.aK cap cl fin l)(hq:0<=q)(hq2:q<=2147483647):
 okD cap (dV q cl fin l)=true/\(fK (dV q cl fin l):Int)=q/\(tu (dV q cl fin l):Int)=cl/\dI (dV q cl fin l)=fin/\pX (dV q cl fin l)=l.length/\jE (dV q cl fin l) (pX (dV q cl fin l))=l/\(dV q cl fin l).length=16+20*l.length:=by
 have hl:=LD hv;obtain⟨h1,h2,h3,h4,h5,h6⟩:=acJ (fin:=fin) ⟨hq,by omega⟩ (show 0<=cl/\cl<65536 by have:=hv.2.2.2;omega) (by have:=hv.2.2.1;omega) hl;refine⟨yK.2 ?_,h2,h3,h4,h5,by rw[h5,h6],h1⟩;rw[h2,h3,h4,h5,h6];refine⟨⟨by omega,h1⟩,hv,by omega,rfl⟩
end E1
namespace E1
open Go.RowKit
def wK(xs:List Int):List Value:=xs.map (Value.int .i64)
theorem WY(W:World)(t:TypeId)(xs:List Int){g:Nat}(hg:W.heap.size=g)(n:Nat)(hn:xs.length=n):RdN (W.alloc (.cells (wK xs).toArray t)) (.slice (some ⟨g,0,none⟩) n n) xs:=by
 subst hg hn;refine⟨_,_,W.heap.size,0,rfl,zl _,λi hi=>⟨rfl,λj u hu=>?_⟩⟩;have hj:j=0:=by have:=(Yr.1 hu).1;simp only[aam]at this;omega
 subst hj;have hu2:u=.int .i64 (aJ 0 xs i):=by simpa[ic]using hu.symm
 have h:=(Bx.new W t (wK xs)).cell (i:=i) (u:=.int .i64 (aJ 0 xs i)) (by simp[wK,aJ,hi]);rw[hu2];simpa using h
structure RN (w0:World) (cl:Int) (fin:Bool) (sv:Value) (S:List UInt8) (W:World):Prop where
 t:Bx W w0.heap.size 37 [.int .i64 cl,.bool fin,sv]
 s:Bx W (w0.heap.size+1) 9 [.string (str S)]
 le:Below w0.heap.size w0 W
section
variable {w0 W W':World} {cl:Int} {fin:Bool} {sv:Value} {S S':List UInt8}
theorem RN.call(h:RN w0 cl fin sv S W)(hb:Below W.heap.size W W'):RN w0 cl fin sv S W':=⟨h.t.call hb,h.s.call hb,h.le.trans (hb.mono h.le.size)⟩
theorem RN.facts(h:RN w0 cl fin sv S W):W.cell? ⟨w0.heap.size,0,none⟩=some (.int .i64 cl)/\W.cell? ⟨w0.heap.size,1,none⟩=some (.bool fin)/\W.cell? ⟨w0.heap.size,2,none⟩=some sv/\w0.heap.size+1<W.heap.size:=
 ⟨h.t.cell (i:=0) rfl,h.t.cell (i:=1) rfl,h.t.cell (i:=2) rfl,h.s.lt⟩
theorem RN.add{e:Ending}(h:RN w0 cl fin sv S W)(ha:aiC (w0.heap.size+1) S' W e W'):e=.returned (.tuple #[])/\RN w0 cl fin sv S' W'/\∀g t cs,Bx W g t cs->g≠w0.heap.size+1->Bx W' g t cs:=by
 obtain⟨h1,h2,h3,h4⟩:=ha;have h5:∀g t cs,Bx W g t cs->g≠w0.heap.size+1->Bx W' g t cs:=λg t cs hg hn=>(h4 g hg.lt hn).trans hg
 exact⟨h1,⟨h5 _ _ _ h.t (by omega),h2,h.le.trans (h3.mono (by omega))⟩,h5⟩
end
def akx(w0:World)(cl:Int)(fin:Bool)(sv:Value)(S:List UInt8)(W:World)(e:Ending)(w':World):Prop:=
 e=.returned (.tuple #[])/\RN w0 cl fin sv S w'/\∀g t cs,Bx W g t cs->g≠w0.heap.size+1->Bx w' g t cs
theorem KL{w0 W:World}{cl:Int}{fin:Bool}{sv:Value}{S:List UInt8}(h:RN w0 cl fin sv S W)(xs:List Int)(n:Nat)(hn:xs.length=n)(hn2:n<=120)(hx:∀x∈xs,x<=9223372036854775807)(hS:S.length<=100000):
 Calls prog 318 #[.int .i64 2,.slice (some ⟨W.heap.size,0,none⟩) n n,.pointer (some ⟨w0.heap.size+1,0,none⟩)] (W.alloc (.cells (wK xs).toArray 3)) (akx w0 cl fin sv (S++fD 2 xs) W):=by
 have hlt:=h.s.lt;have ha:=h.call ((zB W.heap.size W).alloc (zl _) (.cells (wK xs).toArray 3));refine(alg _ xs _ S _ ha.s (WY W _ xs rfl n hn) (λa n c e=>?_) (λi hi=>hx _ (qN hi)) (by omega) hS).mono λe w' hA=>?_
 ·injection e with e1;injection e1 with e1;subst e1;simp only;omega
 ·obtain⟨h1,h2,h3⟩:=ha.add hA;exact⟨h1,h2,λg t cs hg hne=>h3 g t cs (hg.alloc _) hne⟩
theorem VJ{w0 W:World}{cl:Int}{fin:Bool}{sv:Value}{S:List UInt8}(h:RN w0 cl fin sv S W)(xs:List Int)(n:Nat)(hn:xs.length=n)(hn2:n<=120)(hx:∀x∈xs,x<=9223372036854775807)(hS:S.length<=100000):
 Calls prog 318 #[.int .i64 4,.slice (some ⟨W.heap.size,0,none⟩) n n,.pointer (some ⟨w0.heap.size+1,0,none⟩)] (W.alloc (.cells (wK xs).toArray 3)) (akx w0 cl fin sv (S++fD 4 xs) W):=by
 have hlt:=h.s.lt;have ha:=h.call ((zB W.heap.size W).alloc (zl _) (.cells (wK xs).toArray 3));refine(alh _ xs _ S _ ha.s (WY W _ xs rfl n hn) (λa n c e=>?_) (λi hi=>hx _ (qN hi)) (by omega) hS).mono λe w' hA=>?_
 ·injection e with e1;injection e1 with e1;subst e1;simp only;omega
 ·obtain⟨h1,h2,h3⟩:=ha.add hA;exact⟨h1,h2,λg t cs hg hne=>h3 g t cs (hg.alloc _) hne⟩
end E1
section
open Go.RowKit
instance (a:Int):Decidable (sm a):=by unfold sm;infer_instance
instance (x:T.ax):Decidable (zQ x):=by unfold zQ;infer_instance
instance (l:List T.ax):Decidable (KA l):=by unfold KA;infer_instance
theorem iR(count pk:Int)(w:World)(h1:-9223372036854775808<=count)(h2:count<=9223372036854775807):
 Calls prog 237 #[.int .i64 count,.int .i64 pk] w λe w'=>e=.returned (.bool (decide (1<=count/\0<=pk/\pk<=1024/\(0<pk->count.tmod pk=0))))/\w=w':=by
 have hM:decide (1<=count/\0<=pk/\pk<=1024/\(0<pk->count.tmod pk=0))=decide (1<=count/\0<=pk/\pk<=1024/\(0<pk->count%pk=0)):=decide_eq_decide.2
  ⟨λ⟨a,b,c,d⟩=>⟨a,b,c,λh=>by rw[<-XG (by omega)];exact d h⟩,λ⟨a,b,c,d⟩=>⟨a,b,c,λh=>by rw[XG (by omega)];exact d h⟩⟩
 rw[hM];clear hM;by_cases hp:pk=0
 ·subst hp;go_enter func237,ntmps237;go_wp2;all_goals
   go_ret;refine⟨iT ?_,rfl⟩
   (try simp only[YG,XV,Yc,Xe,ne_eq]at *) <;> (rw[YJ];(try simp) <;> (try omega))
 ·have hz:(pk == 0)=false:=by rw[Yc];exact hp
  go_enter func237,ntmps237;go_wp2;all_goals
   go_ret;refine⟨iT ?_,rfl⟩
   (try simp only[Yc,ne_eq]at *) <;> (rw[YJ];(try simp) <;> (try omega))
end
end Go.Proofs.YtfnehkmhcmkhjaaGreat
