/- Parts:XLx -/
import Derived.Test.YtfnehkmhcmkhjaaGreatDvAl
import Derived.Test.YtfnehkmhcmkhjaaGreatDv35
set_option maxRecDepth 100000
set_option maxHeartbeats 8000000
set_option linter.unusedVariables false
namespace Go.Proofs.YtfnehkmhcmkhjaaGreat
open Tryz
namespace E1
open Go.RowKit xA
theorem UH(cap q cl:Int)(sv:Value)(l:List T.az)(w:World)(hv:Hid (∀W,aW W sv l->Calls prog 130 #[.int .i64 cap,au cl false sv] W (RB true W)))(hr:aW w sv l)(hf:nC l)(hq:0<=q/\q<=2147483647)(hcl:cl<=9223372036854775807)(hl0:l = []):
 Calls prog 132 #[.int .i64 cap,au cl false sv,.int .i64 q] w (abT (dA q cl false l,0) w):=by
 have hbe:=(zB w.heap.size w).alloc (zl _) (.cells #[.int .i64 cl,.bool false,sv] 37);have hT:=Bx.new w 37 [.int .i64 cl,.bool false,sv];have HV:=zH (hv.out _ (hr.keep hbe));obtain⟨sa,c,b,off,rfl,hac,hcell⟩:=hr;have HC:=zH hcell; clear hcell;have hln:=hf.1;have HF:=zH hf.2;have hq0:=hq.1;have hq1:=hq.2;have hq2:¬ q<0:=by omega
 have hq3:¬ 2147483647<q:=by omega
 have HQ:Hid (q<=9223372036854775807/\cl<=9223372036854775807/\(0:Int)<=9223372036854775807/\(l.length:Int)<=9223372036854775807):=zH ⟨by omega,hcl,by omega,by omega⟩;have VE:=zH (aaL q cl false l);have HL0:=zH hl0;clear hf hq hl0;go_enter func132,ntmps132;go_wp2_with fail;refine HV.out.mono ?_;rintro e w1 ⟨rfl,hb⟩;have hle:=hbe.trans (hb.mono hbe.size);have hT1:Bx w1 w.heap.size 37 [.int .i64 cl,.bool false,.slice sa l.length c]:=hT.call hb;clear hb hbe hT HV;obtain⟨gB,hgB⟩:∃gB,gB=w.heap.size:=⟨_,rfl⟩;rw[<-hgB]at hT1;simp only[<-hgB];have HgB:=zH hgB;clear hgB;have c1:=hT1.cell (i:=1) rfl;go_upto_region 8 with (fail)
 clear c1;refine cu (by kernel_rfl) (fun w W=>Below w.heap.size w W) (fun W=>Below w.heap.size w W/\Bx W gB 37 [.int .i64 cl,.bool false,.slice sa l.length c]/\True) (Np gB q cl 0 sa l.length c) (fun _=>false) (by kernel_rfl) (fun W W' hb h=>⟨h.1.trans (hb.mono h.1.size),h.2.1.call hb,trivial⟩) (Ky gB q cl 0 sa l.length c) (⟨hle.drew,hT1,trivial⟩) ⟨?_,?s1,?s2,?_,?s4,?s5,?s6,?_,?s8,?s9,?_,?s11,?s12,?s13,?s14,?_,trivial⟩ ?_;all_goals first
  | (intro a W hc hsz hold ah
     have o2:a.tmps.getD 2 undef=.int .i64 q:=hold 2 (by kernel_rfl);have o4:a.tmps.getD 4 undef=.pointer (some ⟨gB,0,none⟩):=hold 4 (by kernel_rfl);have o8:a.tmps.getD 8 undef=.int .i64 0:=hold 8 (by kernel_rfl);try have d14:=zV 38 (.string (str (Xh q cl 0 l.length))) (ah 14 rfl rfl _ rfl)
     clear hsz hold ah;refine ai rfl (ag rfl) ?_;refine ak (zB _ _) rfl fun K hK=>?_
     go_simp;exact hK)
  | skip
 try case s1=>
  intro a W hc hsz hold ah;have d0:=zV 24 (.int .i64 q) (ah 0 (by kernel_rfl) rfl _ rfl);have e0:=zq d0;clear hsz hold ah;refine ai rfl (ag rfl) ?_;refine di (v:=.string (str (b4 q))) (fun W' hb=>hb) (fun _=>rfl) fun K hK=>?_
  go_simp;refine(Wv _ _ HQ.out.1).mono ?_;rintro e w' ⟨rfl,hb'⟩;exact hK _ hb'
 try case s2=>
  intro a W hc hsz hold ah;have d1:=zV 25 (.string (str (b4 q))) (ah 1 (by kernel_rfl) rfl _ rfl);have s1:=ax (magic);have s2:=ax (b4 q);have hnl:¬ 9223372036854775807<(magic).length+(b4 q).length:=by have q1:=O1;have q2:=Y7 q;omega
  have ap:str (magic)++str (b4 q)=str (hE1 q):=kz _ _;have em:(⟨#[80,77,65,49]⟩:ByteArray)=str magic:=rfl;clear hsz hold ah;refine ai rfl (ag rfl) ?_;refine ak (v:=.string (str (hE1 q))) (zB _ _) rfl fun K hK=>?_
  go_simp;exact hK
 try case s4=>
  intro a W hc hsz hold ah;have d3:=zV 27 (.pointer (some ⟨gB,0,none⟩)) (ah 3 (by kernel_rfl) rfl _ rfl);have c0:=hc.2.1.cell (i:=0) rfl;clear hsz hold ah;refine ai rfl (ag rfl) ?_;refine ak (v:=.int .i64 cl) (zB _ _) rfl fun K hK=>?_
  go_simp;exact hK
 try case s5=>
  intro a W hc hsz hold ah;have d4:=zV 28 (.int .i64 cl) (ah 4 (by kernel_rfl) rfl _ rfl);have e4:=zq d4;clear hsz hold ah;refine ai rfl (ag rfl) ?_;refine di (v:=.string (str (b2 cl))) (fun W' hb=>hb) (fun _=>rfl) fun K hK=>?_
  go_simp;refine(CY _ _ HQ.out.2.1).mono ?_;rintro e w' ⟨rfl,hb'⟩;exact hK _ hb'
 try case s6=>
  intro a W hc hsz hold ah;have d2:=zV 26 (.string (str (hE1 q))) (ah 2 (by kernel_rfl) rfl _ rfl);have d5:=zV 29 (.string (str (b2 cl))) (ah 5 (by kernel_rfl) rfl _ rfl);have s1:=ax (hE1 q);have s2:=ax (b2 cl);have hnl:¬ 9223372036854775807<(hE1 q).length+(b2 cl).length:=by have q1:=S9 q;have q2:=EZ cl;omega
  have ap:str (hE1 q)++str (b2 cl)=str (hE2 q cl):=kz _ _;clear hsz hold ah;refine ai rfl (ag rfl) ?_;refine ak (v:=.string (str (hE2 q cl))) (zB _ _) rfl fun K hK=>?_
  go_simp;exact hK
 try case s8=>
  intro a W hc hsz hold ah;have d7:=zV 31 (.int .i64 0) (ah 7 (by kernel_rfl) rfl _ rfl);have e7:=zq d7;clear hsz hold ah;refine ai rfl (ag rfl) ?_;refine di (v:=.string (str (b2 0))) (fun W' hb=>hb) (fun _=>rfl) fun K hK=>?_
  go_simp;refine(CY _ _ HQ.out.2.2.1).mono ?_;rintro e w' ⟨rfl,hb'⟩;exact hK _ hb'
 try case s9=>
  intro a W hc hsz hold ah;have d6:=zV 30 (.string (str (hE2 q cl))) (ah 6 (by kernel_rfl) rfl _ rfl);have d8:=zV 32 (.string (str (b2 0))) (ah 8 (by kernel_rfl) rfl _ rfl);have s1:=ax (hE2 q cl);have s2:=ax (b2 0);have hnl:¬ 9223372036854775807<(hE2 q cl).length+(b2 0).length:=by have q1:=Tc q cl;have q2:=EZ 0;omega
  have ap:str (hE2 q cl)++str (b2 0)=str (VM q cl 0):=kz _ _;clear hsz hold ah;refine ai rfl (ag rfl) ?_;refine ak (v:=.string (str (VM q cl 0))) (zB _ _) rfl fun K hK=>?_
  go_simp;exact hK
 try case s11=>
  intro a W hc hsz hold ah;have d10:=zV 34 (.pointer (some ⟨gB,2,none⟩)) (ah 10 (by kernel_rfl) rfl _ rfl);have c2:=hc.2.1.cell (i:=2) rfl;clear hsz hold ah;refine ai rfl (ag rfl) ?_;refine ak (v:=.slice sa l.length c) (zB _ _) rfl fun K hK=>?_
  go_simp;exact hK
 try case s12=>
  intro a W hc hsz hold ah;have d11:=zV 35 (.slice sa l.length c) (ah 11 (by kernel_rfl) rfl _ rfl);have e11:=zq d11;clear hsz hold ah;refine ai rfl (ag rfl) ?_;refine ak (v:=.int .i64 l.length) (zB _ _) rfl fun K hK=>?_
  go_simp;exact hK
 try case s13=>
  intro a W hc hsz hold ah;have d12:=zV 36 (.int .i64 l.length) (ah 12 (by kernel_rfl) rfl _ rfl);have e12:=zq d12;clear hsz hold ah;refine ai rfl (ag rfl) ?_;refine di (v:=.string (str (b2 l.length))) (fun W' hb=>hb) (fun _=>rfl) fun K hK=>?_
  go_simp;refine(CY _ _ HQ.out.2.2.2).mono ?_;rintro e w' ⟨rfl,hb'⟩;exact hK _ hb'
 try case s14=>
  intro a W hc hsz hold ah;have d9:=zV 33 (.string (str (VM q cl 0))) (ah 9 (by kernel_rfl) rfl _ rfl);have d13:=zV 37 (.string (str (b2 l.length))) (ah 13 (by kernel_rfl) rfl _ rfl);have s1:=ax (VM q cl 0);have s2:=ax (b2 l.length);have hnl:¬ 9223372036854775807<(VM q cl 0).length+(b2 l.length).length:=by have q1:=aaK q cl 0;have q2:=EZ l.length;omega
  have ap:str (VM q cl 0)++str (b2 l.length)=str (Xh q cl 0 l.length):=kz _ _;clear hsz hold ah;refine ai rfl (ag rfl) ?_;refine ak (v:=.string (str (Xh q cl 0 l.length))) (zB _ _) rfl fun K hK=>?_
  go_simp;exact hK
 ·intro a W hC hd hsz hold hval;have d9:a.tmps.getD 9 undef=.string (str (Xh q cl 0 l.length)):=hval 15 _ rfl rfl;obtain⟨G,hG,ha⟩:=cO [9,24,25,26,27,28,29,30,31,32,33,34,35,36,37,38] (by kernel_rfl) hd hsz hold;simp only[hG]at d9;rw[ha];clear ha hG hd hsz hold;simp only[bI,List.setIfInBounds_toArray,List.set,d9];clear d9;obtain⟨hle,hT,_⟩:=hC;have hE0:Xh q cl 0 l.length=part q cl false l 0:=VE.out;rw[hE0];clear hval VE hE0;go_wp2_with fail
  go_loopw [9,10] (fun vs vi wr=>∃i:Nat,i<=l.length/\vi=.int .i64 i/\vs=.string (str (part q cl false l i))/\Below w.heap.size w wr/\Bx wr gB 37 [.int .i64 cl,.bool false,.slice sa l.length c]) (fun _ vi _=>l.length - (RowKit.intOf vi).toNat)
  case atStart=>exact⟨0,by omega,rfl,rfl,hle,hT⟩
  case round=>
   clear hle hT;obtain⟨i,hi,rfl,rfl,hle,hT⟩:=hrel;have c2:=hT.cell (i:=2) rfl;by_cases hlt:i<l.length
   ·exact absurd hlt (by rw[HL0.out]; simp)
   ·obtain rfl:i=l.length:=by omega
    rw[zn];have hbl:=xC q cl false l;have HE:Hid (dA q cl false l=iP q cl false l++jW (C.crc 0 (iP q cl false l))):=zH rfl;generalize iP q cl false l=S at HE hbl ⊢;have hcr:=C.uZ (c:=0) (by omega) S;have hsz1:=ax S;have YQ:Hid (∀W,Calls prog 218 #[.string (str S)] W fun e w'=>e=.returned (.int .u16 (C.crc 0 S:Nat))/\W=w'):=zH fun W=>by
     have:=Uy (str S) W (by omega);have e:(str S).data.toList=S:=by simp[str]
     rw[e]at this;exact this
    generalize C.crc 0 S=z at YQ HE hcr;have HCB:=zH (fun W=>AA z W hcr);have hsz2:=ax (jW z);have hz2:(jW z).length=2:=rfl;rw[hz2]at hsz2;generalize jW z=Z at *;have hnl:¬ 9223372036854775807<S.length+2:=by omega
    clear hz2;go_wp2_with fail;refine(YQ.out _).mono ?_;rintro e w6 ⟨rfl,rfl⟩;go_wp2_with fail;refine(HCB.out _).mono ?_;rintro e w7 ⟨rfl,hb7⟩;go_wp2_with fail;go_ret2;refine⟨?_,hle.trans (hb7.mono hle.size)⟩;rw[HE.out,<-kz];rfl
theorem Uz(cap:Int)(a b:List UInt8)(w:World)(hla:a.length<16)(hlb:b.length<16)(sS:Hid (okD cap a=false))(ng:Hid (okD cap b=false)):Calls prog 131 #[.int .i64 cap,jf a b] w (II cap a b w):=by
 have HA:Hid (iq cap a b=false):=zH (by unfold iq; rw[sS.out,ng.out]; simp);have HO:Hid (fJ cap a b=false):=zH (by unfold fJ; rw[sS.out,ng.out]; rfl);have HS:Hid (dD cap a b=b):=zH (by unfold dD; rw[HA.out]; rfl);have qY:=zH (fun W=>rG cap a W hla sS.out);have QX:=zH (fun W=>rG cap b W hlb ng.out);have uP:=zH (NR.new w a b);clear hla hlb;go_enter func131,ntmps131;go_upto_region 1 with (fail)
 have hcw:=uP.out;generalize (w.alloc (.cells #[.string (str a),.string (str b)] 39)).alloc (.cells #[.int .i64 0,.bool false,.slice none 0 0] 37)=w1 at hcw ⊢;have s0:=hcw.s.cell (i:=0) rfl;go_wp2_with fail;refine(qY.out _).mono ?_;rintro e w2 ⟨lF,fin1,v1,lG,q1,rfl,hr1,hb2,ht1⟩;rw[sS.out];obtain⟨a1,c1,rfl,_⟩:=bK.form hr1;have hcw2:=hcw.call hb2;clear s0 hcw hb2;have HT1:=zH ht1;clear ht1;have hcw3:=hcw2.call ((zB w2.heap.size w2).alloc (zl _) (.cells #[.int .i64 lF,.bool fin1,.slice a1 lG.length c1] 37));have hB1:=Bx.new w2 37 [.int .i64 lF,.bool fin1,.slice a1 lG.length c1];have hr2:=hr1.keep ((zB w2.heap.size w2).alloc (zl _) (.cells #[.int .i64 lF,.bool fin1,.slice a1 lG.length c1] 37));clear hcw2 hr1;go_upto_region 2 with (fail)
 obtain⟨g1,hg1⟩:∃g1,g1=w2.heap.size:=⟨_,rfl⟩;rw[<-hg1]at hB1;simp only[<-hg1];generalize w2.alloc (.cells #[.int .i64 lF,.bool fin1,.slice a1 lG.length c1] 37)=w3 at hcw3 hB1 hr2 ⊢;clear hg1;have s1:=hcw3.s.cell (i:=1) rfl;go_wp2_with fail;refine(QX.out _).mono ?_;rintro e w4 ⟨iJ,fin2,v2,iL,q2,rfl,hr3,hb4,ht2⟩;obtain⟨a2,c2,rfl,_⟩:=bK.form hr3;have pq:=hcw3.call hb4;have hB2:=hB1.call hb4;have hr4:=hr2.keep hb4;have HT2:=zH ht2;have hlt4:=hB2.lt;clear s1 hcw3 hb4 hB1 hr2 ht2;rw[ng.out];have bV:=pq.call ((zB w4.heap.size w4).alloc (zl _) (.cells #[.int .i64 iJ,.bool fin2,.slice a2 iL.length c2] 37));have kU:=hB2.alloc (.cells #[.int .i64 iJ,.bool fin2,.slice a2 iL.length c2] 37);have mG:=Bx.new w4 37 [.int .i64 iJ,.bool fin2,.slice a2 iL.length c2];have rD:=hr4.keep ((zB w4.heap.size w4).alloc (zl _) (.cells #[.int .i64 iJ,.bool fin2,.slice a2 iL.length c2] 37));have rE:=hr3.keep ((zB w4.heap.size w4).alloc (zl _) (.cells #[.int .i64 iJ,.bool fin2,.slice a2 iL.length c2] 37));clear pq hB2 hr4 hr3;go_upto_region 3 with (fail)
 obtain⟨g2,hg2⟩:∃g2,g2=w4.heap.size:=⟨_,rfl⟩;rw[<-hg2]at mG hlt4;simp only[<-hg2];generalize w4.alloc (.cells #[.int .i64 iJ,.bool fin2,.slice a2 iL.length c2] 37)=w5 at bV kU mG rD rE ⊢;clear hg2;have z0:=bV.z.cell (i:=0) rfl;have z1:=bV.z.cell (i:=1) rfl;have z2:=bV.z.cell (i:=2) rfl;have zf:=bV.z.free;have zl:=bV.z.lt;have x0:=kU.cell (i:=0) rfl;have x1:=kU.cell (i:=1) rfl;have x2:=kU.cell (i:=2) rfl;have y0:=mG.cell (i:=0) rfl;have y1:=mG.cell (i:=1) rfl;have y2:=mG.cell (i:=2) rfl;have jE:=zH bV.le;have IQ:=zH (aW.uj rD bV.z);have NY:=zH (aW.uj rE bV.z);clear bV kU mG rD rE;go_wp2_with fail;refine zr (v:=.tuple #[au iJ fin2 (.slice a2 iL.length c2),.int .i64 q2,.bool false,.bool false]) (by simp[results,results131,go_sem,z0,z1,z2]) rfl ?_;exact⟨iJ,fin2,_,iL,q2,by rw[HA.out,HO.out],NY.out _ _ _,((jE.out.setCell (by simp) _).setCell (by simp) _).setCell (by simp) _,fun h=>by rw[HS.out]; first | exact HT2.out ng.out | (rw[HO.out]at h; cases h)⟩
theorem PM(cap:Int)(a b:List UInt8)(cl:Int)(sv:Value)(l:List T.az)(w:World)(hr:aW w sv l)(hf:Fine l)(hv:T.aF cap cl false l=true)(hcl:cl<=9223372036854775807)(hla:a.length<16)(hlb:b.length<16)(sS:Hid (okD cap a=false))(ng:Hid (okD cap b=false))(hl0:l = [])(hff:nC l)(HO:Hid (fJ cap a b=false))(HA:Hid (iq cap a b=false)):Calls prog 66 #[.int .i64 cap,jf a b,au cl false sv] w (qZ ((dA 0 cl false l,b),0) w):=by
 have hsw:=Ri.new w a b cl false sv;have HV:=zH (wR cap cl false sv l _ (hr.keep hsw.le) hf);rw[hv]at HV;have NW:=zH (fun W hW=>UH cap 0 cl sv l W (zH fun W2 h2=>by have:=wR cap cl false sv l W2 h2 hf; rw[hv]at this; exact this) hW hff (by omega) hcl hl0);have Iu:=zH (fun W=>Uz cap a b W hla hlb sS ng);have Iy:=zH hsw;have HR:=zH hr;obtain⟨a1,c1,rfl,_⟩:=bK.form hr;clear hv hsw hr hf hla hlb hcl hl0 hff;obtain⟨E,hE⟩:∃E,E=dA 0 cl false l:=⟨_,rfl⟩;rw[<-hE]at NW;rw[<-hE];clear hE;go_enter func66,ntmps66;go_upto_region 1 with (fail)
 have hsw:=Iy.out;generalize ((w.alloc (.cells #[.string (str a),.string (str b)] 39)).alloc (.cells #[.int .i64 cl,.bool false,.slice a1 l.length c1] 37)).alloc (.cells #[.string ⟨#[]⟩,.string ⟨#[]⟩] 39)=w1 at hsw HV ⊢;have t0:=hsw.t.cell (i:=0) rfl;have t1:=hsw.t.cell (i:=1) rfl;have t2:=hsw.t.cell (i:=2) rfl;go_wp2_with fail;refine HV.out.mono ?_;rintro e w2 ⟨rfl,hb2⟩;have jZ:=hsw.call hb2;have s0:=jZ.s.cell (i:=0) rfl;have s1:=jZ.s.cell (i:=1) rfl;clear t0 t1 t2 hsw hb2 HV Iy;go_wp2_with fail;refine(Iu.out _).mono ?_;rintro e w3 ⟨iJ,fin2,v2,iL,q2,rfl,hr2,hb3,ht2⟩;rw[HO.out];rw[HA.out];obtain⟨a2,c2,rfl,_⟩:=bK.form hr2;have fG:=jZ.call (hb3.trans ((zB w3.heap.size w3).alloc (zl _) (.cells #[.int .i64 iJ,.bool fin2,.slice a2 iL.length c2] 37) |>.mono hb3.size));clear s0 s1 jZ hb3 ht2 hr2;go_upto_region 4 with (fail)
 generalize w3.alloc (.cells #[.int .i64 iJ,.bool fin2,.slice a2 iL.length c2] 37)=w4 at fG ⊢;have t0:=fG.t.cell (i:=0) rfl;have t1:=fG.t.cell (i:=1) rfl;have t2:=fG.t.cell (i:=2) rfl;have LD:=HR.out.keep fG.le;go_wp2_with fail;refine(NW.out _ LD).mono ?_;rintro e w5 ⟨rfl,hb5⟩;have dU:=fG.call hb5;have s0:=dU.s.cell (i:=0) rfl;have s1:=dU.s.cell (i:=1) rfl;have sf:=dU.s.free;have z0:=dU.z.cell (i:=0) rfl;have z1:=dU.z.cell (i:=1) rfl;have zf:=dU.z.free;have zl:=dU.z.lt;have jE:=zH dU.le;clear t0 t1 t2 fG hb5 dU LD;go_wp2_with fail;refine zr (v:=.tuple #[jf E b,.int .i64 0]) (by simp[results,results66,go_sem,z0,z1,str]) rfl ⟨rfl,?_⟩;exact(jE.out.setCell (by simp <;> omega) _).setCell (by simp <;> omega) _
end E1
end Go.Proofs.YtfnehkmhcmkhjaaGreat
