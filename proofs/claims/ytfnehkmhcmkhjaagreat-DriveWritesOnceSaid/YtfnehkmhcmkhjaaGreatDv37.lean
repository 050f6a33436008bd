/- Parts:XTkFb -/
import Derived.Test.YtfnehkmhcmkhjaaGreatDvAl
import Derived.Test.YtfnehkmhcmkhjaaGreatDv33
set_option maxRecDepth 100000
set_option maxHeartbeats 8000000
set_option linter.unusedVariables false
namespace Go.Proofs.YtfnehkmhcmkhjaaGreat
open Tryz
section
open Go.RowKit
theorem JY(cap cl:Int)(fin:Bool)(sv:Value)(l:List T.az)(number:Int)(w:World)(hr:aW w sv l)(hf:nC l)(hV:T.aF cap cl fin l=false):Calls prog 158 #[.int .i64 cap,au cl fin sv,.int .i64 number] w (oL (eY.bad 1) w):=by
 obtain⟨a,c,rfl,hac⟩:=bK.form hr;have hb0:=aX w cl fin (.slice a l.length c);have hcon:=aV cap cl fin _ l _ (hr.keep hb0) hf;have dh:=zH hcon; clear hcon;have bW:=St.new w cl fin (.slice a l.length c);have HV:=zH hV; clear hV;go_enter func158,ntmps158;go_wp2_with fail;refine dh.out.mono ?_;rintro e w1 ⟨rfl,hb⟩;rw[HV.out];have hst:=bW.call hb;have hb1:=hb0.trans (hb.mono hb0.size);obtain⟨ht0,ht1,ht2,hs0,hs1,hs2,hf0,hf1⟩:=hst.facts;have hw1:=hst.lt;have hw0:w.heap.size<w1.heap.size:=by omega
 clear hb bW hb0;go_wp2_with fail;refine zr (v:=.tuple #[au 0 false (.slice none 0 0),.int .i64 1]) (by simp[results,results158,go_sem,hs0,hs1,hs2]) rfl ⟨_,rfl,gm.nil _ _,?_⟩;exact((hb1.setCell (by simp) _).setCell (by simp) _).setCell (by simp) _
theorem JZ(cap cl:Int)(fin:Bool)(sv:Value)(l:List T.az)(number:Int)(w:World)(hr:aW w sv l)(hf:nC l)(hV:T.aF cap cl fin l=true)(hn:number<1\/(l.length:Int)<number):Calls prog 158 #[.int .i64 cap,au cl fin sv,.int .i64 number] w (oL (eY.bad 6) w):=by
 by_cases h1:number<1
 ·have hd:decide (number<1)=true:=zt h1;clear hn h1;obtain⟨a,c,rfl,hac⟩:=bK.form hr;have hb0:=aX w cl fin (.slice a l.length c);have hcon:=aV cap cl fin _ l _ (hr.keep hb0) hf;have dh:=zH hcon; clear hcon;have bW:=St.new w cl fin (.slice a l.length c);have HV:=zH hV; clear hV;go_enter func158,ntmps158;go_wp2_with fail;refine dh.out.mono ?_;rintro e w1 ⟨rfl,hb⟩;rw[HV.out];have hst:=bW.call hb;have hb1:=hb0.trans (hb.mono hb0.size);obtain⟨ht0,ht1,ht2,hs0,hs1,hs2,hf0,hf1⟩:=hst.facts;have hw1:=hst.lt;have hw0:w.heap.size<w1.heap.size:=by omega
  clear hb bW hb0;go_wp2_with fail;refine zr (v:=.tuple #[au 0 false (.slice none 0 0),.int .i64 6]) (by simp[results,results158,go_sem,hs0,hs1,hs2]) rfl ⟨_,rfl,gm.nil _ _,?_⟩;exact((hb1.setCell (by simp) _).setCell (by simp) _).setCell (by simp) _
 ·have hd:decide (number<1)=false:=zf h1;have hd2:decide ((l.length:Int)<number)=true:=zt (by omega);clear hn;obtain⟨a,c,rfl,hac⟩:=bK.form hr;have hb0:=aX w cl fin (.slice a l.length c);have hcon:=aV cap cl fin _ l _ (hr.keep hb0) hf;have dh:=zH hcon; clear hcon;have bW:=St.new w cl fin (.slice a l.length c);have HV:=zH hV; clear hV;go_enter func158,ntmps158;go_wp2_with fail;refine dh.out.mono ?_;rintro e w1 ⟨rfl,hb⟩;rw[HV.out];have hst:=bW.call hb;have hb1:=hb0.trans (hb.mono hb0.size);obtain⟨ht0,ht1,ht2,hs0,hs1,hs2,hf0,hf1⟩:=hst.facts;have hw1:=hst.lt;have hw0:w.heap.size<w1.heap.size:=by omega
  clear hb bW hb0;go_wp2_with fail;refine zr (v:=.tuple #[au 0 false (.slice none 0 0),.int .i64 6]) (by simp[results,results158,go_sem,hs0,hs1,hs2]) rfl ⟨_,rfl,gm.nil _ _,?_⟩;exact((hb1.setCell (by simp) _).setCell (by simp) _).setCell (by simp) _
theorem J3(cap cl:Int)(fin:Bool)(sv:Value)(l:List T.az)(i:Nat)(w:World)(hr:aW w sv l)(hf:nC l)(hil:i<l.length)(hV:T.aF cap cl fin l=true)(hs:(T.tr l i).cZ≠1):Calls prog 158 #[.int .i64 cap,au cl fin sv,.int .i64 ((i:Int)+1)] w (oL (eY.bad 8) w):=by
 have V6:=zH (T.ay.1 hV).2.2.2.2.2.1;have h99:=(T.ay.1 hV).2.2.1;have hcap:=(T.ay.1 hV).2.1;have Iw:=zH hf;have hd:decide ((i:Int)+1<1)=false:=zf (by omega);have hd2:decide ((l.length:Int)<(i:Int)+1)=false:=zf (by omega);have hi1:(i:Int)+1 - 1=i:=by omega
 have HI1:=zH hi1;obtain⟨x,hx⟩:∃x,x=T.tr l i:=⟨_,rfl⟩;have HX:=zH hx;obtain⟨IA,H7,oz,oC,AU,IB,IC⟩:=Iw.out.2 i hil;have hgo:=V6.out i hil;unfold T.okR at hgo;rw[<-hx]at IA H7 oz oC AU IB IC hgo;obtain⟨g1,g2,g3,g4,g5,g6,g7,g8,g9,g10,g11,g12,g13,g14⟩:=hgo;clear g1 g2 g3 g4 g5 g12 g13 g14;have UY:=oz; have H8:=oC;unfold sm at oz oC AU;rw[<-hx]at hs;clear hx hi1;have hd3:(x.cZ != 1)=true:=by rw[bne_iff_ne]; exact hs
 clear hs;obtain⟨a,c,rfl,hac⟩:=bK.form hr;have hb0:=aX w cl fin (.slice a l.length c);have hcon:=aV cap cl fin _ l _ (hr.keep hb0) hf;have dh:=zH hcon; clear hcon;have bW:=St.new w cl fin (.slice a l.length c);have HV:=zH hV; clear hV;go_enter func158,ntmps158;go_wp2_with fail;refine dh.out.mono ?_;rintro e w1 ⟨rfl,hb⟩;rw[HV.out];have hst:=bW.call hb;have hb1:=hb0.trans (hb.mono hb0.size);obtain⟨ht0,ht1,ht2,hs0,hs1,hs2,hf0,hf1⟩:=hst.facts;have hw1:=hst.lt;have hw0:w.heap.size<w1.heap.size:=by omega
 clear hb bW hb0;have hrx:=aW.keep hr hb1;go_wp2_with fail;refine(clone_any cl fin _ l _ hrx (by omega)).mono ?_;rintro e w3 ⟨v3,rfl,hown3,hb3⟩;have hst3:=hst.call hb3;have jk:=hb1.trans (hb3.mono hb1.size);obtain⟨gg,c3,rfl,hg1,hg2⟩:=mW hown3 (by omega);clear ht0 ht1 ht2 hs0 hs1 hs2 hf0 hf1;obtain⟨ht0,ht1,ht2,hs0,hs1,hs2,hf0,hf1⟩:=hst3.facts;have hw4:=hst3.lt;have hw5:w.heap.size<w3.heap.size:=by omega
 have hgN:w.heap.size+1<gg:=by omega
 have hgn1:¬ w.heap.size=gg:=by omega
 have hgn2:¬ w.heap.size+1=gg:=by omega
 have hfg:∀k,w3.frozen? ⟨gg,k,none⟩=false:=fun k=>hown3.frozenAt k
 have hrow:=kH hown3 i hil;rw[<-HX.out]at hrow;obtain⟨hq0,hq1,hq2,hq3,hq4,hq5,hq6⟩:=xO hrow;clear hrow;have hix3:∀W,(Instr.indexAt 35 (.slice (some ⟨gg,0,none⟩) l.length c3) (.int .i64 (i:Int))).run prog W=.ok (.pointer (some ⟨gg,i * 7,none⟩)) W:=fun W=>
  (aH (P:=prog) underlying35 sizeTrack (cap:=c3) (rfl:some (⟨gg,0,none⟩:Addr)=_) hil _ rfl W).trans (by rw[Nat.zero_add])
 go_wp2_with fail;go_quiet (fail);go_wp2_with fail;refine zr (v:=.tuple #[au 0 false (.slice none 0 0),.int .i64 8]) (by simp[results,results158,go_sem,hs0,hs1,hs2]) rfl ⟨_,rfl,gm.nil _ _,?_⟩;exact(((Below.drewN (((jk.setCell (by simp) _).setCell (by simp) _).setCell (by simp) _) _).setCell (by simp) _).setCell (by simp) _).setCell (by simp) _
theorem J4(cap cl:Int)(fin:Bool)(sv:Value)(l:List T.az)(i:Nat)(w:World)(hr:aW w sv l)(hf:nC l)(hil:i<l.length)(hV:T.aF cap cl fin l=true)(hs:(T.tr l i).cZ=1)(hl:i+1≠l.length)(hx2:(T.tr l i).nx≠(T.tr l i).st+(T.tr l i).len):Calls prog 158 #[.int .i64 cap,au cl fin sv,.int .i64 ((i:Int)+1)] w (oL (eY.bad 8) w):=by
 have V6:=zH (T.ay.1 hV).2.2.2.2.2.1;have h99:=(T.ay.1 hV).2.2.1;have hcap:=(T.ay.1 hV).2.1;have Iw:=zH hf;have hd:decide ((i:Int)+1<1)=false:=zf (by omega);have hd2:decide ((l.length:Int)<(i:Int)+1)=false:=zf (by omega);have hi1:(i:Int)+1 - 1=i:=by omega
 have HI1:=zH hi1;obtain⟨x,hx⟩:∃x,x=T.tr l i:=⟨_,rfl⟩;have HX:=zH hx;obtain⟨IA,H7,oz,oC,AU,IB,IC⟩:=Iw.out.2 i hil;have hgo:=V6.out i hil;unfold T.okR at hgo;rw[<-hx]at IA H7 oz oC AU IB IC hgo;obtain⟨g1,g2,g3,g4,g5,g6,g7,g8,g9,g10,g11,g12,g13,g14⟩:=hgo;clear g1 g2 g3 g4 g5 g12 g13 g14;have UY:=oz; have H8:=oC;unfold sm at oz oC AU;rw[<-hx]at hs hx2;clear hx hi1;have hd3:(x.cZ != 1)=false:=by rw[bne_eq_false_iff_eq]; exact hs
 have hd4:((i:Int)+1 == (l.length:Int))=false:=by rw[beq_eq_false_iff_ne]; omega
 have hd5:(x.nx != x.st+x.len)=true:=by rw[bne_iff_ne]; exact hx2
 clear hs hx2;obtain⟨a,c,rfl,hac⟩:=bK.form hr;have hb0:=aX w cl fin (.slice a l.length c);have hcon:=aV cap cl fin _ l _ (hr.keep hb0) hf;have dh:=zH hcon; clear hcon;have bW:=St.new w cl fin (.slice a l.length c);have HV:=zH hV; clear hV;go_enter func158,ntmps158;go_wp2_with fail;refine dh.out.mono ?_;rintro e w1 ⟨rfl,hb⟩;rw[HV.out];have hst:=bW.call hb;have hb1:=hb0.trans (hb.mono hb0.size);obtain⟨ht0,ht1,ht2,hs0,hs1,hs2,hf0,hf1⟩:=hst.facts;have hw1:=hst.lt;have hw0:w.heap.size<w1.heap.size:=by omega
 clear hb bW hb0;have hrx:=aW.keep hr hb1;go_wp2_with fail;refine(clone_any cl fin _ l _ hrx (by omega)).mono ?_;rintro e w3 ⟨v3,rfl,hown3,hb3⟩;have hst3:=hst.call hb3;have jk:=hb1.trans (hb3.mono hb1.size);obtain⟨gg,c3,rfl,hg1,hg2⟩:=mW hown3 (by omega);clear ht0 ht1 ht2 hs0 hs1 hs2 hf0 hf1;obtain⟨ht0,ht1,ht2,hs0,hs1,hs2,hf0,hf1⟩:=hst3.facts;have hw4:=hst3.lt;have hw5:w.heap.size<w3.heap.size:=by omega
 have hgN:w.heap.size+1<gg:=by omega
 have hgn1:¬ w.heap.size=gg:=by omega
 have hgn2:¬ w.heap.size+1=gg:=by omega
 have hfg:∀k,w3.frozen? ⟨gg,k,none⟩=false:=fun k=>hown3.frozenAt k
 have hrow:=kH hown3 i hil;rw[<-HX.out]at hrow;obtain⟨hq0,hq1,hq2,hq3,hq4,hq5,hq6⟩:=xO hrow;clear hrow;have hix3:∀W,(Instr.indexAt 35 (.slice (some ⟨gg,0,none⟩) l.length c3) (.int .i64 (i:Int))).run prog W=.ok (.pointer (some ⟨gg,i * 7,none⟩)) W:=fun W=>
  (aH (P:=prog) underlying35 sizeTrack (cap:=c3) (rfl:some (⟨gg,0,none⟩:Addr)=_) hil _ rfl W).trans (by rw[Nat.zero_add])
 go_wp2_with fail
 go_region_held3 (fun W=>gg<W.heap.size/\W.cell? ⟨gg,i * 7,none⟩=some (.int .i64 x.num)/\W.cell? ⟨gg,i * 7+1,none⟩=some (.int .i64 x.bP)/\W.cell? ⟨gg,i * 7+2,none⟩=some (.int .i64 x.st)/\W.cell? ⟨gg,i * 7+3,none⟩=some (.int .i64 x.len)/\W.cell? ⟨gg,i * 7+4,none⟩=some (.int .i64 x.nx)/\W.cell? ⟨gg,i * 7+5,none⟩=some (.int .i64 x.cZ)/\W.cell? ⟨gg,i * 7+6,none⟩=some (.int .i64 x.pk)) (((try dsimp only); ((repeat' apply And.intro) <;> (first | (go_keep; done) | (go_simp; done) | (simp; omega))))) ((go_at_call 208; refine(jC x _ UY H8).mono ?_; rintro e w4 ⟨rfl,rfl⟩))
 go_wp2_with fail;refine zr (v:=.tuple #[au 0 false (.slice none 0 0),.int .i64 8]) (by simp[results,results158,go_sem,hs0,hs1,hs2,hw4]) rfl ⟨_,rfl,gm.nil _ _,?_⟩;exact(((((((jk.setCell (by simp) _).setCell (by simp) _).setCell (by simp) _).setCell (by simp) _).setCell (by simp) _).setCell (by simp) _).alloc (by simp; omega) _).drew
theorem J5(cap cl:Int)(fin:Bool)(sv:Value)(l:List T.az)(i:Nat)(w:World)(hr:aW w sv l)(hf:nC l)(hil:i<l.length)(hV:T.aF cap cl fin l=true)(hs:(T.tr l i).cZ=1)(hl:i+1=l.length):Calls prog 158 #[.int .i64 cap,au cl fin sv,.int .i64 ((i:Int)+1)] w (oL ⟨cl,fin,l.set i (T.lh (T.tr l i)),0⟩ w):=by
 have V6:=zH (T.ay.1 hV).2.2.2.2.2.1;have h99:=(T.ay.1 hV).2.2.1;have hcap:=(T.ay.1 hV).2.1;have Iw:=zH hf;have hd:decide ((i:Int)+1<1)=false:=zf (by omega);have hd2:decide ((l.length:Int)<(i:Int)+1)=false:=zf (by omega);have hi1:(i:Int)+1 - 1=i:=by omega
 have HI1:=zH hi1;obtain⟨x,hx⟩:∃x,x=T.tr l i:=⟨_,rfl⟩;have HX:=zH hx;obtain⟨IA,H7,oz,oC,AU,IB,IC⟩:=Iw.out.2 i hil;have hgo:=V6.out i hil;unfold T.okR at hgo;rw[<-hx]at IA H7 oz oC AU IB IC hgo;obtain⟨g1,g2,g3,g4,g5,g6,g7,g8,g9,g10,g11,g12,g13,g14⟩:=hgo;clear g1 g2 g3 g4 g5 g12 g13 g14;have UY:=oz; have H8:=oC;unfold sm at oz oC AU;rw[<-hx]at hs ⊢;clear hx hi1;have hd3:(x.cZ != 1)=false:=by rw[bne_eq_false_iff_eq]; exact hs
 have hd4:((i:Int)+1 == (l.length:Int))=true:=by rw[beq_iff_eq]; omega
 have HL:=zH hl; clear hl;clear hs;obtain⟨a,c,rfl,hac⟩:=bK.form hr;have hb0:=aX w cl fin (.slice a l.length c);have hcon:=aV cap cl fin _ l _ (hr.keep hb0) hf;have dh:=zH hcon; clear hcon;have bW:=St.new w cl fin (.slice a l.length c);have HV:=zH hV; clear hV;go_enter func158,ntmps158;go_wp2_with fail;refine dh.out.mono ?_;rintro e w1 ⟨rfl,hb⟩;rw[HV.out];have hst:=bW.call hb;have hb1:=hb0.trans (hb.mono hb0.size);obtain⟨ht0,ht1,ht2,hs0,hs1,hs2,hf0,hf1⟩:=hst.facts;have hw1:=hst.lt;have hw0:w.heap.size<w1.heap.size:=by omega
 clear hb bW hb0;have hrx:=aW.keep hr hb1;go_wp2_with fail;refine(clone_any cl fin _ l _ hrx (by omega)).mono ?_;rintro e w3 ⟨v3,rfl,hown3,hb3⟩;have hst3:=hst.call hb3;have jk:=hb1.trans (hb3.mono hb1.size);obtain⟨gg,c3,rfl,hg1,hg2⟩:=mW hown3 (by omega);clear ht0 ht1 ht2 hs0 hs1 hs2 hf0 hf1;obtain⟨ht0,ht1,ht2,hs0,hs1,hs2,hf0,hf1⟩:=hst3.facts;have hw4:=hst3.lt;have hw5:w.heap.size<w3.heap.size:=by omega
 have hgN:w.heap.size+1<gg:=by omega
 have hgn1:¬ w.heap.size=gg:=by omega
 have hgn2:¬ w.heap.size+1=gg:=by omega
 have hfg:∀k,w3.frozen? ⟨gg,k,none⟩=false:=fun k=>hown3.frozenAt k
 have hrow:=kH hown3 i hil;rw[<-HX.out]at hrow;obtain⟨hq0,hq1,hq2,hq3,hq4,hq5,hq6⟩:=xO hrow;clear hrow;have hix3:∀W,(Instr.indexAt 35 (.slice (some ⟨gg,0,none⟩) l.length c3) (.int .i64 (i:Int))).run prog W=.ok (.pointer (some ⟨gg,i * 7,none⟩)) W:=fun W=>
  (aH (P:=prog) underlying35 sizeTrack (cap:=c3) (rfl:some (⟨gg,0,none⟩:Addr)=_) hil _ rfl W).trans (by rw[Nat.zero_add])
 go_wp2_with fail;go_quiet (fail);go_wp2_with fail
 go_region
 all_goals
  go_wp2_with fail;have hlb:w.heap.size+1<w1.heap.size:=hst.lt;refine zr (v:=.tuple #[au cl fin (.slice (some ⟨gg,0,none⟩) l.length c3),.int .i64 0]) (by simp[results,results158,go_sem,hs0,hs1,hs2]) rfl ⟨_,rfl,?_,?_⟩
  ·have e0:=aK (aK (aK hown3 (p:=⟨w.heap.size,0,none⟩) (by simp only; omega) (.int .i64 cl)) (p:=⟨w.heap.size,1,none⟩) (by simp only; omega) (.bool fin)) (p:=⟨w.heap.size,2,none⟩) (by simp only; omega) (.slice (some ⟨gg,0,none⟩) l.length c3);have e0':=own_drewN e0 nq;have e1:=qG e0' i 5 hil (by omega) (.int .i64 2) { x with cZ:=2 } (by rw[<-HX.out]; rfl);have e2:=qG e1 i 3 (by simpa using hil) (by omega) (.int .i64 (x.nx - x.st)) (T.lh x) (by rw[T.fO _ _ _ hil]; rfl);rw[List.set_set]at e2;have e3:=aK (aK (aK e2 (p:=⟨w.heap.size+1,0,none⟩) (by simp only; omega) (.int .i64 cl)) (p:=⟨w.heap.size+1,1,none⟩) (by simp only; omega) (.bool fin)) (p:=⟨w.heap.size+1,2,none⟩) (by simp only; omega) (.slice (some ⟨gg,0,none⟩) l.length c3);have e4:=gm.bM (l:=l.set i (T.lh x)) (by rw[List.length_set]; exact e3) (by first | omega | (have:=hb2'.size; omega) | (have:=hb1.size; omega) | (have:=jk.size; omega));exact gm.drew e4
  ·exact((((((Below.drewN (((jk.setCell (by simp) _).setCell (by simp) _).setCell (by simp) _) _).setCell (by simp only; omega) _).setCell (by simp only; omega) _).setCell (by simp) _).setCell (by simp) _).setCell (by simp) _).drew
theorem J6(cap cl:Int)(fin:Bool)(sv:Value)(l:List T.az)(i:Nat)(w:World)(hr:aW w sv l)(hf:nC l)(hil:i<l.length)(hV:T.aF cap cl fin l=true)(hs:(T.tr l i).cZ=1)(hl:i+1≠l.length)(hx2:(T.tr l i).nx=(T.tr l i).st+(T.tr l i).len):Calls prog 158 #[.int .i64 cap,au cl fin sv,.int .i64 ((i:Int)+1)] w (oL ⟨cl,fin,l.set i (T.lh (T.tr l i)),0⟩ w):=by
 have V6:=zH (T.ay.1 hV).2.2.2.2.2.1;have h99:=(T.ay.1 hV).2.2.1;have hcap:=(T.ay.1 hV).2.1;have Iw:=zH hf;have hd:decide ((i:Int)+1<1)=false:=zf (by omega);have hd2:decide ((l.length:Int)<(i:Int)+1)=false:=zf (by omega);have hi1:(i:Int)+1 - 1=i:=by omega
 have HI1:=zH hi1;obtain⟨x,hx⟩:∃x,x=T.tr l i:=⟨_,rfl⟩;have HX:=zH hx;obtain⟨IA,H7,oz,oC,AU,IB,IC⟩:=Iw.out.2 i hil;have hgo:=V6.out i hil;unfold T.okR at hgo;rw[<-hx]at IA H7 oz oC AU IB IC hgo;obtain⟨g1,g2,g3,g4,g5,g6,g7,g8,g9,g10,g11,g12,g13,g14⟩:=hgo;clear g1 g2 g3 g4 g5 g12 g13 g14;have UY:=oz; have H8:=oC;unfold sm at oz oC AU;rw[<-hx]at hs hx2 ⊢;clear hx hi1;have hd3:(x.cZ != 1)=false:=by rw[bne_eq_false_iff_eq]; exact hs
 have hd4:((i:Int)+1 == (l.length:Int))=false:=by rw[beq_eq_false_iff_ne]; omega
 have hd5:(x.nx != x.st+x.len)=false:=by rw[bne_eq_false_iff_eq]; exact hx2
 have hys:T.lh x = { x with cZ:=2 }:=by unfold T.lh; rw[show x.nx - x.st=x.len by omega]
 have HYS:=zH hys; clear hys;clear hs hx2;obtain⟨a,c,rfl,hac⟩:=bK.form hr;have hb0:=aX w cl fin (.slice a l.length c);have hcon:=aV cap cl fin _ l _ (hr.keep hb0) hf;have dh:=zH hcon; clear hcon;have bW:=St.new w cl fin (.slice a l.length c);have HV:=zH hV; clear hV;go_enter func158,ntmps158;go_wp2_with fail;refine dh.out.mono ?_;rintro e w1 ⟨rfl,hb⟩;rw[HV.out];have hst:=bW.call hb;have hb1:=hb0.trans (hb.mono hb0.size);obtain⟨ht0,ht1,ht2,hs0,hs1,hs2,hf0,hf1⟩:=hst.facts;have hw1:=hst.lt;have hw0:w.heap.size<w1.heap.size:=by omega
 clear hb bW hb0;have hrx:=aW.keep hr hb1;go_wp2_with fail;refine(clone_any cl fin _ l _ hrx (by omega)).mono ?_;rintro e w3 ⟨v3,rfl,hown3,hb3⟩;have hst3:=hst.call hb3;have jk:=hb1.trans (hb3.mono hb1.size);obtain⟨gg,c3,rfl,hg1,hg2⟩:=mW hown3 (by omega);clear ht0 ht1 ht2 hs0 hs1 hs2 hf0 hf1;obtain⟨ht0,ht1,ht2,hs0,hs1,hs2,hf0,hf1⟩:=hst3.facts;have hw4:=hst3.lt;have hw5:w.heap.size<w3.heap.size:=by omega
 have hgN:w.heap.size+1<gg:=by omega
 have hgn1:¬ w.heap.size=gg:=by omega
 have hgn2:¬ w.heap.size+1=gg:=by omega
 have hfg:∀k,w3.frozen? ⟨gg,k,none⟩=false:=fun k=>hown3.frozenAt k
 have hrow:=kH hown3 i hil;rw[<-HX.out]at hrow;obtain⟨hq0,hq1,hq2,hq3,hq4,hq5,hq6⟩:=xO hrow;clear hrow;have hix3:∀W,(Instr.indexAt 35 (.slice (some ⟨gg,0,none⟩) l.length c3) (.int .i64 (i:Int))).run prog W=.ok (.pointer (some ⟨gg,i * 7,none⟩)) W:=fun W=>
  (aH (P:=prog) underlying35 sizeTrack (cap:=c3) (rfl:some (⟨gg,0,none⟩:Addr)=_) hil _ rfl W).trans (by rw[Nat.zero_add])
 go_wp2_with fail
 go_region_held3 (fun W=>gg<W.heap.size/\W.cell? ⟨gg,i * 7,none⟩=some (.int .i64 x.num)/\W.cell? ⟨gg,i * 7+1,none⟩=some (.int .i64 x.bP)/\W.cell? ⟨gg,i * 7+2,none⟩=some (.int .i64 x.st)/\W.cell? ⟨gg,i * 7+3,none⟩=some (.int .i64 x.len)/\W.cell? ⟨gg,i * 7+4,none⟩=some (.int .i64 x.nx)/\W.cell? ⟨gg,i * 7+5,none⟩=some (.int .i64 x.cZ)/\W.cell? ⟨gg,i * 7+6,none⟩=some (.int .i64 x.pk)) (((try dsimp only); ((repeat' apply And.intro) <;> (first | (go_keep; done) | (go_simp; done) | (simp; omega))))) ((go_at_call 208; refine(jC x _ UY H8).mono ?_; rintro e w4 ⟨rfl,rfl⟩))
 go_wp2_with fail;refine zr (v:=.tuple #[au cl fin (.slice (some ⟨gg,0,none⟩) l.length c3),.int .i64 0]) (by simp[results,results158,go_sem,hs0,hs1,hs2,hw4]) rfl ⟨_,rfl,?_,?_⟩
 ·have hlb:w.heap.size+1<w1.heap.size:=hst.lt;have e0:=aK (aK (aK hown3 (p:=⟨w.heap.size,0,none⟩) (by simp only; omega) (.int .i64 cl)) (p:=⟨w.heap.size,1,none⟩) (by simp only; omega) (.bool fin)) (p:=⟨w.heap.size,2,none⟩) (by simp only; omega) (.slice (some ⟨gg,0,none⟩) l.length c3);have e1:=qG e0 i 5 hil (by omega) (.int .i64 2) (T.lh x) (by rw[<-HX.out,HYS.out]; rfl);have e2:=aK (aK (aK e1 (p:=⟨w.heap.size+1,0,none⟩) (by simp only; omega) (.int .i64 cl)) (p:=⟨w.heap.size+1,1,none⟩) (by simp only; omega) (.bool fin)) (p:=⟨w.heap.size+1,2,none⟩) (by simp only; omega) (.slice (some ⟨gg,0,none⟩) l.length c3);have e3:=GG e2 ((zB _ _).alloc (zl _) (lq x)).block;have e4:=gm.bM (l:=l.set i (T.lh x)) (by rw[List.length_set]; exact e3) (by first | omega | (have:=hb2'.size; omega) | (have:=hb1.size; omega) | (have:=jk.size; omega));exact gm.drew e4
 ·exact((((((((jk.setCell (by simp) _).setCell (by simp) _).setCell (by simp) _).setCell (by simp only; omega) _).setCell (by simp) _).setCell (by simp) _).setCell (by simp) _).alloc (by simp; omega) _).drew
theorem O6(cap cl:Int)(fin:Bool)(sv:Value)(l:List T.az)(fz:Bool)(w:World)(hr:aW w sv l)(hf:nC l)(hV:T.aF cap cl fin l=false):Calls prog 159 #[.int .i64 cap,au cl fin sv,.bool fz] w (oL (eY.bad 1) w):=by
 obtain⟨a,c,rfl,hac⟩:=bK.form hr;have hb0:=aX w cl fin (.slice a l.length c);have hcon:=aV cap cl fin _ l _ (hr.keep hb0) hf;have dh:=zH hcon; clear hcon;have bW:=St.new w cl fin (.slice a l.length c);have HV:=zH hV; clear hV;go_enter func159,ntmps159;go_wp2_with fail;refine dh.out.mono ?_;rintro e w1 ⟨rfl,hb⟩;rw[HV.out];have hst:=bW.call hb;have hb1:=hb0.trans (hb.mono hb0.size);obtain⟨ht0,ht1,ht2,hs0,hs1,hs2,hf0,hf1⟩:=hst.facts;have hw1:=hst.lt;have hw0:w.heap.size<w1.heap.size:=by omega
 clear hb bW hb0;go_wp2_with fail;refine zr (v:=.tuple #[au 0 false (.slice none 0 0),.int .i64 1]) (by simp[results,results159,go_sem,hs0,hs1,hs2]) rfl ⟨_,rfl,gm.nil _ _,?_⟩;exact((hb1.setCell (by simp) _).setCell (by simp) _).setCell (by simp) _
theorem O7(cap cl:Int)(sv:Value)(l:List T.az)(fz:Bool)(w:World)(hr:aW w sv l)(hf:nC l)(hV:T.aF cap cl true l=true):Calls prog 159 #[.int .i64 cap,au cl true sv,.bool fz] w (oL (eY.bad 15) w):=by
 obtain⟨a,c,rfl,hac⟩:=bK.form hr;have hb0:=aX w cl true (.slice a l.length c);have hcon:=aV cap cl true _ l _ (hr.keep hb0) hf;have dh:=zH hcon; clear hcon;have bW:=St.new w cl true (.slice a l.length c);have HV:=zH hV; clear hV;go_enter func159,ntmps159;go_wp2_with fail;refine dh.out.mono ?_;rintro e w1 ⟨rfl,hb⟩;rw[HV.out];have hst:=bW.call hb;have hb1:=hb0.trans (hb.mono hb0.size);obtain⟨ht0,ht1,ht2,hs0,hs1,hs2,hf0,hf1⟩:=hst.facts;have hw1:=hst.lt;have hw0:w.heap.size<w1.heap.size:=by omega
 clear hb bW hb0;go_wp2_with fail;refine zr (v:=.tuple #[au 0 false (.slice none 0 0),.int .i64 15]) (by simp[results,results159,go_sem,hs0,hs1,hs2]) rfl ⟨_,rfl,gm.nil _ _,?_⟩;exact((hb1.setCell (by simp) _).setCell (by simp) _).setCell (by simp) _
theorem O8(cap cl:Int)(sv:Value)(l:List T.az)(fz:Bool)(w:World)(hr:aW w sv l)(hf:nC l)(hV:T.aF cap cl false l=true)(hu:lV (gK l) l.length=true):Calls prog 159 #[.int .i64 cap,au cl false sv,.bool fz] w (oL (eY.bad 8) w):=by
 obtain⟨q1,q2,q3,q4,q5,_⟩:=T.ay.1 hV;have HU:=zH hu; clear hu;obtain⟨a,c,rfl,hac⟩:=bK.form hr;have hb0:=aX w cl false (.slice a l.length c);have hcon:=aV cap cl false _ l _ (hr.keep hb0) hf;have dh:=zH hcon; clear hcon;have bW:=St.new w cl false (.slice a l.length c);have HV:=zH hV; clear hV;go_enter func159,ntmps159;go_wp2_with fail;refine dh.out.mono ?_;rintro e w1 ⟨rfl,hb⟩;rw[HV.out];have hst:=bW.call hb;have hb1:=hb0.trans (hb.mono hb0.size);obtain⟨ht0,ht1,ht2,hs0,hs1,hs2,hf0,hf1⟩:=hst.facts;have hw1:=hst.lt;have hw0:w.heap.size<w1.heap.size:=by omega
 clear hb bW hb0;have hrx:=aW.keep hr hb1;go_wp2_with fail;refine(mJ _ l _ hrx (by omega) w.heap.size cl ht0 hw0).mono ?_;rintro e w2 ⟨rfl,hb2⟩;generalize lV (jq cl l) l.length=q;have hst2:=hst.call hb2;have hb2':=hb1.trans (hb2.mono hb1.size);have lH:=aW.keep hrx hb2;clear ht0 ht1 ht2 hs0 hs1 hs2 hf0 hf1 hb2 hst hb1 hrx;obtain⟨ht0,ht1,ht2,hs0,hs1,hs2,hf0,hf1⟩:=hst2.facts;go_wp2_with fail;refine(kV _ l _ lH (by omega)).mono ?_;rintro e w3 ⟨rfl,hb3⟩;rw[HU.out];have hst3:=hst2.call hb3;have jk:=hb2'.trans (hb3.mono hb2'.size);have OJ:=aW.keep lH hb3;clear ht0 ht1 ht2 hs0 hs1 hs2 hf0 hf1 hb3 hst2 hb2' lH;obtain⟨ht0,ht1,ht2,hs0,hs1,hs2,hf0,hf1⟩:=hst3.facts;have hw3:=hst3.lt;have Xt:w.heap.size<w3.heap.size:=by omega
 go_wp2_with fail;refine zr (v:=.tuple #[au 0 false (.slice none 0 0),.int .i64 8]) (by simp[results,results159,go_sem,hs0,hs1,hs2]) rfl ⟨_,rfl,gm.nil _ _,?_⟩;exact((jk.setCell (by simp) _).setCell (by simp) _).setCell (by simp) _
theorem O9(cap cl:Int)(sv:Value)(l:List T.az)(fz:Bool)(w:World)(hr:aW w sv l)(hf:nC l)(hV:T.aF cap cl false l=true)(hu:lV (gK l) l.length=false)(hla:lV (jq cl l) l.length=true):Calls prog 159 #[.int .i64 cap,au cl false sv,.bool fz] w (oL ⟨cl+1,fz,l,0⟩ w):=by
 obtain⟨q1,q2,q3,q4,q5,_⟩:=T.ay.1 hV;have HU:=zH hu; clear hu;have HL:=zH hla; clear hla;obtain⟨a,c,rfl,hac⟩:=bK.form hr;have hb0:=aX w cl false (.slice a l.length c);have hcon:=aV cap cl false _ l _ (hr.keep hb0) hf;have dh:=zH hcon; clear hcon;have bW:=St.new w cl false (.slice a l.length c);have HV:=zH hV; clear hV;go_enter func159,ntmps159;go_wp2_with fail;refine dh.out.mono ?_;rintro e w1 ⟨rfl,hb⟩;rw[HV.out];have hst:=bW.call hb;have hb1:=hb0.trans (hb.mono hb0.size);obtain⟨ht0,ht1,ht2,hs0,hs1,hs2,hf0,hf1⟩:=hst.facts;have hw1:=hst.lt;have hw0:w.heap.size<w1.heap.size:=by omega
 clear hb bW hb0;have hrx:=aW.keep hr hb1;go_wp2_with fail;refine(mJ _ l _ hrx (by omega) w.heap.size cl ht0 hw0).mono ?_;rintro e w2 ⟨rfl,hb2⟩;rw[HL.out];have hst2:=hst.call hb2;have hb2':=hb1.trans (hb2.mono hb1.size);have lH:=aW.keep hrx hb2;clear ht0 ht1 ht2 hs0 hs1 hs2 hf0 hf1 hb2 hst hb1 hrx;obtain⟨ht0,ht1,ht2,hs0,hs1,hs2,hf0,hf1⟩:=hst2.facts;go_wp2_with fail;refine(kV _ l _ lH (by omega)).mono ?_;rintro e w3 ⟨rfl,hb3⟩;rw[HU.out];have hst3:=hst2.call hb3;have jk:=hb2'.trans (hb3.mono hb2'.size);have OJ:=aW.keep lH hb3;clear ht0 ht1 ht2 hs0 hs1 hs2 hf0 hf1 hb3 hst2 hb2' lH;obtain⟨ht0,ht1,ht2,hs0,hs1,hs2,hf0,hf1⟩:=hst3.facts;have hw3:=hst3.lt;have Xt:w.heap.size<w3.heap.size:=by omega
 go_wp2_with fail;refine(clone_any cl false _ l _ OJ (by omega)).mono ?_;rintro e w4 ⟨v4,rfl,hown4,hb4⟩;have xh:=hst3.call hb4;have Tm:=jk.trans (hb4.mono jk.size);obtain⟨a4,c4,rfl,_⟩:=bK.form (aW.bM hown4);clear ht0 ht1 ht2 hs0 hs1 hs2 hf0 hf1;obtain⟨ht0,ht1,ht2,hs0,hs1,hs2,hf0,hf1⟩:=xh.facts;have hw4:=xh.lt;have aa6:w.heap.size<w4.heap.size:=by omega
 have adl:w.heap.size+1<w3.heap.size:=hw3;go_upto_region 10 with (fail)
 have hst5:=xh.put cl false (.slice a4 l.length c4);have hown5:=aK (aK (aK hown4 (p:=⟨w.heap.size,0,none⟩) (by simp only; omega) (.int .i64 cl)) (p:=⟨w.heap.size,1,none⟩) (by simp only; omega) (.bool false)) (p:=⟨w.heap.size,2,none⟩) (by simp only; omega) (.slice a4 l.length c4);have hb5:=((Tm.setCell (p:=⟨w.heap.size,0,none⟩) (by simp) (.int .i64 cl)).setCell (p:=⟨w.heap.size,1,none⟩) (by simp) (.bool false)).setCell (p:=⟨w.heap.size,2,none⟩) (by simp) (.slice a4 l.length c4);generalize (((w4.setCell ⟨w.heap.size,0,none⟩ (.int .i64 cl)).setCell ⟨w.heap.size,1,none⟩ (.bool false)).setCell ⟨w.heap.size,2,none⟩ (.slice a4 l.length c4))=w5 at hst5 hown5 hb5 ⊢;clear ht0 ht1 ht2 hs0 hs1 hs2 hf0 hf1 xh hown4 hb4 Tm hw4 aa6;obtain⟨ht0,ht1,ht2,hs0,hs1,hs2,hf0,hf1⟩:=hst5.facts;have hw5:=hst5.lt;have afe:w.heap.size<w5.heap.size:=by omega
 go_wp2_with fail;refine zr (v:=.tuple #[au (cl+1) fz (.slice a4 l.length c4),.int .i64 0]) (by simp[results,results159,go_sem,hs0,hs1,hs2]) rfl ⟨_,rfl,?_,?_⟩
 ·exact gm.bM (aK (aK (aK (aK (aK (hown5) (by simp only; omega) _) (by simp only; omega) _) (by simp only; omega) _) (by simp only; omega) _) (by simp only; omega) _) (by first | omega | (have:=hb2'.size; omega) | (have:=hb1.size; omega) | (have:=jk.size; omega))
 ·exact Below.setCell (Below.setCell (Below.setCell (Below.setCell (Below.setCell (hb5) (by simp) _) (by simp) _) (by simp) _) (by simp) _) (by simp) _
theorem Pg(cap cl:Int)(sv:Value)(l:List T.az)(fz:Bool)(w:World)(hr:aW w sv l)(hf:nC l)(hV:T.aF cap cl false l=true)(hu:lV (gK l) l.length=false)(hla:lV (jq cl l) l.length=false)(hz:fz=false\/cl=0):Calls prog 159 #[.int .i64 cap,au cl false sv,.bool fz] w (oL (eY.bad 8) w):=by
 obtain⟨q1,q2,q3,q4,q5,_⟩:=T.ay.1 hV;have HU:=zH hu; clear hu;have HL:=zH hla; clear hla;by_cases h0:cl=0
 ·subst h0;clear hz;obtain⟨a,c,rfl,hac⟩:=bK.form hr;have hb0:=aX w 0 false (.slice a l.length c);have hcon:=aV cap 0 false _ l _ (hr.keep hb0) hf;have dh:=zH hcon; clear hcon;have bW:=St.new w 0 false (.slice a l.length c);have HV:=zH hV; clear hV;go_enter func159,ntmps159;go_wp2_with fail;refine dh.out.mono ?_;rintro e w1 ⟨rfl,hb⟩;rw[HV.out];have hst:=bW.call hb;have hb1:=hb0.trans (hb.mono hb0.size);obtain⟨ht0,ht1,ht2,hs0,hs1,hs2,hf0,hf1⟩:=hst.facts;have hw1:=hst.lt;have hw0:w.heap.size<w1.heap.size:=by omega
  clear hb bW hb0;have hrx:=aW.keep hr hb1;go_wp2_with fail;refine(mJ _ l _ hrx (by omega) w.heap.size 0 ht0 hw0).mono ?_;rintro e w2 ⟨rfl,hb2⟩;rw[HL.out];have hst2:=hst.call hb2;have hb2':=hb1.trans (hb2.mono hb1.size);have lH:=aW.keep hrx hb2;clear ht0 ht1 ht2 hs0 hs1 hs2 hf0 hf1 hb2 hst hb1 hrx;obtain⟨ht0,ht1,ht2,hs0,hs1,hs2,hf0,hf1⟩:=hst2.facts;go_wp2_with fail;refine(kV _ l _ lH (by omega)).mono ?_;rintro e w3 ⟨rfl,hb3⟩;rw[HU.out];have hst3:=hst2.call hb3;have jk:=hb2'.trans (hb3.mono hb2'.size);have OJ:=aW.keep lH hb3;clear ht0 ht1 ht2 hs0 hs1 hs2 hf0 hf1 hb3 hst2 hb2' lH;obtain⟨ht0,ht1,ht2,hs0,hs1,hs2,hf0,hf1⟩:=hst3.facts;have hw3:=hst3.lt;have Xt:w.heap.size<w3.heap.size:=by omega
  cases fz;all_goals
   go_wp2_with fail;refine zr (v:=.tuple #[au 0 false (.slice none 0 0),.int .i64 8]) (by simp[results,results159,go_sem,hs0,hs1,hs2]) rfl ⟨_,rfl,gm.nil _ _,?_⟩;exact((jk.setCell (by simp) _).setCell (by simp) _).setCell (by simp) _
 ·have hd:(cl == 0)=false:=by rw[beq_eq_false_iff_ne]; exact h0
  obtain rfl:fz=false:=by rcases hz with h | h; exact h; exact absurd h h0
  clear h0 hz;obtain⟨a,c,rfl,hac⟩:=bK.form hr;have hb0:=aX w cl false (.slice a l.length c);have hcon:=aV cap cl false _ l _ (hr.keep hb0) hf;have dh:=zH hcon; clear hcon;have bW:=St.new w cl false (.slice a l.length c);have HV:=zH hV; clear hV;go_enter func159,ntmps159;go_wp2_with fail;refine dh.out.mono ?_;rintro e w1 ⟨rfl,hb⟩;rw[HV.out];have hst:=bW.call hb;have hb1:=hb0.trans (hb.mono hb0.size);obtain⟨ht0,ht1,ht2,hs0,hs1,hs2,hf0,hf1⟩:=hst.facts;have hw1:=hst.lt;have hw0:w.heap.size<w1.heap.size:=by omega
  clear hb bW hb0;have hrx:=aW.keep hr hb1;go_wp2_with fail;refine(mJ _ l _ hrx (by omega) w.heap.size cl ht0 hw0).mono ?_;rintro e w2 ⟨rfl,hb2⟩;rw[HL.out];have hst2:=hst.call hb2;have hb2':=hb1.trans (hb2.mono hb1.size);have lH:=aW.keep hrx hb2;clear ht0 ht1 ht2 hs0 hs1 hs2 hf0 hf1 hb2 hst hb1 hrx;obtain⟨ht0,ht1,ht2,hs0,hs1,hs2,hf0,hf1⟩:=hst2.facts;go_wp2_with fail;refine(kV _ l _ lH (by omega)).mono ?_;rintro e w3 ⟨rfl,hb3⟩;rw[HU.out];have hst3:=hst2.call hb3;have jk:=hb2'.trans (hb3.mono hb2'.size);have OJ:=aW.keep lH hb3;clear ht0 ht1 ht2 hs0 hs1 hs2 hf0 hf1 hb3 hst2 hb2' lH;obtain⟨ht0,ht1,ht2,hs0,hs1,hs2,hf0,hf1⟩:=hst3.facts;have hw3:=hst3.lt;have Xt:w.heap.size<w3.heap.size:=by omega
  go_wp2_with fail;refine zr (v:=.tuple #[au 0 false (.slice none 0 0),.int .i64 8]) (by simp[results,results159,go_sem,hs0,hs1,hs2]) rfl ⟨_,rfl,gm.nil _ _,?_⟩;exact((jk.setCell (by simp) _).setCell (by simp) _).setCell (by simp) _
theorem Ph(cap cl:Int)(sv:Value)(l:List T.az)(w:World)(hr:aW w sv l)(hf:nC l)(hV:T.aF cap cl false l=true)(hu:lV (gK l) l.length=false)(hla:lV (jq cl l) l.length=false)(h0:cl≠0):Calls prog 159 #[.int .i64 cap,au cl false sv,.bool true] w (oL ⟨cl,true,l,0⟩ w):=by
 obtain⟨q1,q2,q3,q4,q5,_⟩:=T.ay.1 hV;have HU:=zH hu; clear hu;have HL:=zH hla; clear hla;have hd:(cl == 0)=false:=by rw[beq_eq_false_iff_ne]; exact h0
 clear h0;obtain⟨a,c,rfl,hac⟩:=bK.form hr;have hb0:=aX w cl false (.slice a l.length c);have hcon:=aV cap cl false _ l _ (hr.keep hb0) hf;have dh:=zH hcon; clear hcon;have bW:=St.new w cl false (.slice a l.length c);have HV:=zH hV; clear hV;go_enter func159,ntmps159;go_wp2_with fail;refine dh.out.mono ?_;rintro e w1 ⟨rfl,hb⟩;rw[HV.out];have hst:=bW.call hb;have hb1:=hb0.trans (hb.mono hb0.size);obtain⟨ht0,ht1,ht2,hs0,hs1,hs2,hf0,hf1⟩:=hst.facts;have hw1:=hst.lt;have hw0:w.heap.size<w1.heap.size:=by omega
 clear hb bW hb0;have hrx:=aW.keep hr hb1;go_wp2_with fail;refine(mJ _ l _ hrx (by omega) w.heap.size cl ht0 hw0).mono ?_;rintro e w2 ⟨rfl,hb2⟩;rw[HL.out];have hst2:=hst.call hb2;have hb2':=hb1.trans (hb2.mono hb1.size);have lH:=aW.keep hrx hb2;clear ht0 ht1 ht2 hs0 hs1 hs2 hf0 hf1 hb2 hst hb1 hrx;obtain⟨ht0,ht1,ht2,hs0,hs1,hs2,hf0,hf1⟩:=hst2.facts;go_wp2_with fail;refine(kV _ l _ lH (by omega)).mono ?_;rintro e w3 ⟨rfl,hb3⟩;rw[HU.out];have hst3:=hst2.call hb3;have jk:=hb2'.trans (hb3.mono hb2'.size);have OJ:=aW.keep lH hb3;clear ht0 ht1 ht2 hs0 hs1 hs2 hf0 hf1 hb3 hst2 hb2' lH;obtain⟨ht0,ht1,ht2,hs0,hs1,hs2,hf0,hf1⟩:=hst3.facts;have hw3:=hst3.lt;have Xt:w.heap.size<w3.heap.size:=by omega
 go_wp2_with fail;refine(clone_any cl false _ l _ OJ (by omega)).mono ?_;rintro e w4 ⟨v4,rfl,hown4,hb4⟩;have xh:=hst3.call hb4;have Tm:=jk.trans (hb4.mono jk.size);obtain⟨a4,c4,rfl,_⟩:=bK.form (aW.bM hown4);clear ht0 ht1 ht2 hs0 hs1 hs2 hf0 hf1;obtain⟨ht0,ht1,ht2,hs0,hs1,hs2,hf0,hf1⟩:=xh.facts;have hw4:=xh.lt;have aa6:w.heap.size<w4.heap.size:=by omega
 have adl:w.heap.size+1<w3.heap.size:=hw3;go_upto_region 10 with (fail)
 have hst5:=xh.put cl false (.slice a4 l.length c4);have hown5:=aK (aK (aK hown4 (p:=⟨w.heap.size,0,none⟩) (by simp only; omega) (.int .i64 cl)) (p:=⟨w.heap.size,1,none⟩) (by simp only; omega) (.bool false)) (p:=⟨w.heap.size,2,none⟩) (by simp only; omega) (.slice a4 l.length c4);have hb5:=((Tm.setCell (p:=⟨w.heap.size,0,none⟩) (by simp) (.int .i64 cl)).setCell (p:=⟨w.heap.size,1,none⟩) (by simp) (.bool false)).setCell (p:=⟨w.heap.size,2,none⟩) (by simp) (.slice a4 l.length c4);generalize (((w4.setCell ⟨w.heap.size,0,none⟩ (.int .i64 cl)).setCell ⟨w.heap.size,1,none⟩ (.bool false)).setCell ⟨w.heap.size,2,none⟩ (.slice a4 l.length c4))=w5 at hst5 hown5 hb5 ⊢;clear ht0 ht1 ht2 hs0 hs1 hs2 hf0 hf1 xh hown4 hb4 Tm hw4 aa6;obtain⟨ht0,ht1,ht2,hs0,hs1,hs2,hf0,hf1⟩:=hst5.facts;have hw5:=hst5.lt;have afe:w.heap.size<w5.heap.size:=by omega
 go_wp2_with fail;refine zr (v:=.tuple #[au cl true (.slice a4 l.length c4),.int .i64 0]) (by simp[results,results159,go_sem,hs0,hs1,hs2]) rfl ⟨_,rfl,?_,?_⟩
 ·exact gm.bM (aK (aK (aK (aK (hown5) (by simp only; omega) _) (by simp only; omega) _) (by simp only; omega) _) (by simp only; omega) _) (by first | omega | (have:=hb2'.size; omega) | (have:=hb1.size; omega) | (have:=jk.size; omega))
 ·exact Below.setCell (Below.setCell (Below.setCell (Below.setCell (hb5) (by simp) _) (by simp) _) (by simp) _) (by simp) _
theorem Ef(cap cl:Int)(fin:Bool)(sv:Value)(l:List T.az)(count pk:Int)(w:World)(hr:aW w sv l)(hf:nC l)(hi:i64 count):
 Calls prog 156 #[.int .i64 cap,au cl fin sv,.int .i64 count,.int .i64 pk] w (oL (bZ cap cl fin l count pk) w):=by
 unfold bZ;cases hV:T.aF cap cl fin l with
 | false=>rw[zj rfl]; exact GK cap cl fin sv l count pk w hr hf hV
 | true=>
   rw[zi (by simp)];cases fin with
   | true=>rw[zj rfl]; exact GM cap cl sv l count pk w hr hf hV
   | false=>
     rw[zi (by simp)];by_cases hp:T.pK count pk
     ·rw[zi (not_not_intro hp)];by_cases hn:l.length=99\/cl=16
      ·rw[zj hn]; exact GU cap cl sv l count pk w hr hf hV hp hi hn
      ·rw[zi hn];by_cases hx:cap - T.qN cl l<count
       ·rw[zj hx]; exact GV cap cl sv l count pk w hr hf hV hp hi (fun h=>hn (.inl h)) (fun h=>hn (.inr h)) hx
       ·rw[zi hx]; exact GX cap cl sv l count pk w hr hf hV hp hi (fun h=>hn (.inl h)) (fun h=>hn (.inr h)) hx
     ·rw[zj hp]; exact GN cap cl sv l count pk w hr hf hV hp hi
theorem EY(cap cl:Int)(fin:Bool)(sv:Value)(l:List T.az)(aj count:Int)(w:World)(hr:aW w sv l)(hf:nC l)(hi:i64 count)(hi2:i64 aj):
 Calls prog 153 #[.int .i64 cap,au cl fin sv,.int .i64 aj,.int .i64 count] w (oL (aZ cap cl fin l aj count) w):=by
 cases hV:T.aF cap cl fin l with
 | false=>unfold aZ; rw[zj hV]; exact JW cap cl fin sv l aj count w hr hf hV
 | true=>exact JX cap cl fin sv l aj count w hr hf hV hi hi2
theorem Jd(cap cl:Int)(fin:Bool)(sv:Value)(l:List T.az)(fz:Bool)(w:World)(hr:aW w sv l)(hf:nC l):
 Calls prog 159 #[.int .i64 cap,au cl fin sv,.bool fz] w (oL (bH cap cl fin l fz) w):=by
 unfold bH;cases hV:T.aF cap cl fin l with
 | false=>rw[zj rfl]; exact O6 cap cl fin sv l fz w hr hf hV
 | true=>
   rw[zi (by simp)];cases fin with
   | true=>rw[zj rfl]; exact O7 cap cl sv l fz w hr hf hV
   | false=>
     rw[zi (by simp)];cases hu:lV (gK l) l.length with
     | true=>rw[zj rfl]; exact O8 cap cl sv l fz w hr hf hV hu
     | false=>
       rw[zi (by simp)];cases hl:lV (jq cl l) l.length with
       | true=>rw[zj rfl]; exact O9 cap cl sv l fz w hr hf hV hu hl
       | false=>
         rw[zi (by simp)];by_cases hz:fz=false\/cl=0
         ·rw[zj hz]; exact Pg cap cl sv l fz w hr hf hV hu hl hz
         ·rw[zi hz];cases fz with
          | false=>exact absurd (.inl rfl) hz
          | true=>exact Ph cap cl sv l w hr hf hV hu hl (fun h=>hz (.inr h))
theorem Fv{F:FuncId}(cap cl:Int)(fin:Bool)(sv:Value)(l:List T.az)(number:Int)(w:World)
 (c1:T.aF cap cl fin l=false->Calls prog F #[.int .i64 cap,au cl fin sv,.int .i64 number] w (oL (eY.bad 1) w))
 (c2:T.aF cap cl fin l=true->number<1\/(l.length:Int)<number->Calls prog F #[.int .i64 cap,au cl fin sv,.int .i64 number] w (oL (eY.bad 6) w))
 (c3:∀i:Nat,i<l.length->T.aF cap cl fin l=true->(T.tr l i).cZ≠1->Calls prog F #[.int .i64 cap,au cl fin sv,.int .i64 ((i:Int)+1)] w (oL (eY.bad 8) w))
 (c4:∀i:Nat,i<l.length->T.aF cap cl fin l=true->(T.tr l i).cZ=1->i+1≠l.length->(T.tr l i).nx≠(T.tr l i).st+(T.tr l i).len->Calls prog F #[.int .i64 cap,au cl fin sv,.int .i64 ((i:Int)+1)] w (oL (eY.bad 8) w))
 (c5:∀i:Nat,i<l.length->T.aF cap cl fin l=true->(T.tr l i).cZ=1->i+1=l.length->Calls prog F #[.int .i64 cap,au cl fin sv,.int .i64 ((i:Int)+1)] w (oL ⟨cl,fin,l.set i (T.lh (T.tr l i)),0⟩ w))
 (c6:∀i:Nat,i<l.length->T.aF cap cl fin l=true->(T.tr l i).cZ=1->i+1≠l.length->(T.tr l i).nx=(T.tr l i).st+(T.tr l i).len->Calls prog F #[.int .i64 cap,au cl fin sv,.int .i64 ((i:Int)+1)] w (oL ⟨cl,fin,l.set i (T.lh (T.tr l i)),0⟩ w)):
 Calls prog F #[.int .i64 cap,au cl fin sv,.int .i64 number] w (oL (aY cap cl fin l number) w):=by
 unfold aY;cases hV:T.aF cap cl fin l with
 | false=>rw[zj rfl]; exact c1 hV
 | true=>
   rw[zi (by simp)];by_cases hn:number<1\/(l.length:Int)<number
   ·rw[zj hn]; exact c2 hV hn
   ·rw[zi hn];obtain⟨i,rfl⟩:∃i:Nat,number=(i:Int)+1:=⟨(number - 1).toNat,by omega⟩;have hi:i<l.length:=by omega
    have e:((i:Int)+1).toNat - 1=i:=by omega
    rw[e];by_cases hs:(T.tr l i).cZ=1
    ·by_cases hl:i+1=l.length
     ·rw[zi (by simp[wS,hs,hl])]; exact c5 i hi hV hs hl
     ·by_cases hx:(T.tr l i).nx=(T.tr l i).st+(T.tr l i).len
      ·rw[zi (by simp[wS,hs,hx])]; exact c6 i hi hV hs hl hx
      ·rw[zj (by simp[wS,hl,hx])]; exact c4 i hi hV hs hl hx
    ·rw[zj (by simp[wS,hs])]; exact c3 i hi hV hs
theorem Fz(cap cl:Int)(fin:Bool)(sv:Value)(l:List T.az)(number:Int)(w:World)(hr:aW w sv l)(hf:nC l):
 Calls prog 158 #[.int .i64 cap,au cl fin sv,.int .i64 number] w (oL (aY cap cl fin l number) w):=
 Fv cap cl fin sv l number w (fun h=>JY cap cl fin sv l number w hr hf h) (fun h hn=>JZ cap cl fin sv l number w hr hf h hn) (fun i hi hV hs=>J3 cap cl fin sv l i w hr hf hi hV hs)
  (fun i hi hV hs hl hx=>J4 cap cl fin sv l i w hr hf hi hV hs hl hx) (fun i hi hV hs hl=>J5 cap cl fin sv l i w hr hf hi hV hs hl) (fun i hi hV hs hl hx=>J6 cap cl fin sv l i w hr hf hi hV hs hl hx)
end
end Go.Proofs.YtfnehkmhcmkhjaaGreat
