/- Parts -/
import Derived.Test.YtfnehkmhcmkhjaaGreatDu24
import Derived.Test.YtfnehkmhcmkhjaaGreatDu25
set_option maxRecDepth 100000
set_option maxHeartbeats 8000000
set_option linter.unusedVariables false
namespace Go.Proofs.YtfnehkmhcmkhjaaGreat
open Tryz
namespace T7
open Go Go.RowKit Ih
structure Good (s:List UInt8) (aj:Int) (d:List UInt8):Prop where
 len:s.length=2352
 dl:d.length=2048
 h0:-150<=aj
 h1:aj<=449849
 eq:s.take 2076=(OG aj d).take 2076
theorem MR{s t:List UInt8}{n lo hi:Nat}(h:s.take n=t.take n)(hh:hi<=n):(s.drop lo).take (hi-lo)=(t.drop lo).take (hi-lo):=by
 have e:∀u:List UInt8,(u.drop lo).take (hi-lo)=((u.take n).drop lo).take (hi-lo):=λu=>by rw[List.drop_take,List.take_take,XU (by omega)]
 rw[e s,e t,h]
theorem afR(a b c:List UInt8){lo hi:Nat}(hl:lo=a.length)(hh:hi=lo+b.length):(((a++b)++c).drop lo).take (hi-lo)=b:=by subst hl hh;rw[Yz,List.drop_left,show a.length+b.length-a.length=b.length from by omega,List.take_left]
section
variable {s d:List UInt8} {aj:Int}
theorem Good.head(h:Good s aj d):s.take 2064=eY aj d:=by have e:=MR (lo:=0) (hi:=2064) h.eq (by omega);rw[List.drop_zero,List.drop_zero]at e;have hb:=pV aj h.dl;rw[show 2064-0=2064 from rfl]at e;rw[e];unfold OG;rw[Yz,Xw (by omega),YE (by omega)]
theorem Good.code(h:Good s aj d):(s.drop 2064).take (2068-2064)=mD (uJ 0 (eY aj d)):=by rw[MR h.eq (by omega)];unfold OG;exact afR _ _ _ (pV aj h.dl).symm (by rw[qg])
theorem Good.zero(h:Good s aj d):(s.drop 2068).take (2076-2068)=List.replicate 8 0:=by
 rw[MR h.eq (by omega)];unfold OG;have hl:(eY aj d++mD (uJ 0 (eY aj d))).length=2068:=by rw[Yb,pV aj h.dl,qg]
 rw[show(2068:Nat)=(eY aj d++mD (uJ 0 (eY aj d))).length from hl.symm,List.drop_left,hl,List.take_replicate];rfl
theorem Good.sync(h:Good s aj d):s.take 12=oU:=by have e:=Yp (List.take 12) h.head;rw[List.take_take,XU (by omega)]at e;rw[e];unfold eY;rw[Yz,Yz,Xw (by decide)];rfl
theorem Good.data(h:Good s aj d):(s.drop 16).take (2064-16)=d:=by
 have e:(s.drop 16).take (2064-16)=(eY aj d).drop 16:=by rw[<-h.head,List.drop_take]
 rw[e];unfold eY;have hl:(oU++nD aj++[1]).length=16:=by simp[sV,oU]
 rw[show(16:Nat)=(oU++nD aj++[1]).length from hl.symm,List.drop_left]
theorem Good.byte(h:Good s aj d){k:Nat}(hk:k<2064):G.ix s k=G.ix (eY aj d) k:=by rw[<-h.head];unfold G.ix;rw[Ya,Ya,List.getElem?_take_of_lt hk]
theorem I9(aj:Int)(d:List UInt8):G.ix (eY aj d) 15=1:=by unfold eY;rfl
end
theorem adH(s:List UInt8)(hl:s.length=2352)(h15:G.ix s 15=1)(w:World):Calls prog 146 #[.string (str s)] w λe w'=>e=.returned (.tuple #[.int .i64 0,.int .i64 0])/\w=w':=by
 have hx:=λW=>Nu (P:=prog) underlying9 s 15 (by omega) 15 rfl W
 have e:bn s 15=1:=by unfold bn;rw[h15];rfl
 rw[e]at hx;have hsz:=au s;rw[hl]at hsz;have hsz2:(str s).data.size=2352:=hsz;clear e hl h15;generalize str s=S at *;go_enter func146,ntmps146;go_wp2_with fail;go_ret2;exact⟨rfl,rfl⟩
def afN(b:Nat)(S E H:ByteArray)(i:Nat)(v:Value)(W:World):Prop:=match i with
 |0=>v=.string S
 |1=>v=.agg #[.int .u8 1,.int .i64 16,.int .i64 2048,.int .i64 0]
 |2=>v=.int .i64 2064
 |3=>v=.string H
 |4=>v=.pointer (some ⟨b,3,none⟩)
 |5=>v=.int .i64 0
 |6=>v=.string E
 |7=>v=.string S
 |8=>v=.agg #[.int .u8 1,.int .i64 16,.int .i64 2048,.int .i64 0]
 |9=>v=.int .i64 2064
 |10=>v=.agg #[.int .u8 1,.int .i64 16,.int .i64 2048,.int .i64 0]
 |11=>v=.int .i64 2064
 |12=>v=.int .i64 2068
 |13=>v=.string E
 |14=>v=.bool true
 |15=>v=.bool true
 |_=>True
theorem ZJ(b:Nat)(S E H:ByteArray)(i:Nat)(v:Value)(W W':World)(hR:(λw W=>Below w.heap.size w W) W W')(h:afN b S E H i v W):afN b S E H i v W':=by unfold afN at h ⊢;split at h <;> first|exact h
theorem afM{s d:List UInt8}{aj:Int}(h:Good s aj d)(w:World):Calls prog 149 #[.string (str s)] w λe w'=>e=.returned (.bool true)/\Below w.heap.size w w':=by
 have h15:G.ix s 15=1:=by rw[h.byte (by omega),I9]
 have HK:=zH (λW=>adH s h.len h15 W);have HL:=zH uT;have HE:=zH Je;unfold Qe at HL HE;have hl1:=h.len;have hbl:=pV aj h.dl;have s1:=λW=>Gl (P:=prog) underlying9 s 2064 (by omega) 2064 rfl W
 rw[h.head]at s1;have s2:=λW=>Gj (P:=prog) underlying9 s 2064 2068 (by omega) (by omega) 2064 2068 rfl rfl W
 rw[h.code]at s2;have HC:=zH (λW=>OY (eY aj d) (by omega) W);generalize mD (uJ 0 (eY aj d))=EB at *;generalize eY aj d=BH at *;generalize str s=S at *;obtain⟨E,hE⟩:∃E,E=str EB:=⟨_,rfl⟩;obtain⟨H,hH⟩:∃H,H=str BH:=⟨_,rfl⟩;rw[<-hE]at s2 HC;rw[<-hH]at s1 HC;clear hE hH h h15 hl1 hbl;go_enter func149,ntmps149;go_wp2_with fail;refine(HK.out w).mono ?_;rintro e w' ⟨rfl,rfl⟩;go_wp2_with fail;refine(HL.out w).mono ?_;rintro e w1 ⟨rfl,hb1⟩;obtain⟨b,hb⟩:∃b,b=w1.heap.size:=⟨_,rfl⟩;obtain⟨w2,hw2⟩:∃w2,w2=w1.alloc (.cells #[.int .u8 1,.int .i64 16,.int .i64 2048,.int .i64 0] 231):=⟨_,rfl⟩;have hA:=(zB w1.heap.size w1).alloc (zl _) (.cells #[.int .u8 1,.int .i64 16,.int .i64 2048,.int .i64 0] 231);rw[<-hw2]at hA;have hx:Bx w2 b 231 [.int .u8 1,.int .i64 16,.int .i64 2048,.int .i64 0]:=by rw[hw2,hb];exact Bx.new w1 _ _
 have HA:=zH (hb1.trans (hA.mono hb1.size));have ny:=zH (λW (hW:Below w2.heap.size w2 W)=>hx.call hW);have HW2:Hid (w1.alloc (.cells #[.int .u8 1,.int .i64 16,.int .i64 2048,.int .i64 0] 231)=w2):=zH hw2.symm;have HB:=zH hb;clear hb1 hA hx hw2 hb;go_upto_region 5 with (fail)
 rw[HW2.out,<-HB.out];refine fP (by kernel_rfl) (λw W=>Below w.heap.size w W) (λW=>Below w2.heap.size w2 W) (afN b S E H) (λ_=>false) (by kernel_rfl) (λ_ _ hR hc=>hc.trans (hR.mono hc.size)) (ZJ b S E H) ((zB _ _).drew) ⟨?_,?s1,?s2,?s3,?_,?s5,?s6,?_,?s8,?s9,?s10,?s11,?_,?s13,?_,?_,trivial⟩ ?_;all_goals first
  | (intro a W hc hsz hold ah
     have o0:a.tmps.getD 0 undef=.string S:=hold 0 (by kernel_rfl);have o5:a.tmps.getD 5 undef=.pointer (some ⟨b,0,none⟩):=hold 5 (by kernel_rfl);try have d6:=zV 25 (.string E) (ah 6 rfl rfl _ rfl)
     try have d11:=zV 30 (.int .i64 2064) (ah 11 rfl rfl _ rfl)
     try have d13:=zV 32 (.string E) (ah 13 rfl rfl _ rfl)
     try have d14:=zV 33 (.bool true) (ah 14 rfl rfl _ rfl)
     clear hsz hold ah;refine ai rfl (ag rfl) ?_;refine ak (zB _ _) rfl λK hK=>?_
     go_simp;exact hK)
  |skip
 try case s1=>
  intro a W hc hsz hold ah;have o5:a.tmps.getD 5 undef=.pointer (some ⟨b,0,none⟩):=hold 5 (by kernel_rfl);have q0:=(ny.out W hc).cell (i:=0) rfl;have q1:=(ny.out W hc).cell (i:=1) rfl;have q2:=(ny.out W hc).cell (i:=2) rfl;have q3:=(ny.out W hc).cell (i:=3) rfl;clear hsz hold ah;refine ai rfl (ag rfl) ?_;refine ak (v:=.agg #[.int .u8 1,.int .i64 16,.int .i64 2048,.int .i64 0]) (zB _ _) rfl λK hK=>?_
  go_simp;exact hK
 try case s2=>
  intro a W hc hsz hold ah;have d1:=zV 20 (.agg #[.int .u8 1,.int .i64 16,.int .i64 2048,.int .i64 0]) (ah 1 rfl rfl _ rfl);have e1:=zq d1;clear hsz hold ah;refine ai rfl (ag rfl) ?_;refine eG (v:=.int .i64 2064) (λW' hb=>hb) (λ_=>rfl) λK hK=>?_
  go_simp;refine(HE.out W).mono ?_;rintro e w' ⟨rfl,hb'⟩;exact hK _ hb'
 try case s3=>
  intro a W hc hsz hold ah;have d0:=zV 19 (.string S) (ah 0 rfl rfl _ rfl);have d2:=zV 21 (.int .i64 2064) (ah 2 rfl rfl _ rfl);have q:=s1;clear hsz hold ah;refine ai rfl (ag rfl) ?_;refine ak (v:=.string H) (zB _ _) rfl λK hK=>?_
  go_simp;exact hK
 try case s5=>
  intro a W hc hsz hold ah;have d4:=zV 23 (.pointer (some ⟨b,3,none⟩)) (ah 4 rfl rfl _ rfl);have q3:=(ny.out W hc).cell (i:=3) rfl;clear hsz hold ah;refine ai rfl (ag rfl) ?_;refine ak (v:=.int .i64 0) (zB _ _) rfl λK hK=>?_
  go_simp;exact hK
 try case s6=>
  intro a W hc hsz hold ah;have d3:=zV 22 (.string H) (ah 3 rfl rfl _ rfl);have e3:=zq d3;have d5:=zV 24 (.int .i64 0) (ah 5 rfl rfl _ rfl);have e5:=zq d5;clear hsz hold ah;refine ai rfl (ag rfl) ?_;refine eG (v:=.string E) (λW' hb=>hb) (λ_=>rfl) λK hK=>?_
  go_simp;refine(HC.out W).mono ?_;rintro e w' ⟨rfl,hb'⟩;exact hK _ hb'
 try case s8=>
  intro a W hc hsz hold ah;have o5:a.tmps.getD 5 undef=.pointer (some ⟨b,0,none⟩):=hold 5 (by kernel_rfl);have q0:=(ny.out W hc).cell (i:=0) rfl;have q1:=(ny.out W hc).cell (i:=1) rfl;have q2:=(ny.out W hc).cell (i:=2) rfl;have q3:=(ny.out W hc).cell (i:=3) rfl;clear hsz hold ah;refine ai rfl (ag rfl) ?_;refine ak (v:=.agg #[.int .u8 1,.int .i64 16,.int .i64 2048,.int .i64 0]) (zB _ _) rfl λK hK=>?_
  go_simp;exact hK
 try case s9=>
  intro a W hc hsz hold ah;have d8:=zV 27 (.agg #[.int .u8 1,.int .i64 16,.int .i64 2048,.int .i64 0]) (ah 8 rfl rfl _ rfl);have e8:=zq d8;clear hsz hold ah;refine ai rfl (ag rfl) ?_;refine eG (v:=.int .i64 2064) (λW' hb=>hb) (λ_=>rfl) λK hK=>?_
  go_simp;refine(HE.out W).mono ?_;rintro e w' ⟨rfl,hb'⟩;exact hK _ hb'
 try case s10=>
  intro a W hc hsz hold ah;have o5:a.tmps.getD 5 undef=.pointer (some ⟨b,0,none⟩):=hold 5 (by kernel_rfl);have q0:=(ny.out W hc).cell (i:=0) rfl;have q1:=(ny.out W hc).cell (i:=1) rfl;have q2:=(ny.out W hc).cell (i:=2) rfl;have q3:=(ny.out W hc).cell (i:=3) rfl;clear hsz hold ah;refine ai rfl (ag rfl) ?_;refine ak (v:=.agg #[.int .u8 1,.int .i64 16,.int .i64 2048,.int .i64 0]) (zB _ _) rfl λK hK=>?_
  go_simp;exact hK
 try case s11=>
  intro a W hc hsz hold ah;have d10:=zV 29 (.agg #[.int .u8 1,.int .i64 16,.int .i64 2048,.int .i64 0]) (ah 10 rfl rfl _ rfl);have e10:=zq d10;clear hsz hold ah;refine ai rfl (ag rfl) ?_;refine eG (v:=.int .i64 2064) (λW' hb=>hb) (λ_=>rfl) λK hK=>?_
  go_simp;refine(HE.out W).mono ?_;rintro e w' ⟨rfl,hb'⟩;exact hK _ hb'
 try case s13=>
  intro a W hc hsz hold ah;have d7:=zV 26 (.string S) (ah 7 rfl rfl _ rfl);have d9:=zV 28 (.int .i64 2064) (ah 9 rfl rfl _ rfl);have d12:=zV 31 (.int .i64 2068) (ah 12 rfl rfl _ rfl);have q:=s2;clear hsz hold ah;refine ai rfl (ag rfl) ?_;refine ak (v:=.string E) (zB _ _) rfl λK hK=>?_
  go_simp;exact hK
 ·intro a W hC hd hsz hold hval;have d2:a.tmps.getD 2 undef=.bool true:=hval 15 _ rfl rfl;obtain⟨G,hG,ha⟩:=dK [2,19,20,21,22,23,24,25,26,27,28,29,30,31,32,33] (by kernel_rfl) hd hsz hold;simp only[hG]at d2;rw[ha];clear ha hG hd hsz hold;simp only[cZ,Ym,List.set,d2];clear d2;have HC2:=zH (HA.out.trans (hC.mono HA.out.size));clear hval hC;go_wp2_with fail;go_ret;exact⟨rfl,HC2.out⟩
theorem xO{x:Int}(h0:0<=x)(h1:x<=255):((by8 x).toNat:Int)=x:=by unfold by8;rw[UInt8.toNat_ofNat'];omega
theorem SC{n:Int}(h0:0<=n)(h1:n<=99):0<=uH n/\uH n<=255:=by unfold uH;omega
theorem acb(aj:Int)(d:List UInt8):G.ix (eY aj d) 12=by8 (uH (Q.mM (aj+150)))/\G.ix (eY aj d) 13=by8 (uH (Q.mS (aj+150)))/\G.ix (eY aj d) 14=by8 (uH (Q.mF (aj+150))):=⟨rfl,rfl,rfl⟩
theorem Good.CY{s d:List UInt8}{aj:Int}(h:Good s aj d):bn s 12=uH (Q.mM (aj+150))/\bn s 13=uH (Q.mS (aj+150))/\bn s 14=uH (Q.mF (aj+150)):=by obtain⟨h1,h2,h3,h4,h5,h6⟩:=Dq h.h0 h.h1;obtain⟨e1,e2,e3⟩:=acb aj d;unfold bn;rw[h.byte (by omega),h.byte (by omega),h.byte (by omega),e1,e2,e3];have b1:=SC h1 h2;have b2:=SC h3 (by omega);have b3:=SC h5 (by omega);exact⟨xO b1.1 b1.2,xO b2.1 b2.2,xO b3.1 b3.2⟩
theorem Good.dec{s d:List UInt8}{aj:Int}(h:Good s aj d)(w:World):Calls prog 148 #[.string (str s),.int .i64 12] w λe w'=>e=.returned (.tuple #[jK (Q.mM (aj+150)) (Q.mS (aj+150)) (Q.mF (aj+150)),.int .i64 0])/\Below w.heap.size w w':=by
 obtain⟨h1,h2,h3,h4,h5,h6⟩:=Dq h.h0 h.h1;obtain⟨e1,e2,e3⟩:=h.CY;have hq:=Sm s w h.len;rw[e1,e2,e3]at hq;have u1:=xk h1 h2;have u2:=xk h3 (show Q.mS (aj+150)<=99 by omega);have u3:=xk h5 (show Q.mF (aj+150)<=99 by omega);have hok:okD (uH (Q.mM (aj+150))) (uH (Q.mS (aj+150))) (uH (Q.mF (aj+150))):=by unfold okD;rw[u1,u2,u3];exact⟨rfl,rfl,rfl,ahY ⟨h1,h2,h3,h4,h5,h6⟩⟩
 obtain⟨d1,d2,d3,d4⟩:=aii hok;unfold zU at hq;rw[d1,d2,d3,d4,u1,u2,u3]at hq;exact hq
def WV(b B:Nat)(S D:ByteArray)(i:Nat)(v:Value)(d:Nat->Value)(W:World):Prop:=match i with
 |0=>v=.int .i64 0
 |1=>v=.string S
 |2=>v=.pointer (some ⟨b,1,none⟩)
 |3=>v=.int .i64 16
 |4=>v=.agg #[.int .u8 1,.int .i64 16,.int .i64 2048,.int .i64 0]
 |5=>v=.int .i64 2064
 |6=>v=.string D
 |7=>v=.agg #[.int .i64 0,.int .i64 0,.int .i64 0,.int .i64 0,.int .i64 0,.int .i64 0,.string D]
 |8=>∃g,v=.pointer (some ⟨g,0,none⟩)/\B<=g/\∃cs:List Value,cs.length=7/\Bx W g 157 cs
 |9=>∃g,d 8=.pointer (some ⟨g,0,none⟩)/\B<=g/\Bx W g 157 [.int .i64 0,.int .i64 0,.int .i64 0,.int .i64 0,.int .i64 0,.int .i64 0,.string D]
 |_=>True
theorem UR(b B:Nat)(S D:ByteArray)(i:Nat)(v:Value)(d:Nat->Value)(W W':World)(hR:(nC B 157 [.int .i64 0,.int .i64 0,.int .i64 0,.int .i64 0,.int .i64 0,.int .i64 0,.string D]) W W')(h:WV b B S D i v d W):WV b B S D i v d W':=by
 by_cases h8:i=8
 ·subst h8;obtain⟨g,h1,h2,h3⟩:=h;exact⟨g,h1,h2,hR.2.1 g h3⟩
 by_cases h9:i=9
 ·subst h9;obtain⟨g,h1,h2,h3⟩:=h;exact⟨g,h1,h2,hR.2.2 g h3⟩
 unfold WV at h ⊢;split at h <;> first|exact h|exact absurd rfl h8|exact absurd rfl h9
def WW(bY:Nat)(S Y:ByteArray)(i:Nat)(v:Value)(W:World):Prop:=match i with
 |0=>v=.int .i64 0
 |1=>v=.bool true
 |2=>v=.bool true
 |3=>v=.string S
 |4=>v=.string Y
 |5=>v=.slice (some ⟨bY,0,none⟩) 12 12
 |6=>v=.string Y
 |7=>v=.bool true
 |8=>v=.bool true
 |9=>v=.bool true
 |_=>True
theorem UT(bY:Nat)(S Y:ByteArray)(i:Nat)(v:Value)(W W':World)(hR:(λw W=>Below w.heap.size w W) W W')(h:WW bY S Y i v W):WW bY S Y i v W':=by unfold WW at h ⊢;split at h <;> first|exact h
def Nb(b:Nat)(S ZS:ByteArray)(i:Nat)(v:Value)(W:World):Prop:=match i with
 |0=>v=.bool true
 |1=>v=.bool true
 |2=>v=.string S
 |3=>v=.agg #[.int .u8 1,.int .i64 16,.int .i64 2048,.int .i64 0]
 |4=>v=.int .i64 2064
 |5=>v=.int .i64 2068
 |6=>v=.string ZS
 |7=>∃g,v=.slice (some ⟨g,0,none⟩) 8 8/\Bx W g 5 (bs (List.replicate 8 0))
 |8=>v=.string ZS
 |9=>v=.bool true
 |10=>v=.bool true
 |11=>v=.bool true
 |_=>True
theorem QO(b:Nat)(S ZS:ByteArray)(i:Nat)(v:Value)(W W':World)(hR:(λw W=>Below w.heap.size w W) W W')(h:Nb b S ZS i v W):Nb b S ZS i v W':=by
 by_cases h7:i=7
 ·subst h7;obtain⟨g,h1,h2⟩:=h;exact⟨g,h1,h2.call hR⟩
 unfold Nb at h ⊢;split at h <;> first|exact h|exact absurd rfl h7
theorem ahe{s d:List UInt8}{aj:Int}(h:Good s aj d)(w:World):Calls prog 75 #[.string (str s)] w λe w'=>e=.returned (.tuple #[Q5 aj d,.int .i64 0])/\Below w.heap.size w w':=by
 have h15:G.ix s 15=1:=by rw[h.byte (by omega),I9]
 have HK:=zH (λW=>adH s h.len h15 W);have HL:=zH uT;have HE:=zH Je;have HCK:=zH (λW=>afM h W);have HAD:=zH (λW=>h.dec W);have HSY:=zH Rk;have HLB:=zH (λW=>agS (Q.mM (aj+150)) (Q.mS (aj+150)) (Q.mF (aj+150)) W (ahY (Dq h.h0 h.h1)));have hnm:nmb (Q.mM (aj+150)) (Q.mS (aj+150)) (Q.mF (aj+150))-150=aj:=by unfold nmb Q.mM Q.mS Q.mF;omega
 rw[hnm]at HLB;have hmv:jK (Q.mM (aj+150)) (Q.mS (aj+150)) (Q.mF (aj+150))=.agg #[.int .i64 (Q.mM (aj+150)),.int .i64 (Q.mS (aj+150)),.int .i64 (Q.mF (aj+150))]:=rfl;rw[hmv]at HLB HAD;generalize Q.mM (aj+150)=qm at *;generalize Q.mS (aj+150)=qs at *;generalize Q.mF (aj+150)=qf at *;unfold Qe at HL HE;unfold Q5;have hsv:syV = [.int .u8 0,.int .u8 255,.int .u8 255,.int .u8 255,.int .u8 255,.int .u8 255,.int .u8 255,.int .u8 255,.int .u8 255,.int .u8 255,.int .u8 255,.int .u8 0]:=by kernel_rfl
 have KG:=zH hsv;rw[hsv]at HSY;have hl1:=h.len;have s1:=λW=>Gj (P:=prog) underlying9 s 16 2064 (by omega) (by omega) 16 2064 rfl rfl W
 rw[h.data]at s1;have s2:=λW=>Gl (P:=prog) underlying9 s 12 (by omega) 12 rfl W
 rw[h.sync]at s2;have s3:=λW=>Gj (P:=prog) underlying9 s 2068 2076 (by omega) (by omega) 2068 2076 rfl rfl W
 rw[h.zero]at s3;obtain⟨Z,hZ⟩:∃Z:List UInt8,Z=List.replicate 8 0:=⟨_,rfl⟩;have HZ:=zH hZ;rw[<-hZ]at s3;generalize hS:str s=S at *;obtain⟨D,hD⟩:∃D,D=str d:=⟨_,rfl⟩;obtain⟨Y,hY⟩:∃Y,Y=str oU:=⟨_,rfl⟩;obtain⟨ZS,hZS⟩:∃ZS,ZS=str Z:=⟨_,rfl⟩;have HYS:=zH hY;have HZS:=zH hZS;rw[<-hD]at s1 ⊢;rw[<-hY]at s2;rw[<-hZS]at s3;clear hsv hmv hnm hZ hS hD hY hZS h h15 hl1;go_enter func75,ntmps75;go_upto_region 1 with (fail)
 obtain⟨ob,hob⟩:∃ob,ob=w.heap.size:=⟨_,rfl⟩;obtain⟨w1,hw1⟩:∃w1,w1=w.alloc (.cells #[.int .i64 0,.int .i64 0,.int .i64 0,.int .i64 0,.int .i64 0,.int .i64 0,.string ⟨#[]⟩] 157):=⟨_,rfl⟩;have hA1:=(zB w.heap.size w).alloc (zl _) (.cells #[.int .i64 0,.int .i64 0,.int .i64 0,.int .i64 0,.int .i64 0,.int .i64 0,.string ⟨#[]⟩] 157);rw[<-hw1]at hA1;have ho1:Bx w1 ob 157 [.int .i64 0,.int .i64 0,.int .i64 0,.int .i64 0,.int .i64 0,.int .i64 0,.string ⟨#[]⟩]:=by rw[hw1,hob];exact Bx.new w _ _
 have HO1:=zH ho1;have HA1:=zH hA1;have G7:=zH hob;rw[<-hw1,<-hob];clear hA1 ho1 hob hw1;go_wp2_with fail;refine(HK.out w1).mono ?_;rintro e w' ⟨rfl,rfl⟩;go_wp2_with fail;refine(HL.out w1).mono ?_;rintro e w2 ⟨rfl,hb2⟩;obtain⟨b,hb⟩:∃b,b=w2.heap.size:=⟨_,rfl⟩;obtain⟨w3,hw3⟩:∃w3,w3=w2.alloc (.cells #[.int .u8 1,.int .i64 16,.int .i64 2048,.int .i64 0] 231):=⟨_,rfl⟩;have hA:=(zB w2.heap.size w2).alloc (zl _) (.cells #[.int .u8 1,.int .i64 16,.int .i64 2048,.int .i64 0] 231);rw[<-hw3]at hA;have hx:Bx w3 b 231 [.int .u8 1,.int .i64 16,.int .i64 2048,.int .i64 0]:=by rw[hw3,hb];exact Bx.new w2 _ _
 have hb3:=hb2.trans (hA.mono hb2.size);have HO3:=zH (HO1.out.call hb3);have HA3:=zH (HA1.out.trans (hb3.mono HA1.out.size));have HB3:=zH hx;have ny:=zH (λW (hW:Below w3.heap.size w3 W)=>hx.call hW);have HW3:Hid (w2.alloc (.cells #[.int .u8 1,.int .i64 16,.int .i64 2048,.int .i64 0] 231)=w3):=zH hw3.symm;have HB:=zH hb;clear hb2 hA hx hw3 hb hb3;go_upto_region 5 with (fail)
 rw[HW3.out,<-HB.out];obtain⟨B,hBB⟩:∃B,B=w3.heap.size:=⟨_,rfl⟩;have zX:=zH hBB;clear hBB;refine fO (by kernel_rfl) (nC B 157 [.int .i64 0,.int .i64 0,.int .i64 0,.int .i64 0,.int .i64 0,.int .i64 0,.string D]) (λW=>Below w3.heap.size w3 W) (WV b B S D) (λ_=>false) (by kernel_rfl) (λ_ _ hR hc=>hc.trans (hR.1.mono (by rw[zX.out];exact zl _))) (UR b B S D) ((zB _ _).drew) ⟨?_,?_,?_,?s3,?s4,?s5,?s6,?s7,?s8,?s9,trivial⟩ ?_;all_goals first
  | (intro a W hc hsz hold ah
     have o0:a.tmps.getD 0 undef=.string S:=hold 0 (by kernel_rfl);have o4:a.tmps.getD 4 undef=.int .i64 0:=hold 4 (by kernel_rfl);have o6:a.tmps.getD 6 undef=.pointer (some ⟨b,0,none⟩):=hold 6 (by kernel_rfl);clear hsz hold ah;refine ai rfl (ag rfl) ?_;refine ay nC.refl rfl λK hK=>?_
     go_simp;exact hK)
  |skip
 try case s3=>
  intro a W hc hsz hold ah;have d2:=zV 29 (.pointer (some ⟨b,1,none⟩)) (ah 2 rfl rfl _ rfl);have q1:=(ny.out W hc).cell (i:=1) rfl;clear hsz hold ah;refine ai rfl (ag rfl) ?_;refine ay (v:=.int .i64 16) nC.refl rfl λK hK=>?_
  go_simp;exact hK
 try case s4=>
  intro a W hc hsz hold ah;have o6:a.tmps.getD 6 undef=.pointer (some ⟨b,0,none⟩):=hold 6 (by kernel_rfl);have q0:=(ny.out W hc).cell (i:=0) rfl;have q1:=(ny.out W hc).cell (i:=1) rfl;have q2:=(ny.out W hc).cell (i:=2) rfl;have q3:=(ny.out W hc).cell (i:=3) rfl;clear hsz hold ah;refine ai rfl (ag rfl) ?_;refine ay (v:=.agg #[.int .u8 1,.int .i64 16,.int .i64 2048,.int .i64 0]) nC.refl rfl λK hK=>?_
  go_simp;exact hK
 try case s5=>
  intro a W hc hsz hold ah;have d4:=zV 31 (.agg #[.int .u8 1,.int .i64 16,.int .i64 2048,.int .i64 0]) (ah 4 rfl rfl _ rfl);have e4:=zq d4;clear hsz hold ah;refine ai rfl (ag rfl) ?_;refine rP (v:=.int .i64 2064) (λW' hb=>nC.call (by rw[zX.out];exact hc.size) hb) (λ_=>rfl) λK hK=>?_
  go_simp;refine(HE.out W).mono ?_;rintro e w' ⟨rfl,hb'⟩;exact hK _ hb'
 try case s6=>
  intro a W hc hsz hold ah;have d1:=zV 28 (.string S) (ah 1 rfl rfl _ rfl);have d3:=zV 30 (.int .i64 16) (ah 3 rfl rfl _ rfl);have d5:=zV 32 (.int .i64 2064) (ah 5 rfl rfl _ rfl);have q:=s1;clear hsz hold ah;refine ai rfl (ag rfl) ?_;refine ay (v:=.string D) nC.refl rfl λK hK=>?_
  go_simp;exact hK
 try case s7=>
  intro a W hc hsz hold ah;have d0:=zV 27 (.int .i64 0) (ah 0 rfl rfl _ rfl);have e0:=zq d0;have d6:=zV 33 (.string D) (ah 6 rfl rfl _ rfl);have e6:=zq d6;clear hsz hold ah;refine ai rfl (ag rfl) ?_;refine ay (v:=.agg #[.int .i64 0,.int .i64 0,.int .i64 0,.int .i64 0,.int .i64 0,.int .i64 0,.string D]) nC.refl rfl λK hK=>?_
  go_simp;exact hK
 try case s8=>
  intro a W hc hsz hold ah;clear hsz hold ah;refine ai rfl (ag rfl) ?_;refine dA (v:=.pointer (some ⟨W.heap.size,0,none⟩)) (nC.alloc (by rw[zX.out];exact hc.size) (.cells #[.int .i64 0,.int .i64 0,.int .i64 0,.int .i64 0,.int .i64 0,.int .i64 0,.string ⟨#[]⟩] 157)) ⟨W.heap.size,rfl,by rw[zX.out];exact hc.size,[.int .i64 0,.int .i64 0,.int .i64 0,.int .i64 0,.int .i64 0,.int .i64 0,.string ⟨#[]⟩],rfl,Bx.new _ _ _⟩ λK hK=>?_
  go_simp;exact hK
 try case s9=>
  intro a W hc hsz hold ah;have x8:=ah 8 rfl rfl _ rfl;have d7:=zV 34 (.agg #[.int .i64 0,.int .i64 0,.int .i64 0,.int .i64 0,.int .i64 0,.int .i64 0,.string D]) (ah 7 rfl rfl _ rfl);clear hsz hold ah;refine ai rfl (ag rfl) ?_;obtain⟨g,hg,hgB,cs,PR,BA⟩:=x8;replace hg:a.tmps.getD 8 undef=.pointer (some ⟨g,0,none⟩):=hg;have hlt:=BA.lt;have hf:=BA.free;obtain⟨u0,z0⟩:∃v,W.cell? ⟨g,0,none⟩=some v:=⟨_,BA.cell (Ye (by rw[PR];simp))⟩;obtain⟨u1,z1⟩:∃v,W.cell? ⟨g,1,none⟩=some v:=⟨_,BA.cell (Ye (by rw[PR];simp))⟩;obtain⟨u2,z2⟩:∃v,W.cell? ⟨g,2,none⟩=some v:=⟨_,BA.cell (Ye (by rw[PR];simp))⟩;obtain⟨u3,z3⟩:∃v,W.cell? ⟨g,3,none⟩=some v:=⟨_,BA.cell (Ye (by rw[PR];simp))⟩;obtain⟨u4,z4⟩:∃v,W.cell? ⟨g,4,none⟩=some v:=⟨_,BA.cell (Ye (by rw[PR];simp))⟩;obtain⟨u5,z5⟩:∃v,W.cell? ⟨g,5,none⟩=some v:=⟨_,BA.cell (Ye (by rw[PR];simp))⟩;obtain⟨u6,z6⟩:∃v,W.cell? ⟨g,6,none⟩=some v:=⟨_,BA.cell (Ye (by rw[PR];simp))⟩;refine dA (v:=undef) (nC.store hgB ⟨cs,PR,BA⟩) ⟨g,hg,hgB,BA.full PR⟩ λK hK=>?_
  clear BA PR;go_simp;exact hK
 ·intro a W hC hd hsz hold hval;obtain⟨gq,hgq,hqB,hQ⟩:=hval 9 _ rfl rfl;have d8:a.tmps.getD 8 undef=.pointer (some ⟨gq,0,none⟩):=hgq;clear hgq;obtain⟨G,hG,ha⟩:=dK [8,27,28,29,30,31,32,33,34] (by kernel_rfl) hd hsz hold;simp only[hG]at d8;rw[ha];clear ha hG hd hsz hold;simp only[cZ,Ym,List.set,d8];clear d8;have HO5:=zH (HO3.out.call hC);have HL5:=zH (HB3.out.call hC);have HA5:=zH (HA3.out.trans (hC.mono HA3.out.size));have HQ5:=zH hQ;have hog:ob<gq:=by have h1:=HO3.out.lt;have h2:=zX.out;omega
  have HOG:=zH hog;clear hval hC hQ hqB hog;go_wp2_with fail;refine(HAD.out W).mono ?_;rintro e w4 ⟨rfl,hb4⟩;obtain⟨bm,hbm⟩:∃bm,bm=w4.heap.size:=⟨_,rfl⟩;obtain⟨w5,hw5⟩:∃w5,w5=w4.alloc (.cells #[.int .i64 qm,.int .i64 qs,.int .i64 qf] 235):=⟨_,rfl⟩;have hA:=(zB w4.heap.size w4).alloc (zl _) (.cells #[.int .i64 qm,.int .i64 qs,.int .i64 qf] 235);rw[<-hw5]at hA;have hm:Bx w5 bm 235 [.int .i64 qm,.int .i64 qs,.int .i64 qf]:=by rw[hw5,hbm];exact Bx.new w4 _ _
  have hb5:=hb4.trans (hA.mono hb4.size);have HO6:=zH (HO5.out.call hb5);have HL6:=zH (HL5.out.call hb5);have HQ6:=zH (HQ5.out.call hb5);have HA6:=zH (HA5.out.trans (hb5.mono HA5.out.size));have HM6:=zH hm;have Ot:Hid (w4.alloc (.cells #[.int .i64 qm,.int .i64 qs,.int .i64 qf] 235)=w5):=zH hw5.symm;have HBM:=zH hbm;clear hb4 hA hm hw5 hbm hb5;go_upto_region 7 with (fail)
  rw[Ot.out,<-HBM.out];go_wp2_with fail;refine(HSY.out w5).mono ?_;rintro e w6 ⟨rfl,hb6⟩;obtain⟨bY,hbY⟩:∃bY,bY=w6.heap.size:=⟨_,rfl⟩;obtain⟨w7,hw7⟩:∃w7,w7=w6.alloc (.cells #[.int .u8 0,.int .u8 255,.int .u8 255,.int .u8 255,.int .u8 255,.int .u8 255,.int .u8 255,.int .u8 255,.int .u8 255,.int .u8 255,.int .u8 255,.int .u8 0] 239):=⟨_,rfl⟩;have hA:=(zB w6.heap.size w6).alloc (zl _) (.cells #[.int .u8 0,.int .u8 255,.int .u8 255,.int .u8 255,.int .u8 255,.int .u8 255,.int .u8 255,.int .u8 255,.int .u8 255,.int .u8 255,.int .u8 255,.int .u8 0] 239);rw[<-hw7]at hA;have hm:Bx w7 bY 239 [.int .u8 0,.int .u8 255,.int .u8 255,.int .u8 255,.int .u8 255,.int .u8 255,.int .u8 255,.int .u8 255,.int .u8 255,.int .u8 255,.int .u8 255,.int .u8 0]:=by rw[hw7,hbY];exact Bx.new w6 _ _
  have hb7:=hb6.trans (hA.mono hb6.size);have HO7:=zH (HO6.out.call hb7);have HL7:=zH (HL6.out.call hb7);have HQ7:=zH (HQ6.out.call hb7);have HM7:=zH (HM6.out.call hb7);have HA7:=zH (HA6.out.trans (hb7.mono HA6.out.size));have HY7:=zH hm;have HW7:Hid (w6.alloc (.cells #[.int .u8 0,.int .u8 255,.int .u8 255,.int .u8 255,.int .u8 255,.int .u8 255,.int .u8 255,.int .u8 255,.int .u8 255,.int .u8 255,.int .u8 255,.int .u8 0] 239)=w7):=zH hw7.symm;have HBY:=zH hbY;clear hb6 hA hm hw7 hbY hb7;go_upto_region 8 with (fail)
  rw[HW7.out,<-HBY.out];refine fP (by kernel_rfl) (λw W=>Below w.heap.size w W) (λW=>Below w7.heap.size w7 W) (WW bY S Y) (λ_=>false) (by kernel_rfl) (λ_ _ hR hc=>hc.trans (hR.mono hc.size)) (UT bY S Y) ((zB _ _).drew) ⟨?_,?_,?_,?s3,?s4,?s5,?s6,?s7,?_,?_,trivial⟩ ?_;all_goals first
   | (intro a W hc hsz hold ah
      have o5:a.tmps.getD 5 undef=.int .i64 0:=hold 5 (by kernel_rfl);try have d0:=zV 41 (.int .i64 0) (ah 0 rfl rfl _ rfl)
      try have d1:=zV 42 (.bool true) (ah 1 rfl rfl _ rfl)
      try have d2:=zV 43 (.bool true) (ah 2 rfl rfl _ rfl)
      try have d7:=zV 48 (.bool true) (ah 7 rfl rfl _ rfl)
      try have d8:=zV 49 (.bool true) (ah 8 rfl rfl _ rfl)
      clear hsz hold ah;refine ai rfl (ag rfl) ?_;refine ak (zB _ _) rfl λK hK=>?_
      go_simp;exact hK)
   |skip
  try case s3=>
   intro a W hc hsz hold ah;have o0:a.tmps.getD 0 undef=.string S:=hold 0 (by kernel_rfl);have g3:=zV 43 (.bool true) (ah 2 rfl rfl _ rfl);clear hsz hold ah;refine ai rfl ((aP (want:=true) rfl rfl g3).trans rfl) ?_;clear g3;refine ak (v:=.string S) (zB _ _) rfl λK hK=>?_
   go_simp;exact hK
  try case s4=>
   intro a W hc hsz hold ah;have d3:=zV 44 (.string S) (ah 3 rfl rfl _ rfl);have g4:=zV 43 (.bool true) (ah 2 rfl rfl _ rfl);have q:=s2;clear hsz hold ah;refine ai rfl ((aP (want:=true) rfl rfl g4).trans rfl) ?_;clear g4;refine ak (v:=.string Y) (zB _ _) rfl λK hK=>?_
   go_simp;exact hK
  try case s5=>
   intro a W hc hsz hold ah;have Og:a.tmps.getD 10 undef=.pointer (some ⟨bY,0,none⟩):=hold 10 (by kernel_rfl);have g5:=zV 43 (.bool true) (ah 2 rfl rfl _ rfl);clear hsz hold ah;refine ai rfl ((aP (want:=true) rfl rfl g5).trans rfl) ?_;clear g5;refine ak (v:=.slice (some ⟨bY,0,none⟩) 12 12) (zB _ _) rfl λK hK=>?_
   go_simp;exact hK
  try case s6=>
   intro a W hc hsz hold ah;have d5:=zV 46 (.slice (some ⟨bY,0,none⟩) 12 12) (ah 5 rfl rfl _ rfl);have g6:=zV 43 (.bool true) (ah 2 rfl rfl _ rfl);have hN:=(HY7.out.call hc);have ebs:[.int .u8 0,.int .u8 255,.int .u8 255,.int .u8 255,.int .u8 255,.int .u8 255,.int .u8 255,.int .u8 255,.int .u8 255,.int .u8 255,.int .u8 255,.int .u8 0]=bs oU:=by kernel_rfl
   rw[ebs]at hN;have hst:=eX (dst:=9) underlying65 underlying5 underlying9 (Rd.amD hN (by simp[oU]));replace hst:(convert 65 9 (.slice (some ⟨bY,0,none⟩) 12 12)).run prog W=.ok (.string (str oU)) W:=hst;rw[<-HYS.out]at hst;clear hN ebs;clear hsz hold ah;refine ai rfl ((aP (want:=true) rfl rfl g6).trans rfl) ?_;clear g6;refine ak (v:=.string Y) (zB _ _) rfl λK hK=>?_
   go_simp;exact hK
  try case s7=>
   intro a W hc hsz hold ah;have d4:=zV 45 (.string Y) (ah 4 rfl rfl _ rfl);have d6:=zV 47 (.string Y) (ah 6 rfl rfl _ rfl);have g7:=zV 43 (.bool true) (ah 2 rfl rfl _ rfl);clear hsz hold ah;refine ai rfl ((aP (want:=true) rfl rfl g7).trans rfl) ?_;clear g7;refine ak (v:=.bool true) (zB _ _) rfl λK hK=>?_
   go_simp;exact hK
  ·intro a W hC hd hsz hold hval;have d11:a.tmps.getD 11 undef=.bool true:=hval 9 _ rfl rfl;obtain⟨G,hG,ha⟩:=dK [11,41,42,43,44,45,46,47,48,49] (by kernel_rfl) hd hsz hold;simp only[hG]at d11;rw[ha];clear ha hG hd hsz hold;simp only[cZ,Ym,List.set,d11];clear d11;have HO8:=zH (HO7.out.call hC);have HL8:=zH (HL7.out.call hC);have HQ8:=zH (HQ7.out.call hC);have HM8:=zH (HM7.out.call hC);have HA8:=zH (HA7.out.trans (hC.mono HA7.out.size));clear hval hC;go_upto_region 10 with (fail)
   refine IV (by kernel_rfl) (λw W=>Below w.heap.size w W) (λW1=>Below W.heap.size W W1) (Nb b S ZS) (λ_=>false) (by kernel_rfl) (λ_ _ hR hc=>hc.trans (hR.mono hc.size)) (QO b S ZS) ((zB _ _).drew) ⟨?s0,?_,?s2,?s3,?s4,?s5,?s6,?s7,?s8,?s9,?_,?_,trivial⟩ ?_;all_goals first
    | (intro a W hc hsz hold ah hnot
       try have d0:=zV 52 (.bool true) (ah 0 rfl rfl _ rfl)
       try have d1:=zV 53 (.bool true) (ah 1 rfl rfl _ rfl)
       try have d9:=zV 61 (.bool true) (ah 9 rfl rfl _ rfl)
       try have d10:=zV 62 (.bool true) (ah 10 rfl rfl _ rfl)
       clear hsz hold ah hnot;refine ai rfl (ag rfl) ?_;refine ak (zB _ _) rfl λK hK=>?_
       go_simp;exact hK)
    |skip
   try case s0=>
    intro a W hc hsz hold ah hnot;have o11:a.tmps.getD 11 undef=.bool true:=hnot 11 _ 11 rfl rfl (by kernel_rfl);clear hsz hold ah hnot;refine ai rfl (ag rfl) ?_;refine ak (v:=.bool true) (zB _ _) rfl λK hK=>?_
    go_simp;exact hK
   try case s2=>
    intro a W hc hsz hold ah hnot;have o0:a.tmps.getD 0 undef=.string S:=hold 0 (by kernel_rfl);have g2:=zV 53 (.bool true) (ah 1 rfl rfl _ rfl);clear hsz hold ah hnot;refine ai rfl ((aP (want:=true) rfl rfl g2).trans rfl) ?_;clear g2;refine ak (v:=.string S) (zB _ _) rfl λK hK=>?_
    go_simp;exact hK
   try case s3=>
    intro a W hc hsz hold ah hnot;have o6:a.tmps.getD 6 undef=.pointer (some ⟨b,0,none⟩):=hold 6 (by kernel_rfl);have g3:=zV 53 (.bool true) (ah 1 rfl rfl _ rfl);have q0:=(HL8.out.call hc).cell (i:=0) rfl;have q1:=(HL8.out.call hc).cell (i:=1) rfl;have q2:=(HL8.out.call hc).cell (i:=2) rfl;have q3:=(HL8.out.call hc).cell (i:=3) rfl;clear hsz hold ah hnot;refine ai rfl ((aP (want:=true) rfl rfl g3).trans rfl) ?_;clear g3;refine ak (v:=.agg #[.int .u8 1,.int .i64 16,.int .i64 2048,.int .i64 0]) (zB _ _) rfl λK hK=>?_
    go_simp;exact hK
   try case s4=>
    intro a W hc hsz hold ah hnot;have d3:=zV 55 (.agg #[.int .u8 1,.int .i64 16,.int .i64 2048,.int .i64 0]) (ah 3 rfl rfl _ rfl);have e3:=zq d3;have g4:=zV 53 (.bool true) (ah 1 rfl rfl _ rfl);clear hsz hold ah hnot;refine ai rfl ((aP (want:=true) rfl rfl g4).trans rfl) ?_;clear g4;refine eG (v:=.int .i64 2064) (λW' hb=>hb) (λ_=>rfl) λK hK=>?_
    go_simp;refine(HE.out W).mono ?_;rintro e w' ⟨rfl,hb'⟩;exact hK _ hb'
   try case s5=>
    intro a W hc hsz hold ah hnot;have d4:=zV 56 (.int .i64 2064) (ah 4 rfl rfl _ rfl);have g5:=zV 53 (.bool true) (ah 1 rfl rfl _ rfl);clear hsz hold ah hnot;refine ai rfl ((aP (want:=true) rfl rfl g5).trans rfl) ?_;clear g5;refine ak (v:=.int .i64 2068) (zB _ _) rfl λK hK=>?_
    go_simp;exact hK
   try case s6=>
    intro a W hc hsz hold ah hnot;have d2:=zV 54 (.string S) (ah 2 rfl rfl _ rfl);have d5:=zV 57 (.int .i64 2068) (ah 5 rfl rfl _ rfl);have g6:=zV 53 (.bool true) (ah 1 rfl rfl _ rfl);have q:=s3;clear hsz hold ah hnot;refine ai rfl ((aP (want:=true) rfl rfl g6).trans rfl) ?_;clear g6;refine ak (v:=.string ZS) (zB _ _) rfl λK hK=>?_
    go_simp;exact hK
   try case s7=>
    intro a W hc hsz hold ah hnot;have g7:=zV 53 (.bool true) (ah 1 rfl rfl _ rfl);clear hsz hold ah hnot;refine ai rfl ((aP (want:=true) rfl rfl g7).trans rfl) ?_;obtain⟨i0,hi,hz0,hz1,hz2⟩:=info_parts infoU8s;obtain⟨W',hrun,r1,r2⟩:=run_make_full (P:=prog) (w:=W) W.heap.size 65 5 i0 _ 1 underlying65 hi hz0 hz1 .i64 .i64 8 (by rw[hz2];omega) (by unfold maxLen;omega) (zl _);have hbW:Below W.heap.size W W':=(zB _ _).grown r2 (zl _) (λk hk=>by cases hk);refine JY (v:=.slice (some ⟨W.heap.size,0,none⟩) 8 8) hbW ⟨_,rfl,Bx.bg (Au r1)⟩ λK hK=>?_
    clear hc r1 r2;unfold Oper.wp;rw[show((8:Nat):Int)=8 from rfl]at hrun;simp[execOp,Act.eval,hrun,Result.andThen];exact hK
   try case s8=>
    intro a W hc hsz hold ah hnot;have x7:=ah 7 rfl rfl _ rfl;have g8:=zV 53 (.bool true) (ah 1 rfl rfl _ rfl);clear hsz hold ah hnot;refine ai rfl ((aP (want:=true) rfl rfl g8).trans rfl) ?_;obtain⟨g,d7,hN⟩:=x7;replace d7:a.tmps.getD 59 undef=.slice (some ⟨g,0,none⟩) 8 8:=d7;have hst:=eX (dst:=9) underlying65 underlying5 underlying9 (Rd.amD hN (by simp));replace hst:(convert 65 9 (.slice (some ⟨g,0,none⟩) 8 8)).run prog W=.ok (.string (str (List.replicate 8 0))) W:=hst;rw[<-HZ.out,<-HZS.out]at hst;clear hN;refine ak (v:=.string ZS) (zB _ _) rfl λK hK=>?_
    go_simp;exact hK
   try case s9=>
    intro a W hc hsz hold ah hnot;have d6:=zV 58 (.string ZS) (ah 6 rfl rfl _ rfl);have d8:=zV 60 (.string ZS) (ah 8 rfl rfl _ rfl);have g9:=zV 53 (.bool true) (ah 1 rfl rfl _ rfl);clear hsz hold ah hnot;refine ai rfl ((aP (want:=true) rfl rfl g9).trans rfl) ?_;clear g9;refine ak (v:=.bool true) (zB _ _) rfl λK hK=>?_
    go_simp;exact hK
   ·intro a W hC hd hsz hold hval;have d11:a.tmps.getD 11 undef=.bool true:=hval 11 _ rfl rfl;obtain⟨G,hG,ha⟩:=dK [11,52,53,54,55,56,57,58,59,60,61,62] (by kernel_rfl) hd hsz hold;simp only[hG]at d11;rw[ha];clear ha hG hd hsz hold;simp only[cZ,Ym,List.set,d11];clear d11;have HOa:=zH (HO8.out.call hC);have HQa:=zH (HQ8.out.call hC);have HMa:=zH (HM8.out.call hC);have HAa:=zH (HA8.out.trans (hC.mono HA8.out.size));clear hval hC;go_wp2_with fail;refine(HCK.out _).mono ?_;rintro e wb ⟨rfl,hbb⟩;have HOb:=zH (HOa.out.call hbb);have HQb:=zH (HQa.out.call hbb);have HMb:=zH (HMa.out.call hbb);have HAb:=zH (HAa.out.trans (hbb.mono HAa.out.size));clear hbb;have m0:=HMb.out.cell (i:=0) rfl;have m1:=HMb.out.cell (i:=1) rfl;have m2:=HMb.out.cell (i:=2) rfl;go_upto_region 18 with (fail)
    go_wp2_with fail;refine(HLB.out _).mono ?_;rintro e wc ⟨rfl,hbc⟩;have hQ:=HQb.out.call hbc;have hO:=HOb.out.call hbc;have hle:=HAb.out.trans (hbc.mono HAb.out.size);clear hbc m0 m1 m2;have p0:=hQ.cell (i:=0) rfl;have hf:=hQ.free;have hlt:=hQ.lt;have hgw:w.heap.size<=gq:=by have h1:=HOG.out;have h2:=G7.out;omega
    have HQc:Hid (Bx (bK wc gq 0 [.int .i64 aj]) gq 157 [.int .i64 aj,.int .i64 0,.int .i64 0,.int .i64 0,.int .i64 0,.int .i64 0,.string D]):=zH (hQ.bK [.int .i64 aj] 0);have HOc:Hid (Bx (bK wc gq 0 [.int .i64 aj]) ob 157 [.int .i64 0,.int .i64 0,.int .i64 0,.int .i64 0,.int .i64 0,.int .i64 0,.string ⟨#[]⟩]):=zH (hO.setOther (Nat.ne_of_lt HOG.out));have HAc:=zH (Below.bK hgw [.int .i64 aj] 0 hle);clear hQ hO hle hgw;go_upto_region 19 with (fail)
    change Code.wp _ _ _ _ (bK wc gq 0 [.int .i64 aj]);clear p0 hf hlt;generalize bK wc gq 0 [.int .i64 aj]=wd at HQc HOc HAc ⊢;have p0:=HQc.out.cell (i:=0) rfl;have o0:=HOc.out.cell (i:=0) rfl;have p1:=HQc.out.cell (i:=1) rfl;have o1:=HOc.out.cell (i:=1) rfl;have p2:=HQc.out.cell (i:=2) rfl;have o2:=HOc.out.cell (i:=2) rfl;have p3:=HQc.out.cell (i:=3) rfl;have o3:=HOc.out.cell (i:=3) rfl;have p4:=HQc.out.cell (i:=4) rfl;have o4:=HOc.out.cell (i:=4) rfl;have p5:=HQc.out.cell (i:=5) rfl;have o5:=HOc.out.cell (i:=5) rfl;have p6:=HQc.out.cell (i:=6) rfl;have o6:=HOc.out.cell (i:=6) rfl;have hf:=HOc.out.free;have hlt:=HOc.out.lt;have how:w.heap.size<=ob:=YF G7.out.symm;have hF:=HOc.out.bK [.int .i64 aj,.int .i64 0,.int .i64 0,.int .i64 0,.int .i64 0,.int .i64 0,.string D] 0;have HF:=zH hF;have HLF:=zH (Below.bK how [.int .i64 aj,.int .i64 0,.int .i64 0,.int .i64 0,.int .i64 0,.int .i64 0,.string D] 0 HAc.out);clear hF how;go_wp2_with fail;have r0:=HF.out.cell (i:=0) rfl;have r1:=HF.out.cell (i:=1) rfl;have r2:=HF.out.cell (i:=2) rfl;have r3:=HF.out.cell (i:=3) rfl;have r4:=HF.out.cell (i:=4) rfl;have r5:=HF.out.cell (i:=5) rfl;have r6:=HF.out.cell (i:=6) rfl;simp only[bK,Yf,Nat.reduceAdd]at r0 r1 r2 r3 r4 r5 r6;exact zr (v:=.tuple #[.agg #[.int .i64 aj,.int .i64 0,.int .i64 0,.int .i64 0,.int .i64 0,.int .i64 0,.string D],.int .i64 0]) (by simp[results,results75,go_sem,r0,r1,r2,r3,r4,r5,r6]) rfl ⟨rfl,HLF.out⟩
end T7
end Go.Proofs.YtfnehkmhcmkhjaaGreat
