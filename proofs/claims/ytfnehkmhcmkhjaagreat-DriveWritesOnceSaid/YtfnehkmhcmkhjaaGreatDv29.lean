/- Parts:XIh XIj XJb -/
import Derived.Test.YtfnehkmhcmkhjaaGreatDvAl
import Derived.Test.YtfnehkmhcmkhjaaGreatDv24
import Derived.Test.YtfnehkmhcmkhjaaGreatDv26
import Derived.ChangeAlike
set_option maxRecDepth 100000
set_option maxHeartbeats 8000000
set_option linter.unusedVariables false
namespace Go.Proofs.YtfnehkmhcmkhjaaGreat
open Tryz
namespace T7
open Go Go.RowKit xA
structure Good (s:List UInt8) (aj:Int) (d:List UInt8):Prop where
 len:s.length=2352
 dl:d.length=2048
 h0:-150<=aj
 h1:aj<=449849
 eq:s.take 2076=(E8 aj d).take 2076
theorem D7{s t:List UInt8}{n lo hi:Nat}(h:s.take n=t.take n)(hh:hi<=n):(s.drop lo).take (hi - lo)=(t.drop lo).take (hi - lo):=by
 have e:∀u:List UInt8,(u.drop lo).take (hi - lo)=((u.take n).drop lo).take (hi - lo):=fun u=>by rw[List.drop_take,List.take_take,Nat.min_eq_left (by omega)]
 rw[e s,e t,h]
theorem WH(a b c:List UInt8){lo hi:Nat}(hl:lo=a.length)(hh:hi=lo+b.length):(((a++b)++c).drop lo).take (hi - lo)=b:=by subst hl hh;rw[List.append_assoc,List.drop_left,show a.length+b.length - a.length=b.length from by omega,List.take_left]
section
variable {s d:List UInt8} {aj:Int}
theorem Good.head(h:Good s aj d):s.take 2064=eG aj d:=by have e:=D7 (lo:=0) (hi:=2064) h.eq (by omega);rw[List.drop_zero,List.drop_zero]at e;have hb:=mg aj h.dl;rw[show 2064 - 0=2064 from rfl]at e;rw[e];unfold E8;rw[List.append_assoc,List.take_append_of_le_length (by omega),List.take_of_length_le (by omega)]
theorem Good.code(h:Good s aj d):(s.drop 2064).take (2068 - 2064)=jX (qy 0 (eG aj d)):=by rw[D7 h.eq (by omega)];unfold E8;exact WH _ _ _ (mg aj h.dl).symm (by rw[mr])
theorem Good.zero(h:Good s aj d):(s.drop 2068).take (2076 - 2068)=List.replicate 8 0:=by
 rw[D7 h.eq (by omega)];unfold E8;have hl:(eG aj d++jX (qy 0 (eG aj d))).length=2068:=by rw[List.length_append,mg aj h.dl,mr]
 rw[show(2068:Nat)=(eG aj d++jX (qy 0 (eG aj d))).length from hl.symm,List.drop_left,hl,List.take_replicate];rfl
theorem Good.sync(h:Good s aj d):s.take 12=lS:=by have e:=congrArg (List.take 12) h.head;rw[List.take_take,Nat.min_eq_left (by omega)]at e;rw[e];unfold eG;rw[List.append_assoc,List.append_assoc,List.take_append_of_le_length (by decide)];rfl
theorem Good.data(h:Good s aj d):(s.drop 16).take (2064 - 16)=d:=by
 have e:(s.drop 16).take (2064 - 16)=(eG aj d).drop 16:=by rw[<-h.head,List.drop_take]
 rw[e];unfold eG;have hl:(lS++kP aj++[1]).length=16:=by simp[oN,lS]
 rw[show(16:Nat)=(lS++kP aj++[1]).length from hl.symm,List.drop_left]
theorem Good.byte(h:Good s aj d){k:Nat}(hk:k<2064):G.ix s k=G.ix (eG aj d) k:=by rw[<-h.head];unfold G.ix;rw[List.getD_eq_getElem?_getD,List.getD_eq_getElem?_getD,List.getElem?_take_of_lt hk]
theorem Bd(aj:Int)(d:List UInt8):G.ix (eG aj d) 15=1:=by unfold eG;rfl
end
theorem TV(s:List UInt8)(hl:s.length=2352)(h15:G.ix s 15=1)(w:World):Calls prog 146 #[.string (str s)] w fun e w'=>e=.returned (.tuple #[.int .i64 0,.int .i64 0])/\w=w':=by
 have hx:=fun W=>Em (P:=prog) underlying9 s 15 (by omega) 15 rfl W
 have e:bn s 15=1:=by unfold bn; rw[h15]; rfl
 rw[e]at hx;have hsz:=ax s;rw[hl]at hsz;have hsz2:(str s).data.size=2352:=hsz;clear e hl h15;generalize str s=S at *;go_enter func146,ntmps146;go_wp2_with fail;go_ret2;exact⟨rfl,rfl⟩
def WC(b:Nat)(S E H:ByteArray)(i:Nat)(v:Value)(W:World):Prop:=match i with
 | 0=>v=.string S
 | 1=>v=.agg #[.int .u8 1,.int .i64 16,.int .i64 2048,.int .i64 0]
 | 2=>v=.int .i64 2064
 | 3=>v=.string H
 | 4=>v=.pointer (some ⟨b,3,none⟩)
 | 5=>v=.int .i64 0
 | 6=>v=.string E
 | 7=>v=.string S
 | 8=>v=.agg #[.int .u8 1,.int .i64 16,.int .i64 2048,.int .i64 0]
 | 9=>v=.int .i64 2064
 | 10=>v=.agg #[.int .u8 1,.int .i64 16,.int .i64 2048,.int .i64 0]
 | 11=>v=.int .i64 2064
 | 12=>v=.int .i64 2068
 | 13=>v=.string E
 | 14=>v=.bool true
 | 15=>v=.bool true
 | _=>True
theorem Og(b:Nat)(S E H:ByteArray)(i:Nat)(v:Value)(W W':World)(hR:(fun w W=>Below w.heap.size w W) W W')(h:WC b S E H i v W):WC b S E H i v W':=by unfold WC at h ⊢;split at h <;> first | exact h
theorem WB{s d:List UInt8}{aj:Int}(h:Good s aj d)(w:World):Calls prog 149 #[.string (str s)] w fun e w'=>e=.returned (.bool true)/\Below w.heap.size w w':=by
 have h15:G.ix s 15=1:=by rw[h.byte (by omega),Bd]
 have HK:=zH (fun W=>TV s h.len h15 W);have HL:=zH qC;have HE:=zH Bi;unfold Gv at HL HE;have hl1:=h.len;have hbl:=mg aj h.dl;have s1:=fun W=>zW (P:=prog) underlying9 s 2064 (by omega) 2064 rfl W
 rw[h.head]at s1;have s2:=fun W=>aft (P:=prog) underlying9 s 2064 2068 (by omega) (by omega) 2064 2068 rfl rfl W
 rw[h.code]at s2;have HC:=zH (fun W=>Fh (eG aj d) (by omega) W);generalize jX (qy 0 (eG aj d))=EB at *;generalize eG aj d=BH at *;generalize str s=S at *;obtain⟨E,hE⟩:∃E,E=str EB:=⟨_,rfl⟩;obtain⟨H,hH⟩:∃H,H=str BH:=⟨_,rfl⟩;rw[<-hE]at s2 HC;rw[<-hH]at s1 HC;clear hE hH h h15 hl1 hbl;go_enter func149,ntmps149;go_wp2_with fail;refine(HK.out w).mono ?_;rintro e w' ⟨rfl,rfl⟩;go_wp2_with fail;refine(HL.out w).mono ?_;rintro e w1 ⟨rfl,hb1⟩;obtain⟨b,hb⟩:∃b,b=w1.heap.size:=⟨_,rfl⟩;obtain⟨w2,hw2⟩:∃w2,w2=w1.alloc (.cells #[.int .u8 1,.int .i64 16,.int .i64 2048,.int .i64 0] 231):=⟨_,rfl⟩;have hA:=(zB w1.heap.size w1).alloc (zl _) (.cells #[.int .u8 1,.int .i64 16,.int .i64 2048,.int .i64 0] 231);rw[<-hw2]at hA;have hx:Bx w2 b 231 [.int .u8 1,.int .i64 16,.int .i64 2048,.int .i64 0]:=by rw[hw2,hb]; exact Bx.new w1 _ _
 have HA:=zH (hb1.trans (hA.mono hb1.size));have vY:=zH (fun W (hW:Below w2.heap.size w2 W)=>hx.call hW);have HW2:Hid (w1.alloc (.cells #[.int .u8 1,.int .i64 16,.int .i64 2048,.int .i64 0] 231)=w2):=zH hw2.symm;have HB:=zH hb;clear hb1 hA hx hw2 hb;go_upto_region 5 with (fail)
 rw[HW2.out,<-HB.out];refine cu (by kernel_rfl) (fun w W=>Below w.heap.size w W) (fun W=>Below w2.heap.size w2 W) (WC b S E H) (fun _=>false) (by kernel_rfl) (fun _ _ hR hc=>hc.trans (hR.mono hc.size)) (Og b S E H) ((zB _ _).drew) ⟨?_,?s1,?s2,?s3,?_,?s5,?s6,?_,?s8,?s9,?s10,?s11,?_,?s13,?_,?_,trivial⟩ ?_;all_goals first
  | (intro a W hc hsz hold ah
     have o0:a.tmps.getD 0 undef=.string S:=hold 0 (by kernel_rfl);have o5:a.tmps.getD 5 undef=.pointer (some ⟨b,0,none⟩):=hold 5 (by kernel_rfl);try have d6:=zV 25 (.string E) (ah 6 rfl rfl _ rfl)
     try have d11:=zV 30 (.int .i64 2064) (ah 11 rfl rfl _ rfl)
     try have d13:=zV 32 (.string E) (ah 13 rfl rfl _ rfl)
     try have d14:=zV 33 (.bool true) (ah 14 rfl rfl _ rfl)
     clear hsz hold ah;refine ai rfl (ag rfl) ?_;refine ak (zB _ _) rfl fun K hK=>?_
     go_simp;exact hK)
  | skip
 try case s1=>
  intro a W hc hsz hold ah;have o5:a.tmps.getD 5 undef=.pointer (some ⟨b,0,none⟩):=hold 5 (by kernel_rfl);have q0:=(vY.out W hc).cell (i:=0) rfl;have q1:=(vY.out W hc).cell (i:=1) rfl;have q2:=(vY.out W hc).cell (i:=2) rfl;have q3:=(vY.out W hc).cell (i:=3) rfl;clear hsz hold ah;refine ai rfl (ag rfl) ?_;refine ak (v:=.agg #[.int .u8 1,.int .i64 16,.int .i64 2048,.int .i64 0]) (zB _ _) rfl fun K hK=>?_
  go_simp;exact hK
 try case s2=>
  intro a W hc hsz hold ah;have d1:=zV 20 (.agg #[.int .u8 1,.int .i64 16,.int .i64 2048,.int .i64 0]) (ah 1 (by kernel_rfl) rfl _ rfl);have e1:=zq d1;clear hsz hold ah;refine ai rfl (ag rfl) ?_;refine di (v:=.int .i64 2064) (fun W' hb=>hb) (fun _=>rfl) fun K hK=>?_
  go_simp;refine(HE.out W).mono ?_;rintro e w' ⟨rfl,hb'⟩;exact hK _ hb'
 try case s3=>
  intro a W hc hsz hold ah;have d0:=zV 19 (.string S) (ah 0 (by kernel_rfl) rfl _ rfl);have d2:=zV 21 (.int .i64 2064) (ah 2 (by kernel_rfl) rfl _ rfl);have q:=s1;clear hsz hold ah;refine ai rfl (ag rfl) ?_;refine ak (v:=.string H) (zB _ _) rfl fun K hK=>?_
  go_simp;exact hK
 try case s5=>
  intro a W hc hsz hold ah;have d4:=zV 23 (.pointer (some ⟨b,3,none⟩)) (ah 4 (by kernel_rfl) rfl _ rfl);have q3:=(vY.out W hc).cell (i:=3) rfl;clear hsz hold ah;refine ai rfl (ag rfl) ?_;refine ak (v:=.int .i64 0) (zB _ _) rfl fun K hK=>?_
  go_simp;exact hK
 try case s6=>
  intro a W hc hsz hold ah;have d3:=zV 22 (.string H) (ah 3 (by kernel_rfl) rfl _ rfl);have e3:=zq d3;have d5:=zV 24 (.int .i64 0) (ah 5 (by kernel_rfl) rfl _ rfl);have e5:=zq d5;clear hsz hold ah;refine ai rfl (ag rfl) ?_;refine di (v:=.string E) (fun W' hb=>hb) (fun _=>rfl) fun K hK=>?_
  go_simp;refine(HC.out W).mono ?_;rintro e w' ⟨rfl,hb'⟩;exact hK _ hb'
 try case s8=>
  intro a W hc hsz hold ah;have o5:a.tmps.getD 5 undef=.pointer (some ⟨b,0,none⟩):=hold 5 (by kernel_rfl);have q0:=(vY.out W hc).cell (i:=0) rfl;have q1:=(vY.out W hc).cell (i:=1) rfl;have q2:=(vY.out W hc).cell (i:=2) rfl;have q3:=(vY.out W hc).cell (i:=3) rfl;clear hsz hold ah;refine ai rfl (ag rfl) ?_;refine ak (v:=.agg #[.int .u8 1,.int .i64 16,.int .i64 2048,.int .i64 0]) (zB _ _) rfl fun K hK=>?_
  go_simp;exact hK
 try case s9=>
  intro a W hc hsz hold ah;have d8:=zV 27 (.agg #[.int .u8 1,.int .i64 16,.int .i64 2048,.int .i64 0]) (ah 8 (by kernel_rfl) rfl _ rfl);have e8:=zq d8;clear hsz hold ah;refine ai rfl (ag rfl) ?_;refine di (v:=.int .i64 2064) (fun W' hb=>hb) (fun _=>rfl) fun K hK=>?_
  go_simp;refine(HE.out W).mono ?_;rintro e w' ⟨rfl,hb'⟩;exact hK _ hb'
 try case s10=>
  intro a W hc hsz hold ah;have o5:a.tmps.getD 5 undef=.pointer (some ⟨b,0,none⟩):=hold 5 (by kernel_rfl);have q0:=(vY.out W hc).cell (i:=0) rfl;have q1:=(vY.out W hc).cell (i:=1) rfl;have q2:=(vY.out W hc).cell (i:=2) rfl;have q3:=(vY.out W hc).cell (i:=3) rfl;clear hsz hold ah;refine ai rfl (ag rfl) ?_;refine ak (v:=.agg #[.int .u8 1,.int .i64 16,.int .i64 2048,.int .i64 0]) (zB _ _) rfl fun K hK=>?_
  go_simp;exact hK
 try case s11=>
  intro a W hc hsz hold ah;have d10:=zV 29 (.agg #[.int .u8 1,.int .i64 16,.int .i64 2048,.int .i64 0]) (ah 10 (by kernel_rfl) rfl _ rfl);have e10:=zq d10;clear hsz hold ah;refine ai rfl (ag rfl) ?_;refine di (v:=.int .i64 2064) (fun W' hb=>hb) (fun _=>rfl) fun K hK=>?_
  go_simp;refine(HE.out W).mono ?_;rintro e w' ⟨rfl,hb'⟩;exact hK _ hb'
 try case s13=>
  intro a W hc hsz hold ah;have d7:=zV 26 (.string S) (ah 7 (by kernel_rfl) rfl _ rfl);have d9:=zV 28 (.int .i64 2064) (ah 9 (by kernel_rfl) rfl _ rfl);have d12:=zV 31 (.int .i64 2068) (ah 12 (by kernel_rfl) rfl _ rfl);have q:=s2;clear hsz hold ah;refine ai rfl (ag rfl) ?_;refine ak (v:=.string E) (zB _ _) rfl fun K hK=>?_
  go_simp;exact hK
 ·intro a W hC hd hsz hold hval;have d2:a.tmps.getD 2 undef=.bool true:=hval 15 _ rfl rfl;obtain⟨G,hG,ha⟩:=cO [2,19,20,21,22,23,24,25,26,27,28,29,30,31,32,33] (by kernel_rfl) hd hsz hold;simp only[hG]at d2;rw[ha];clear ha hG hd hsz hold;simp only[bI,List.setIfInBounds_toArray,List.set,d2];clear d2;have HC2:=zH (HA.out.trans (hC.mono HA.out.size));clear hval hC;go_wp2_with fail;go_ret;exact⟨rfl,HC2.out⟩
theorem tC{x:Int}(h0:0<=x)(h1:x<=255):((by8 x).toNat:Int)=x:=by unfold by8;rw[UInt8.toNat_ofNat'];omega
theorem I4{n:Int}(h0:0<=n)(h1:n<=99):0<=qU n/\qU n<=255:=by unfold qU; omega
theorem Rz(aj:Int)(d:List UInt8):G.ix (eG aj d) 12=by8 (qU (Q.mM (aj+150)))/\G.ix (eG aj d) 13=by8 (qU (Q.mS (aj+150)))/\G.ix (eG aj d) 14=by8 (qU (Q.mF (aj+150))):=⟨rfl,rfl,rfl⟩
theorem Good.Ah{s d:List UInt8}{aj:Int}(h:Good s aj d):bn s 12=qU (Q.mM (aj+150))/\bn s 13=qU (Q.mS (aj+150))/\bn s 14=qU (Q.mF (aj+150)):=by obtain⟨h1,h2,h3,h4,h5,h6⟩:=xJ h.h0 h.h1;obtain⟨e1,e2,e3⟩:=Rz aj d;unfold bn;rw[h.byte (by omega),h.byte (by omega),h.byte (by omega),e1,e2,e3];have b1:=I4 h1 h2;have b2:=I4 h3 (by omega);have b3:=I4 h5 (by omega);exact⟨tC b1.1 b1.2,tC b2.1 b2.2,tC b3.1 b3.2⟩
theorem Good.dec{s d:List UInt8}{aj:Int}(h:Good s aj d)(w:World):Calls prog 148 #[.string (str s),.int .i64 12] w fun e w'=>e=.returned (.tuple #[iV (Q.mM (aj+150)) (Q.mS (aj+150)) (Q.mF (aj+150)),.int .i64 0])/\Below w.heap.size w w':=by
 obtain⟨h1,h2,h3,h4,h5,h6⟩:=xJ h.h0 h.h1;obtain⟨e1,e2,e3⟩:=h.Ah;have hq:=IX s w h.len;rw[e1,e2,e3]at hq;have u1:=sK h1 h2;have u2:=sK h3 (show Q.mS (aj+150)<=99 by omega);have u3:=sK h5 (show Q.mF (aj+150)<=99 by omega);have hok:okD (qU (Q.mM (aj+150))) (qU (Q.mS (aj+150))) (qU (Q.mF (aj+150))):=by unfold okD;rw[u1,u2,u3];exact⟨rfl,rfl,rfl,YC ⟨h1,h2,h3,h4,h5,h6⟩⟩
 obtain⟨d1,d2,d3,d4⟩:=Y8 hok;unfold uM at hq;rw[d1,d2,d3,d4,u1,u2,u3]at hq;exact hq
def Nk(b B:Nat)(S D:ByteArray)(i:Nat)(v:Value)(d:Nat->Value)(W:World):Prop:=match i with
 | 0=>v=.int .i64 0
 | 1=>v=.string S
 | 2=>v=.pointer (some ⟨b,1,none⟩)
 | 3=>v=.int .i64 16
 | 4=>v=.agg #[.int .u8 1,.int .i64 16,.int .i64 2048,.int .i64 0]
 | 5=>v=.int .i64 2064
 | 6=>v=.string D
 | 7=>v=.agg #[.int .i64 0,.int .i64 0,.int .i64 0,.int .i64 0,.int .i64 0,.int .i64 0,.string D]
 | 8=>∃g,v=.pointer (some ⟨g,0,none⟩)/\B<=g/\∃cs:List Value,cs.length=7/\Bx W g 157 cs
 | 9=>∃g,d 8=.pointer (some ⟨g,0,none⟩)/\B<=g/\Bx W g 157 [.int .i64 0,.int .i64 0,.int .i64 0,.int .i64 0,.int .i64 0,.int .i64 0,.string D]
 | _=>True
theorem Kt(b B:Nat)(S D:ByteArray)(i:Nat)(v:Value)(d:Nat->Value)(W W':World)(hR:(nD B 157 [.int .i64 0,.int .i64 0,.int .i64 0,.int .i64 0,.int .i64 0,.int .i64 0,.string D]) W W')(h:Nk b B S D i v d W):Nk b B S D i v d W':=by
 by_cases h8:i=8
 ·subst h8;obtain⟨g,h1,h2,h3⟩:=h;exact⟨g,h1,h2,hR.2.1 g h3⟩
 by_cases h9:i=9
 ·subst h9;obtain⟨g,h1,h2,h3⟩:=h;exact⟨g,h1,h2,hR.2.2 g h3⟩
 unfold Nk at h ⊢;split at h <;> first | exact h | exact absurd rfl h8 | exact absurd rfl h9
def Nl(bY:Nat)(S Y:ByteArray)(i:Nat)(v:Value)(W:World):Prop:=match i with
 | 0=>v=.int .i64 0
 | 1=>v=.bool true
 | 2=>v=.bool true
 | 3=>v=.string S
 | 4=>v=.string Y
 | 5=>v=.slice (some ⟨bY,0,none⟩) 12 12
 | 6=>v=.string Y
 | 7=>v=.bool true
 | 8=>v=.bool true
 | 9=>v=.bool true
 | _=>True
theorem Ku(bY:Nat)(S Y:ByteArray)(i:Nat)(v:Value)(W W':World)(hR:(fun w W=>Below w.heap.size w W) W W')(h:Nl bY S Y i v W):Nl bY S Y i v W':=by unfold Nl at h ⊢;split at h <;> first | exact h
def D8(b:Nat)(S ZS:ByteArray)(i:Nat)(v:Value)(W:World):Prop:=match i with
 | 0=>v=.bool true
 | 1=>v=.bool true
 | 2=>v=.string S
 | 3=>v=.agg #[.int .u8 1,.int .i64 16,.int .i64 2048,.int .i64 0]
 | 4=>v=.int .i64 2064
 | 5=>v=.int .i64 2068
 | 6=>v=.string ZS
 | 7=>∃g,v=.slice (some ⟨g,0,none⟩) 8 8/\Bx W g 5 (bs (List.replicate 8 0))
 | 8=>v=.string ZS
 | 9=>v=.bool true
 | 10=>v=.bool true
 | 11=>v=.bool true
 | _=>True
theorem GZ(b:Nat)(S ZS:ByteArray)(i:Nat)(v:Value)(W W':World)(hR:(fun w W=>Below w.heap.size w W) W W')(h:D8 b S ZS i v W):D8 b S ZS i v W':=by
 by_cases h7:i=7
 ·subst h7;obtain⟨g,h1,h2⟩:=h;exact⟨g,h1,h2.call hR⟩
 unfold D8 at h ⊢;split at h <;> first | exact h | exact absurd rfl h7
theorem XT{s d:List UInt8}{aj:Int}(h:Good s aj d)(w:World):Calls prog 75 #[.string (str s)] w fun e w'=>e=.returned (.tuple #[Hw aj d,.int .i64 0])/\Below w.heap.size w w':=by
 have h15:G.ix s 15=1:=by rw[h.byte (by omega),Bd]
 have HK:=zH (fun W=>TV s h.len h15 W);have HL:=zH qC;have HE:=zH Bi;have HCK:=zH (fun W=>WB h W);have HAD:=zH (fun W=>h.dec W);have VH:=zH Ib;have VY:=zH (fun W=>XF (Q.mM (aj+150)) (Q.mS (aj+150)) (Q.mF (aj+150)) W (YC (xJ h.h0 h.h1)));have hnm:nmb (Q.mM (aj+150)) (Q.mS (aj+150)) (Q.mF (aj+150)) - 150=aj:=by unfold nmb Q.mM Q.mS Q.mF; omega
 rw[hnm]at VY;have hmv:iV (Q.mM (aj+150)) (Q.mS (aj+150)) (Q.mF (aj+150))=.agg #[.int .i64 (Q.mM (aj+150)),.int .i64 (Q.mS (aj+150)),.int .i64 (Q.mF (aj+150))]:=rfl;rw[hmv]at VY HAD;generalize Q.mM (aj+150)=qm at *;generalize Q.mS (aj+150)=qs at *;generalize Q.mF (aj+150)=qf at *;unfold Gv at HL HE;unfold Hw;have hsv:VQ = [.int .u8 0,.int .u8 255,.int .u8 255,.int .u8 255,.int .u8 255,.int .u8 255,.int .u8 255,.int .u8 255,.int .u8 255,.int .u8 255,.int .u8 255,.int .u8 0]:=by kernel_rfl
 have wC:=zH hsv;rw[hsv]at VH;have hl1:=h.len;have s1:=fun W=>aft (P:=prog) underlying9 s 16 2064 (by omega) (by omega) 16 2064 rfl rfl W
 rw[h.data]at s1;have s2:=fun W=>zW (P:=prog) underlying9 s 12 (by omega) 12 rfl W
 rw[h.sync]at s2;have s3:=fun W=>aft (P:=prog) underlying9 s 2068 2076 (by omega) (by omega) 2068 2076 rfl rfl W
 rw[h.zero]at s3;obtain⟨Z,hZ⟩:∃Z:List UInt8,Z=List.replicate 8 0:=⟨_,rfl⟩;have HZ:=zH hZ;rw[<-hZ]at s3;generalize hS:str s=S at *;obtain⟨D,hD⟩:∃D,D=str d:=⟨_,rfl⟩;obtain⟨Y,hY⟩:∃Y,Y=str lS:=⟨_,rfl⟩;obtain⟨ZS,hZS⟩:∃ZS,ZS=str Z:=⟨_,rfl⟩;have HYS:=zH hY;have HZS:=zH hZS;rw[<-hD]at s1 ⊢;rw[<-hY]at s2;rw[<-hZS]at s3;clear hsv hmv hnm hZ hS hD hY hZS h h15 hl1;go_enter func75,ntmps75;go_upto_region 1 with (fail)
 obtain⟨ob,hob⟩:∃ob,ob=w.heap.size:=⟨_,rfl⟩;obtain⟨w1,hw1⟩:∃w1,w1=w.alloc (.cells #[.int .i64 0,.int .i64 0,.int .i64 0,.int .i64 0,.int .i64 0,.int .i64 0,.string ⟨#[]⟩] 157):=⟨_,rfl⟩;have hA1:=(zB w.heap.size w).alloc (zl _) (.cells #[.int .i64 0,.int .i64 0,.int .i64 0,.int .i64 0,.int .i64 0,.int .i64 0,.string ⟨#[]⟩] 157);rw[<-hw1]at hA1;have ho1:Bx w1 ob 157 [.int .i64 0,.int .i64 0,.int .i64 0,.int .i64 0,.int .i64 0,.int .i64 0,.string ⟨#[]⟩]:=by rw[hw1,hob]; exact Bx.new w _ _
 have ZZ:=zH ho1;have HA1:=zH hA1;have ng:=zH hob;rw[<-hw1,<-hob];clear hA1 ho1 hob hw1;go_wp2_with fail;refine(HK.out w1).mono ?_;rintro e w' ⟨rfl,rfl⟩;go_wp2_with fail;refine(HL.out w1).mono ?_;rintro e w2 ⟨rfl,hb2⟩;obtain⟨b,hb⟩:∃b,b=w2.heap.size:=⟨_,rfl⟩;obtain⟨w3,hw3⟩:∃w3,w3=w2.alloc (.cells #[.int .u8 1,.int .i64 16,.int .i64 2048,.int .i64 0] 231):=⟨_,rfl⟩;have hA:=(zB w2.heap.size w2).alloc (zl _) (.cells #[.int .u8 1,.int .i64 16,.int .i64 2048,.int .i64 0] 231);rw[<-hw3]at hA;have hx:Bx w3 b 231 [.int .u8 1,.int .i64 16,.int .i64 2048,.int .i64 0]:=by rw[hw3,hb]; exact Bx.new w2 _ _
 have hb3:=hb2.trans (hA.mono hb2.size);have EP:=zH (ZZ.out.call hb3);have HA3:=zH (HA1.out.trans (hb3.mono HA1.out.size));have HB3:=zH hx;have vY:=zH (fun W (hW:Below w3.heap.size w3 W)=>hx.call hW);have HW3:Hid (w2.alloc (.cells #[.int .u8 1,.int .i64 16,.int .i64 2048,.int .i64 0] 231)=w3):=zH hw3.symm;have HB:=zH hb;clear hb2 hA hx hw3 hb hb3;go_upto_region 5 with (fail)
 rw[HW3.out,<-HB.out];obtain⟨B,VL⟩:∃B,B=w3.heap.size:=⟨_,rfl⟩;have NU:=zH VL;clear VL;refine dw (by kernel_rfl) (nD B 157 [.int .i64 0,.int .i64 0,.int .i64 0,.int .i64 0,.int .i64 0,.int .i64 0,.string D]) (fun W=>Below w3.heap.size w3 W) (Nk b B S D) (fun _=>false) (by kernel_rfl) (fun _ _ hR hc=>hc.trans (hR.1.mono (by rw[NU.out]; exact zl _))) (Kt b B S D) ((zB _ _).drew) ⟨?_,?_,?_,?s3,?s4,?s5,?s6,?s7,?s8,?s9,trivial⟩ ?_;all_goals first
  | (intro a W hc hsz hold ah
     have o0:a.tmps.getD 0 undef=.string S:=hold 0 (by kernel_rfl);have o4:a.tmps.getD 4 undef=.int .i64 0:=hold 4 (by kernel_rfl);have o6:a.tmps.getD 6 undef=.pointer (some ⟨b,0,none⟩):=hold 6 (by kernel_rfl);clear hsz hold ah;refine ai rfl (ag rfl) ?_;refine aA nD.refl rfl fun K hK=>?_
     go_simp;exact hK)
  | skip
 try case s3=>
  intro a W hc hsz hold ah;have d2:=zV 29 (.pointer (some ⟨b,1,none⟩)) (ah 2 (by kernel_rfl) rfl _ rfl);have q1:=(vY.out W hc).cell (i:=1) rfl;clear hsz hold ah;refine ai rfl (ag rfl) ?_;refine aA (v:=.int .i64 16) nD.refl rfl fun K hK=>?_
  go_simp;exact hK
 try case s4=>
  intro a W hc hsz hold ah;have o6:a.tmps.getD 6 undef=.pointer (some ⟨b,0,none⟩):=hold 6 (by kernel_rfl);have q0:=(vY.out W hc).cell (i:=0) rfl;have q1:=(vY.out W hc).cell (i:=1) rfl;have q2:=(vY.out W hc).cell (i:=2) rfl;have q3:=(vY.out W hc).cell (i:=3) rfl;clear hsz hold ah;refine ai rfl (ag rfl) ?_;refine aA (v:=.agg #[.int .u8 1,.int .i64 16,.int .i64 2048,.int .i64 0]) nD.refl rfl fun K hK=>?_
  go_simp;exact hK
 try case s5=>
  intro a W hc hsz hold ah;have d4:=zV 31 (.agg #[.int .u8 1,.int .i64 16,.int .i64 2048,.int .i64 0]) (ah 4 (by kernel_rfl) rfl _ rfl);have e4:=zq d4;clear hsz hold ah;refine ai rfl (ag rfl) ?_;refine zQ (v:=.int .i64 2064) (fun W' hb=>nD.call (by rw[NU.out]; exact hc.size) hb) (fun _=>rfl) fun K hK=>?_
  go_simp;refine(HE.out W).mono ?_;rintro e w' ⟨rfl,hb'⟩;exact hK _ hb'
 try case s6=>
  intro a W hc hsz hold ah;have d1:=zV 28 (.string S) (ah 1 (by kernel_rfl) rfl _ rfl);have d3:=zV 30 (.int .i64 16) (ah 3 (by kernel_rfl) rfl _ rfl);have d5:=zV 32 (.int .i64 2064) (ah 5 (by kernel_rfl) rfl _ rfl);have q:=s1;clear hsz hold ah;refine ai rfl (ag rfl) ?_;refine aA (v:=.string D) nD.refl rfl fun K hK=>?_
  go_simp;exact hK
 try case s7=>
  intro a W hc hsz hold ah;have d0:=zV 27 (.int .i64 0) (ah 0 (by kernel_rfl) rfl _ rfl);have e0:=zq d0;have d6:=zV 33 (.string D) (ah 6 (by kernel_rfl) rfl _ rfl);have e6:=zq d6;clear hsz hold ah;refine ai rfl (ag rfl) ?_;refine aA (v:=.agg #[.int .i64 0,.int .i64 0,.int .i64 0,.int .i64 0,.int .i64 0,.int .i64 0,.string D]) nD.refl rfl fun K hK=>?_
  go_simp;exact hK
 try case s8=>
  intro a W hc hsz hold ah;clear hsz hold ah;refine ai rfl (ag rfl) ?_;refine bf (v:=.pointer (some ⟨W.heap.size,0,none⟩)) (nD.alloc (by rw[NU.out]; exact hc.size) (.cells #[.int .i64 0,.int .i64 0,.int .i64 0,.int .i64 0,.int .i64 0,.int .i64 0,.string ⟨#[]⟩] 157)) ⟨W.heap.size,rfl,by rw[NU.out]; exact hc.size,[.int .i64 0,.int .i64 0,.int .i64 0,.int .i64 0,.int .i64 0,.int .i64 0,.string ⟨#[]⟩],rfl,Bx.new _ _ _⟩ fun K hK=>?_
  go_simp;exact hK
 try case s9=>
  intro a W hc hsz hold ah;have x8:=ah 8 (by kernel_rfl) rfl _ rfl;have d7:=zV 34 (.agg #[.int .i64 0,.int .i64 0,.int .i64 0,.int .i64 0,.int .i64 0,.int .i64 0,.string D]) (ah 7 (by kernel_rfl) rfl _ rfl);clear hsz hold ah;refine ai rfl (ag rfl) ?_;obtain⟨g,hg,hgB,cs,OI,QM⟩:=x8;replace hg:a.tmps.getD 8 undef=.pointer (some ⟨g,0,none⟩):=hg;have hlt:=QM.lt;have hf:=QM.free;obtain⟨u0,z0⟩:∃v,W.cell? ⟨g,0,none⟩=some v:=⟨_,QM.cell (List.getElem?_eq_getElem (by rw[OI]; simp))⟩;obtain⟨u1,z1⟩:∃v,W.cell? ⟨g,1,none⟩=some v:=⟨_,QM.cell (List.getElem?_eq_getElem (by rw[OI]; simp))⟩;obtain⟨u2,z2⟩:∃v,W.cell? ⟨g,2,none⟩=some v:=⟨_,QM.cell (List.getElem?_eq_getElem (by rw[OI]; simp))⟩;obtain⟨u3,z3⟩:∃v,W.cell? ⟨g,3,none⟩=some v:=⟨_,QM.cell (List.getElem?_eq_getElem (by rw[OI]; simp))⟩;obtain⟨u4,z4⟩:∃v,W.cell? ⟨g,4,none⟩=some v:=⟨_,QM.cell (List.getElem?_eq_getElem (by rw[OI]; simp))⟩;obtain⟨u5,z5⟩:∃v,W.cell? ⟨g,5,none⟩=some v:=⟨_,QM.cell (List.getElem?_eq_getElem (by rw[OI]; simp))⟩;obtain⟨u6,z6⟩:∃v,W.cell? ⟨g,6,none⟩=some v:=⟨_,QM.cell (List.getElem?_eq_getElem (by rw[OI]; simp))⟩;refine bf (v:=undef) (nD.store hgB ⟨cs,OI,QM⟩) ⟨g,hg,hgB,QM.full OI⟩ fun K hK=>?_
  clear QM OI;go_simp;exact hK
 ·intro a W hC hd hsz hold hval;obtain⟨gq,hgq,hqB,hQ⟩:=hval 9 _ rfl rfl;have d8:a.tmps.getD 8 undef=.pointer (some ⟨gq,0,none⟩):=hgq;clear hgq;obtain⟨G,hG,ha⟩:=cO [8,27,28,29,30,31,32,33,34] (by kernel_rfl) hd hsz hold;simp only[hG]at d8;rw[ha];clear ha hG hd hsz hold;simp only[bI,List.setIfInBounds_toArray,List.set,d8];clear d8;have QY:=zH (EP.out.call hC);have HL5:=zH (HB3.out.call hC);have ZG:=zH (HA3.out.trans (hC.mono HA3.out.size));have HQ5:=zH hQ;have hog:ob<gq:=by have h1:=EP.out.lt; have h2:=NU.out; omega
  have Z4:=zH hog;clear hval hC hQ hqB hog;go_wp2_with fail;refine(HAD.out W).mono ?_;rintro e w4 ⟨rfl,hb4⟩;obtain⟨bm,hbm⟩:∃bm,bm=w4.heap.size:=⟨_,rfl⟩;obtain⟨w5,hw5⟩:∃w5,w5=w4.alloc (.cells #[.int .i64 qm,.int .i64 qs,.int .i64 qf] 235):=⟨_,rfl⟩;have hA:=(zB w4.heap.size w4).alloc (zl _) (.cells #[.int .i64 qm,.int .i64 qs,.int .i64 qf] 235);rw[<-hw5]at hA;have hm:Bx w5 bm 235 [.int .i64 qm,.int .i64 qs,.int .i64 qf]:=by rw[hw5,hbm]; exact Bx.new w4 _ _
  have hb5:=hb4.trans (hA.mono hb4.size);have HO6:=zH (QY.out.call hb5);have HL6:=zH (HL5.out.call hb5);have HQ6:=zH (HQ5.out.call hb5);have ZH:=zH (ZG.out.trans (hb5.mono ZG.out.size));have HM6:=zH hm;have HW5:Hid (w4.alloc (.cells #[.int .i64 qm,.int .i64 qs,.int .i64 qf] 235)=w5):=zH hw5.symm;have HBM:=zH hbm;clear hb4 hA hm hw5 hbm hb5;go_upto_region 7 with (fail)
  rw[HW5.out,<-HBM.out];go_wp2_with fail;refine(VH.out w5).mono ?_;rintro e w6 ⟨rfl,hb6⟩;obtain⟨bY,hbY⟩:∃bY,bY=w6.heap.size:=⟨_,rfl⟩;obtain⟨w7,hw7⟩:∃w7,w7=w6.alloc (.cells #[.int .u8 0,.int .u8 255,.int .u8 255,.int .u8 255,.int .u8 255,.int .u8 255,.int .u8 255,.int .u8 255,.int .u8 255,.int .u8 255,.int .u8 255,.int .u8 0] 239):=⟨_,rfl⟩;have hA:=(zB w6.heap.size w6).alloc (zl _) (.cells #[.int .u8 0,.int .u8 255,.int .u8 255,.int .u8 255,.int .u8 255,.int .u8 255,.int .u8 255,.int .u8 255,.int .u8 255,.int .u8 255,.int .u8 255,.int .u8 0] 239);rw[<-hw7]at hA;have hm:Bx w7 bY 239 [.int .u8 0,.int .u8 255,.int .u8 255,.int .u8 255,.int .u8 255,.int .u8 255,.int .u8 255,.int .u8 255,.int .u8 255,.int .u8 255,.int .u8 255,.int .u8 0]:=by rw[hw7,hbY]; exact Bx.new w6 _ _
  have hb7:=hb6.trans (hA.mono hb6.size);have HO7:=zH (HO6.out.call hb7);have HL7:=zH (HL6.out.call hb7);have HQ7:=zH (HQ6.out.call hb7);have HM7:=zH (HM6.out.call hb7);have HA7:=zH (ZH.out.trans (hb7.mono ZH.out.size));have HY7:=zH hm;have HW7:Hid (w6.alloc (.cells #[.int .u8 0,.int .u8 255,.int .u8 255,.int .u8 255,.int .u8 255,.int .u8 255,.int .u8 255,.int .u8 255,.int .u8 255,.int .u8 255,.int .u8 255,.int .u8 0] 239)=w7):=zH hw7.symm;have HBY:=zH hbY;clear hb6 hA hm hw7 hbY hb7;go_upto_region 8 with (fail)
  rw[HW7.out,<-HBY.out];refine cu (by kernel_rfl) (fun w W=>Below w.heap.size w W) (fun W=>Below w7.heap.size w7 W) (Nl bY S Y) (fun _=>false) (by kernel_rfl) (fun _ _ hR hc=>hc.trans (hR.mono hc.size)) (Ku bY S Y) ((zB _ _).drew) ⟨?_,?_,?_,?s3,?s4,?s5,?s6,?s7,?_,?_,trivial⟩ ?_;all_goals first
   | (intro a W hc hsz hold ah
      have o5:a.tmps.getD 5 undef=.int .i64 0:=hold 5 (by kernel_rfl);try have d0:=zV 41 (.int .i64 0) (ah 0 rfl rfl _ rfl)
      try have d1:=zV 42 (.bool true) (ah 1 rfl rfl _ rfl)
      try have d2:=zV 43 (.bool true) (ah 2 rfl rfl _ rfl)
      try have d7:=zV 48 (.bool true) (ah 7 rfl rfl _ rfl)
      try have d8:=zV 49 (.bool true) (ah 8 rfl rfl _ rfl)
      clear hsz hold ah;refine ai rfl (ag rfl) ?_;refine ak (zB _ _) rfl fun K hK=>?_
      go_simp;exact hK)
   | skip
  try case s3=>
   intro a W hc hsz hold ah;have o0:a.tmps.getD 0 undef=.string S:=hold 0 (by kernel_rfl);have g3:=zV 43 (.bool true) (ah 2 (by kernel_rfl) rfl _ rfl);clear hsz hold ah;refine ai rfl ((aS (want:=true) rfl rfl g3).trans rfl) ?_;clear g3;refine ak (v:=.string S) (zB _ _) rfl fun K hK=>?_
   go_simp;exact hK
  try case s4=>
   intro a W hc hsz hold ah;have d3:=zV 44 (.string S) (ah 3 (by kernel_rfl) rfl _ rfl);have g4:=zV 43 (.bool true) (ah 2 (by kernel_rfl) rfl _ rfl);have q:=s2;clear hsz hold ah;refine ai rfl ((aS (want:=true) rfl rfl g4).trans rfl) ?_;clear g4;refine ak (v:=.string Y) (zB _ _) rfl fun K hK=>?_
   go_simp;exact hK
  try case s5=>
   intro a W hc hsz hold ah;have JS:a.tmps.getD 10 undef=.pointer (some ⟨bY,0,none⟩):=hold 10 (by kernel_rfl);have g5:=zV 43 (.bool true) (ah 2 (by kernel_rfl) rfl _ rfl);clear hsz hold ah;refine ai rfl ((aS (want:=true) rfl rfl g5).trans rfl) ?_;clear g5;refine ak (v:=.slice (some ⟨bY,0,none⟩) 12 12) (zB _ _) rfl fun K hK=>?_
   go_simp;exact hK
  try case s6=>
   intro a W hc hsz hold ah;have d5:=zV 46 (.slice (some ⟨bY,0,none⟩) 12 12) (ah 5 (by kernel_rfl) rfl _ rfl);have g6:=zV 43 (.bool true) (ah 2 (by kernel_rfl) rfl _ rfl);have hN:=(HY7.out.call hc);have ebs:[.int .u8 0,.int .u8 255,.int .u8 255,.int .u8 255,.int .u8 255,.int .u8 255,.int .u8 255,.int .u8 255,.int .u8 255,.int .u8 255,.int .u8 255,.int .u8 0]=bs lS:=by kernel_rfl
   rw[ebs]at hN;have hst:=dV (dst:=9) underlying65 underlying5 underlying9 (Rd.adC hN (by simp[lS]));replace hst:(convert 65 9 (.slice (some ⟨bY,0,none⟩) 12 12)).run prog W=.ok (.string (str lS)) W:=hst;rw[<-HYS.out]at hst;clear hN ebs;clear hsz hold ah;refine ai rfl ((aS (want:=true) rfl rfl g6).trans rfl) ?_;clear g6;refine ak (v:=.string Y) (zB _ _) rfl fun K hK=>?_
   go_simp;exact hK
  try case s7=>
   intro a W hc hsz hold ah;have d4:=zV 45 (.string Y) (ah 4 (by kernel_rfl) rfl _ rfl);have d6:=zV 47 (.string Y) (ah 6 (by kernel_rfl) rfl _ rfl);have g7:=zV 43 (.bool true) (ah 2 (by kernel_rfl) rfl _ rfl);clear hsz hold ah;refine ai rfl ((aS (want:=true) rfl rfl g7).trans rfl) ?_;clear g7;refine ak (v:=.bool true) (zB _ _) rfl fun K hK=>?_
   go_simp;exact hK
  ·intro a W hC hd hsz hold hval;have d11:a.tmps.getD 11 undef=.bool true:=hval 9 _ rfl rfl;obtain⟨G,hG,ha⟩:=cO [11,41,42,43,44,45,46,47,48,49] (by kernel_rfl) hd hsz hold;simp only[hG]at d11;rw[ha];clear ha hG hd hsz hold;simp only[bI,List.setIfInBounds_toArray,List.set,d11];clear d11;have HO8:=zH (HO7.out.call hC);have HL8:=zH (HL7.out.call hC);have HQ8:=zH (HQ7.out.call hC);have HM8:=zH (HM7.out.call hC);have HA8:=zH (HA7.out.trans (hC.mono HA7.out.size));clear hval hC;go_upto_region 10 with (fail)
   refine AZ (by kernel_rfl) (fun w W=>Below w.heap.size w W) (fun W1=>Below W.heap.size W W1) (D8 b S ZS) (fun _=>false) (by kernel_rfl) (fun _ _ hR hc=>hc.trans (hR.mono hc.size)) (GZ b S ZS) ((zB _ _).drew) ⟨?s0,?_,?s2,?s3,?s4,?s5,?s6,?s7,?s8,?s9,?_,?_,trivial⟩ ?_;all_goals first
    | (intro a W hc hsz hold ah hnot
       try have d0:=zV 52 (.bool true) (ah 0 rfl rfl _ rfl)
       try have d1:=zV 53 (.bool true) (ah 1 rfl rfl _ rfl)
       try have d9:=zV 61 (.bool true) (ah 9 rfl rfl _ rfl)
       try have d10:=zV 62 (.bool true) (ah 10 rfl rfl _ rfl)
       clear hsz hold ah hnot;refine ai rfl (ag rfl) ?_;refine ak (zB _ _) rfl fun K hK=>?_
       go_simp;exact hK)
    | skip
   try case s0=>
    intro a W hc hsz hold ah hnot;have QQ:a.tmps.getD 11 undef=.bool true:=hnot 11 _ 11 rfl rfl (by kernel_rfl);clear hsz hold ah hnot;refine ai rfl (ag rfl) ?_;refine ak (v:=.bool true) (zB _ _) rfl fun K hK=>?_
    go_simp;exact hK
   try case s2=>
    intro a W hc hsz hold ah hnot;have o0:a.tmps.getD 0 undef=.string S:=hold 0 (by kernel_rfl);have g2:=zV 53 (.bool true) (ah 1 (by kernel_rfl) rfl _ rfl);clear hsz hold ah hnot;refine ai rfl ((aS (want:=true) rfl rfl g2).trans rfl) ?_;clear g2;refine ak (v:=.string S) (zB _ _) rfl fun K hK=>?_
    go_simp;exact hK
   try case s3=>
    intro a W hc hsz hold ah hnot;have o6:a.tmps.getD 6 undef=.pointer (some ⟨b,0,none⟩):=hold 6 (by kernel_rfl);have g3:=zV 53 (.bool true) (ah 1 (by kernel_rfl) rfl _ rfl);have q0:=(HL8.out.call hc).cell (i:=0) rfl;have q1:=(HL8.out.call hc).cell (i:=1) rfl;have q2:=(HL8.out.call hc).cell (i:=2) rfl;have q3:=(HL8.out.call hc).cell (i:=3) rfl;clear hsz hold ah hnot;refine ai rfl ((aS (want:=true) rfl rfl g3).trans rfl) ?_;clear g3;refine ak (v:=.agg #[.int .u8 1,.int .i64 16,.int .i64 2048,.int .i64 0]) (zB _ _) rfl fun K hK=>?_
    go_simp;exact hK
   try case s4=>
    intro a W hc hsz hold ah hnot;have d3:=zV 55 (.agg #[.int .u8 1,.int .i64 16,.int .i64 2048,.int .i64 0]) (ah 3 (by kernel_rfl) rfl _ rfl);have e3:=zq d3;have g4:=zV 53 (.bool true) (ah 1 (by kernel_rfl) rfl _ rfl);clear hsz hold ah hnot;refine ai rfl ((aS (want:=true) rfl rfl g4).trans rfl) ?_;clear g4;refine di (v:=.int .i64 2064) (fun W' hb=>hb) (fun _=>rfl) fun K hK=>?_
    go_simp;refine(HE.out W).mono ?_;rintro e w' ⟨rfl,hb'⟩;exact hK _ hb'
   try case s5=>
    intro a W hc hsz hold ah hnot;have d4:=zV 56 (.int .i64 2064) (ah 4 (by kernel_rfl) rfl _ rfl);have g5:=zV 53 (.bool true) (ah 1 (by kernel_rfl) rfl _ rfl);clear hsz hold ah hnot;refine ai rfl ((aS (want:=true) rfl rfl g5).trans rfl) ?_;clear g5;refine ak (v:=.int .i64 2068) (zB _ _) rfl fun K hK=>?_
    go_simp;exact hK
   try case s6=>
    intro a W hc hsz hold ah hnot;have d2:=zV 54 (.string S) (ah 2 (by kernel_rfl) rfl _ rfl);have d5:=zV 57 (.int .i64 2068) (ah 5 (by kernel_rfl) rfl _ rfl);have g6:=zV 53 (.bool true) (ah 1 (by kernel_rfl) rfl _ rfl);have q:=s3;clear hsz hold ah hnot;refine ai rfl ((aS (want:=true) rfl rfl g6).trans rfl) ?_;clear g6;refine ak (v:=.string ZS) (zB _ _) rfl fun K hK=>?_
    go_simp;exact hK
   try case s7=>
    intro a W hc hsz hold ah hnot;have g7:=zV 53 (.bool true) (ah 1 (by kernel_rfl) rfl _ rfl);clear hsz hold ah hnot;refine ai rfl ((aS (want:=true) rfl rfl g7).trans rfl) ?_;obtain⟨i0,hi,hz0,hz1,hz2⟩:=info_parts infoU8s;obtain⟨W',hrun,r1,r2⟩:=run_make_full (P:=prog) (w:=W) W.heap.size 65 5 i0 _ 1 underlying65 hi hz0 hz1 .i64 .i64 8 (by rw[hz2]; omega) (by unfold maxLen; omega) (zl _);have hbW:Below W.heap.size W W':=(zB _ _).grown r2 (zl _) (fun k hk=>by cases hk);refine iT (v:=.slice (some ⟨W.heap.size,0,none⟩) 8 8) hbW ⟨_,rfl,Bx.bM (vJ r1)⟩ fun K hK=>?_
    clear hc r1 r2;unfold Oper.wp;rw[show((8:Nat):Int)=8 from rfl]at hrun;simp[execOp,Act.eval,hrun,Result.andThen];exact hK
   try case s8=>
    intro a W hc hsz hold ah hnot;have x7:=ah 7 (by kernel_rfl) rfl _ rfl;have g8:=zV 53 (.bool true) (ah 1 (by kernel_rfl) rfl _ rfl);clear hsz hold ah hnot;refine ai rfl ((aS (want:=true) rfl rfl g8).trans rfl) ?_;obtain⟨g,d7,hN⟩:=x7;replace d7:a.tmps.getD 59 undef=.slice (some ⟨g,0,none⟩) 8 8:=d7;have hst:=dV (dst:=9) underlying65 underlying5 underlying9 (Rd.adC hN (by simp));replace hst:(convert 65 9 (.slice (some ⟨g,0,none⟩) 8 8)).run prog W=.ok (.string (str (List.replicate 8 0))) W:=hst;rw[<-HZ.out,<-HZS.out]at hst;clear hN;refine ak (v:=.string ZS) (zB _ _) rfl fun K hK=>?_
    go_simp;exact hK
   try case s9=>
    intro a W hc hsz hold ah hnot;have d6:=zV 58 (.string ZS) (ah 6 (by kernel_rfl) rfl _ rfl);have d8:=zV 60 (.string ZS) (ah 8 (by kernel_rfl) rfl _ rfl);have g9:=zV 53 (.bool true) (ah 1 (by kernel_rfl) rfl _ rfl);clear hsz hold ah hnot;refine ai rfl ((aS (want:=true) rfl rfl g9).trans rfl) ?_;clear g9;refine ak (v:=.bool true) (zB _ _) rfl fun K hK=>?_
    go_simp;exact hK
   ·intro a W hC hd hsz hold hval;have d11:a.tmps.getD 11 undef=.bool true:=hval 11 _ rfl rfl;obtain⟨G,hG,ha⟩:=cO [11,52,53,54,55,56,57,58,59,60,61,62] (by kernel_rfl) hd hsz hold;simp only[hG]at d11;rw[ha];clear ha hG hd hsz hold;simp only[bI,List.setIfInBounds_toArray,List.set,d11];clear d11;have HOa:=zH (HO8.out.call hC);have HQa:=zH (HQ8.out.call hC);have HMa:=zH (HM8.out.call hC);have HAa:=zH (HA8.out.trans (hC.mono HA8.out.size));clear hval hC;go_wp2_with fail;refine(HCK.out _).mono ?_;rintro e wb ⟨rfl,hbb⟩;have HOb:=zH (HOa.out.call hbb);have HQb:=zH (HQa.out.call hbb);have HMb:=zH (HMa.out.call hbb);have HAb:=zH (HAa.out.trans (hbb.mono HAa.out.size));clear hbb;have m0:=HMb.out.cell (i:=0) rfl;have m1:=HMb.out.cell (i:=1) rfl;have m2:=HMb.out.cell (i:=2) rfl;go_upto_region 18 with (fail)
    go_wp2_with fail;refine(VY.out _).mono ?_;rintro e wc ⟨rfl,hbc⟩;have hQ:=HQb.out.call hbc;have hO:=HOb.out.call hbc;have hle:=HAb.out.trans (hbc.mono HAb.out.size);clear hbc m0 m1 m2;have p0:=hQ.cell (i:=0) rfl;have hf:=hQ.free;have hlt:=hQ.lt;have hgw:w.heap.size<=gq:=by have h1:=Z4.out; have h2:=ng.out; omega
    have YT:Hid (Bx (bg wc gq 0 [.int .i64 aj]) gq 157 [.int .i64 aj,.int .i64 0,.int .i64 0,.int .i64 0,.int .i64 0,.int .i64 0,.string D]):=zH (hQ.bg [.int .i64 aj] 0);have Q3:Hid (Bx (bg wc gq 0 [.int .i64 aj]) ob 157 [.int .i64 0,.int .i64 0,.int .i64 0,.int .i64 0,.int .i64 0,.int .i64 0,.string ⟨#[]⟩]):=zH (hO.setOther (Nat.ne_of_lt Z4.out));have HAc:=zH (Below.bg hgw [.int .i64 aj] 0 hle);clear hQ hO hle hgw;go_upto_region 19 with (fail)
    change Code.wp _ _ _ _ (bg wc gq 0 [.int .i64 aj]);clear p0 hf hlt;generalize bg wc gq 0 [.int .i64 aj]=wd at YT Q3 HAc ⊢;have p0:=YT.out.cell (i:=0) rfl;have o0:=Q3.out.cell (i:=0) rfl;have p1:=YT.out.cell (i:=1) rfl;have o1:=Q3.out.cell (i:=1) rfl;have p2:=YT.out.cell (i:=2) rfl;have o2:=Q3.out.cell (i:=2) rfl;have p3:=YT.out.cell (i:=3) rfl;have o3:=Q3.out.cell (i:=3) rfl;have p4:=YT.out.cell (i:=4) rfl;have o4:=Q3.out.cell (i:=4) rfl;have p5:=YT.out.cell (i:=5) rfl;have o5:=Q3.out.cell (i:=5) rfl;have p6:=YT.out.cell (i:=6) rfl;have o6:=Q3.out.cell (i:=6) rfl;have hf:=Q3.out.free;have hlt:=Q3.out.lt;have how:w.heap.size<=ob:=Nat.le_of_eq ng.out.symm;have hF:=Q3.out.bg [.int .i64 aj,.int .i64 0,.int .i64 0,.int .i64 0,.int .i64 0,.int .i64 0,.string D] 0;have HF:=zH hF;have HLF:=zH (Below.bg how [.int .i64 aj,.int .i64 0,.int .i64 0,.int .i64 0,.int .i64 0,.int .i64 0,.string D] 0 HAc.out);clear hF how;go_wp2_with fail;have r0:=HF.out.cell (i:=0) rfl;have r1:=HF.out.cell (i:=1) rfl;have r2:=HF.out.cell (i:=2) rfl;have r3:=HF.out.cell (i:=3) rfl;have r4:=HF.out.cell (i:=4) rfl;have r5:=HF.out.cell (i:=5) rfl;have r6:=HF.out.cell (i:=6) rfl;simp only[bg,Nat.zero_add,Nat.reduceAdd]at r0 r1 r2 r3 r4 r5 r6;exact zr (v:=.tuple #[.agg #[.int .i64 aj,.int .i64 0,.int .i64 0,.int .i64 0,.int .i64 0,.int .i64 0,.string D],.int .i64 0]) (by simp[results,results75,go_sem,r0,r1,r2,r3,r4,r5,r6]) rfl ⟨rfl,HLF.out⟩
def par(aj:Int)(d:List UInt8):List UInt8:=W8.ji (E8 aj d) (W8.yL 0) 138
def rec(aj:Int)(d:List UInt8):List UInt8:=oG (par aj d)
theorem xM(aj:Int){d:List UInt8}(h:d.length=2048):(par aj d).length=2352:=by unfold par;rw[W8.iR,qp aj h]
theorem Ec(aj:Int)(d:List UInt8):(rec aj d).length=2352:=uy _
theorem Nv(aj:Int){d:List UInt8}(h:d.length=2048):oG (rec aj d)=par aj d:=Qa (xM aj h)
theorem zk{aj:Int}{d:List UInt8}(h0:-150<=aj)(h1:aj<=449849)(hd:d.length=2048):Good (par aj d) aj d:=
 ⟨xM aj hd,hd,h0,h1,W8.Va (qp aj hd)⟩
theorem SI(aj:Int)(d:List UInt8)(hd:d.length=2048)(w:World):Calls prog 88 #[.string (str (E8 aj d)),.int .i64 0] w fun e w'=>e=.returned (.tuple #[.string (str (par aj d)),.int .i64 0])/\Below w.heap.size w w':=by have h:=W8.FK (E8 aj d) 0 w (by rw[qp aj hd]; omega);rw[W8.WV (qp aj hd) rfl]at h;dsimp only at h;unfold par;exact h
theorem KP(aj:Int)(d:List UInt8)(hd:d.length=2048)(w:World):Calls prog 69 #[.string (str (par aj d))] w fun e w'=>e=.returned (.tuple #[.string (str (rec aj d)),.int .i64 0])/\Below w.heap.size w w':=uz _ (xM aj hd) w
theorem Zt(c:UInt8):∀n,Lib.repeatL [c] n=List.replicate n c
 | 0=>rfl
 | n+1=>by rw[Lib.repeatL,Zt c n,List.replicate_succ]; rfl
theorem Yf(c:UInt8)(n:Nat)(hn:n<=1000000)(W:World):Calls prog 64 #[.string ⟨#[c]⟩,.int .i64 (n:Nat)] W fun e w'=>e=.returned (.string (str (List.replicate n c)))/\Below W.heap.size W w':=by
 have h:=strings_Repeat (⟨#[c]⟩:ByteArray) n W (by omega) (by simp[ByteArray.size]; omega);have e:(⟨(Lib.repeatL (⟨#[c]⟩:ByteArray).data.toList n).toArray⟩:ByteArray)=str (List.replicate n c):=by have h:(⟨#[c]⟩:ByteArray).data.toList = [c]:=rfl;rw[h,Zt];rfl
 rw[e]at h;exact h
def zD:List UInt8:=List.replicate 2048 0
theorem EE:zD.length=2048:=List.length_replicate ..
end T7
namespace T7
open Go Go.RowKit C9 oH
theorem afi(aj:Int)(d:List UInt8)(w:World)(h0:-150<=aj)(h1:aj<=449849)(hd:d.length=2048):
 Calls prog 40 #[.int .i64 aj,.string (str d)] w fun e w'=>e=.returned (.string (str (rec aj d)))/\Below w.heap.size w w':=by
 have HB:=zH (fun W=>LM aj d W h0 h1 hd);have HE:=zH (fun W=>SI aj d hd W);have HS:=zH (fun W=>KP aj d hd W);unfold Hw at HB;generalize str (rec aj d)=R at *;generalize str (par aj d)=P at *;generalize str (E8 aj d)=BL at *;generalize str d=D at *;clear h0 h1 hd;go_enter func40,ntmps40;go_wp2_with fail;refine(HB.out w).mono ?_;rintro e w1 ⟨rfl,hb1⟩;go_wp2_with fail;refine(HE.out w1).mono ?_;rintro e w2 ⟨rfl,hb2⟩;go_wp2_with fail;refine(HS.out w2).mono ?_;rintro e w3 ⟨rfl,hb3⟩;have h2:=hb1.trans (hb2.mono hb1.size);have HL:=zH (h2.trans (hb3.mono h2.size));clear hb1 hb2 hb3 h2;go_wp2_with fail;go_ret;exact⟨rfl,HL.out⟩
def Ar(n:Nat)(x:List UInt8):Bool:=decide (x.length≠n)
end T7
end Go.Proofs.YtfnehkmhcmkhjaaGreat
