/- Parts:XKh XKi -/
import Derived.Test.YtfnehkmhcmkhjaaGreatDvAl
import Derived.Test.YtfnehkmhcmkhjaaGreatDv38
import Derived.Test.YtfnehkmhcmkhjaaGreatDv37
import Derived.Maps.AppendAt
set_option maxRecDepth 100000
set_option maxHeartbeats 8000000
set_option linter.unusedVariables false
namespace Go.Proofs.YtfnehkmhcmkhjaaGreat
open Tryz
namespace T7
open Go Go.RowKit C9 oH
theorem gI{P:Program}{Q:Exit->Act->World->Prop}{R:World->World->Prop}{V:Nat->Value->(Nat->Value)->World->Prop}{d:Nat->Value}{i:Nat}{o:Oper}{a:Act}{w:World}(h:∀K:Act->World->Prop,(∀v w',R w w'->V i (kept o.dst v) d w'->K (a.put o.dst v) w')->o.wp P a w K Q):
 o.wp P a w (fun a' w'=>∃v,a'=a.put o.dst v/\R w w'/\V i (kept o.dst v) d w') Q:=h _ fun v w' h1 h2=>⟨v,rfl,h1,h2⟩
theorem KD{w:World}{v:Value}{l:List T.az}(h:aW w v l)(hl:l≠[]):∀k,v.ownBlock=some k->k<w.heap.size:=fun k hk=>by obtain⟨a,c,b,off,rfl,hac,hcell⟩:=h;obtain⟨ha,hr⟩:=hcell 0 (List.length_pos_iff.2 hl);subst ha;obtain rfl:b=k:=zs hk;exact zc w _ (hr 0 _ rfl)
theorem gm.below{w w':World}{B:Nat}{v:Value}{l:List T.az}(h:gm w B v l)(hb:Below w.heap.size w w'):gm w' B v l:=⟨aW.keep h.1 hb,h.2⟩
structure PD.Ok (D:PD) (N:Nat):Prop where
 kind:D.kind=1
 md:D.M.Ok N
 v:T.aQ D.n D.cl D.fin D.tr
 a:D.sA.length<=20000
 b:D.sB.length<=20000
 ca:∀x ∈ D.ca,NQ x
 n64:D.ca.length<=64
theorem tK{cap cl:Int}{fin:Bool}{l:List T.az}(h:T.aQ cap cl fin l):E1.Fine l/\cl<=9223372036854775807:=⟨.inl (gz h),by have:=h.2.2.2.2.1; omega⟩
section
variable {D:PD} {N:Nat}
theorem PD.Ok.fit(h:D.Ok N):D.Fit N:=⟨h.md,⟨(tK h.v).1,(tK h.v).2,h.a,h.b⟩,h.ca,h.n64⟩
theorem NC(hf:D.tr.length<=900)(ha:D.sA.length<=20000)(hb:D.sB.length<=20000):(qW D).1.length<=20000/\(qW D).2.length<=20000:=by
 have hl:∀q:Int,(E1.dA q D.cl D.fin D.tr).length<=20000:=fun q=>by have:=E1.xC q D.cl D.fin D.tr;unfold E1.dA;rw[List.length_append];have:(xA.jW (C.crc 0 (E1.iP q D.cl D.fin D.tr))).length<=2:=zl _;omega
 unfold qW;by_cases h0:(E1.jR D.n D.sA D.sB D.cl D.fin D.tr).2=0
 ·rw[zj h0];revert h0;unfold E1.jR;by_cases h1:T.aF D.n D.cl D.fin D.tr=false
  ·rw[zj h1]; exact fun _=>⟨Nat.zero_le _,Nat.zero_le _⟩
  ·rw[zi h1];by_cases h2:2147483647<E1.pJ D.n D.sA D.sB
   ·rw[zj h2]; exact fun _=>⟨Nat.zero_le _,Nat.zero_le _⟩
   ·rw[zi h2];intro _;by_cases h3:E1.iq D.n D.sA D.sB=true
    ·rw[zj h3]; exact⟨ha,hl _⟩
    ·rw[zi h3]; exact⟨hl _,hb⟩
 ·rw[zi h0]; exact⟨ha,hb⟩
theorem PD.Ok.VO(h:D.Ok N):(mX D).Ok N:=by have hl:=NC (by have:=h.v.2.2.1; omega) h.a h.b;exact⟨h.kind,h.md,h.v,hl.1,hl.2,h.ca,h.n64⟩
theorem PD.Ok.flush(h:D.Ok N){N':Nat}(hm:(jm D.M D.ca).1.Ok N'):({ D with M:=(jm D.M D.ca).1,ca:=[] }:PD).Ok N':=⟨h.kind,hm,h.v,h.a,h.b,fun x hx=>(by cases hx),Nat.zero_le _⟩
theorem PD.Ok.sU(h:D.Ok N){cl:Int}{fin:Bool}{l:List T.az}(hv:T.aQ D.n cl fin l):(D.sU cl fin l).Ok N:=⟨h.kind,h.md,hv,h.a,h.b,h.ca,h.n64⟩
end
theorem NJ{cap cl cl':Int}{fin fin':Bool}{l l':List T.az}(hv:T.aQ cap cl fin l)(h:T.Step cap cl fin l cl' fin' l'):l'≠[]:=by
 have hl:∀{l:List T.az}{i:Nat},i<l.length->l≠[]:=fun h e=>by subst e; exact absurd h (Nat.not_lt_zero _)
 rcases h with ⟨h0,rfl,rfl,c,pk,h1,h2,h3,h4,rfl⟩ | ⟨rfl,rfl,k,c,h1,h2,h3,h4,rfl⟩ | ⟨rfl,rfl,k,h1,h2,h3,rfl⟩ | ⟨h0,rfl,rfl,h1,i,h2,h3⟩ | ⟨h0,rfl,rfl,rfl,h1,h2,h3⟩
 ·simp
 ·exact hl (i:=k) (by simpa using h1)
 ·exact hl (i:=k) (by simpa using h1)
 ·exact hl h2
 ·rintro rfl;have:=hv.2.2.2.2.2.2.1;have:=hv.2.2.2.1;simp at *;omega
noncomputable def xn(K:Int->Int)(r:eY)(D:PD):Rp×PD:=if r.code=0 then(uC D,RN D r.cl r.fin r.l) else(Rp.sense (K r.code) 0,D)
structure OpG (D:PD) (r:eY) (K:Int->Int) (f:Int->Option Value):Prop where
 st:r.code=0->T.Step D.n D.cl D.fin D.tr r.cl r.fin r.l
 key:r.code≠0->f r.code=some (.int .i64 (K r.code))
 lo:-9223372036854775808<=r.code
 hi:r.code<=9223372036854775807
theorem yA{w w0:World}{p pm N:Nat}{D:PD}{vt vc:Value}{E:World->Prop}{EX Xm Rm X0 R0:Nat->Prop}(h:fH w p D pm none vt vc E EX Xm Rm)(hc:Ch X0 R0 (DX p vc EX Xm) (DR vt Rm) w0 w)(ho:D.Ok N)(hN:N<=4611686018427380000)
 (r:eY)(K:Int->Int){f:Int->Option Value}(hg:OpG D r K f){b n:Nat}(hm:MF 66 w b n f){n0:Nat}{v:Value}(hv:gm w n0 v r.l)(hn:w0.heap.size<=n0)(hlo:∀b,DX p vc EX Xm b\/DR vt Rm b->b<n0):
 Calls prog 157 #[.pointer (some ⟨p,0,none⟩),au r.cl r.fin v,.int .i64 r.code,.map (some b)] w (oK w0 X0 R0 p pm none E EX (N+64) (xn K r D).1 (xn K r D).2):=by
 unfold xn;by_cases h0:r.code=0
 ·have hs:=hg.st h0;have hv':=hs.valid ho.v;rw[zj h0,h0];have hsl:=NC (D:={ D with M:=(jm D.M D.ca).1,ca:=[] }) (show D.tr.length<=900 by have:=ho.v.2.2.1; omega) ho.a ho.b;exact Oc h hc ho.kind ho.fit hN r.cl r.fin v r.l ⟨hv.1,KD hv.1 (NJ ho.v hs),fun k hk hx=>by have:=hlo k (.inl hx); have:=hv.2 k hk; omega⟩ (fun k hk=>.inr (by have:=hv.2 k hk; omega)) (tK hv').1 (tK hv').2 hsl _
 ·rw[zi h0];exact(I9 h hc ho.kind ho.md r.cl r.fin v h0 hg.lo hg.hi hm (hg.key h0)).mono fun e w' ⟨vt,vc,X2,R2,h1,h2,h3,h4⟩=>⟨vt,vc,X2,R2,h1,h2,h3,h4.mono (by omega)⟩
def L8(p n0 n b3:Nat)(cl:Int)(fin:Bool)(vt:Value)(aj cnt aN pk:Int)(r:eY)(i:Nat)(v:Value)(d:Nat->Value)(W:World):Prop:=match i with
 | 0=>v=.pointer (some ⟨p,0,none⟩)
 | 1=>v=.pointer (some ⟨p,0,none⟩)
 | 2=>v=.pointer (some ⟨p,1,none⟩)
 | 3=>v=.int .i64 n
 | 4=>v=.pointer (some ⟨p,0,none⟩)
 | 5=>v=.pointer (some ⟨p,0,none⟩)
 | 6=>v=.pointer (some ⟨p,4,none⟩)
 | 7=>v=.agg #[.int .i64 cl,.bool fin,vt]
 | 8=>v=.pointer (some ⟨b3,2,none⟩)
 | 9=>v=.int .i64 cnt
 | 10=>v=.pointer (some ⟨b3,4,none⟩)
 | 11=>v=.int .i64 pk
 | 12=>∃v':Value,v=.tuple #[au r.cl r.fin v',.int .i64 r.code]/\gm W n0 v' r.l
 | 13=>∃v':Value,v=.tuple #[au r.cl r.fin v',.int .i64 r.code]/\gm W n0 v' r.l
 | 14=>∃v':Value,v=au r.cl r.fin v'/\gm W n0 v' r.l
 | 15=>v=.int .i64 r.code
 | 16=>∃g,v=.pointer (some ⟨g,0,none⟩)/\n0<=g/\∃cs:List Value,cs.length=3/\Bx W g 37 cs
 | 17=>∃g,d 16=.pointer (some ⟨g,0,none⟩)/\n0<=g/\∃cs:List Value,cs.length=3/\Bx W g 37 cs/\(fun W cs=>∃v':Value,cs = [.int .i64 r.cl,.bool r.fin,v']/\gm W n0 v' r.l) W cs
 | 18=>v=.int .i64 r.code
 | _=>True
theorem Jn(p n0 n b3:Nat)(cl:Int)(fin:Bool)(vt:Value)(aj cnt aN pk:Int)(r:eY)(i:Nat)(v:Value)(d:Nat->Value)(W W':World)(hR:(aI n0 37 3 (fun W cs=>∃v':Value,cs = [.int .i64 r.cl,.bool r.fin,v']/\gm W n0 v' r.l)) W W')(h:L8 p n0 n b3 cl fin vt aj cnt aN pk r i v d W):L8 p n0 n b3 cl fin vt aj cnt aN pk r i v d W':=by
 by_cases h12:i=12
 ·subst h12;obtain⟨v',h1,h2⟩:=h;exact⟨v',h1,aI.dW hR (by decide) h2.1,h2.2⟩
 by_cases h13:i=13
 ·subst h13;obtain⟨v',h1,h2⟩:=h;exact⟨v',h1,aI.dW hR (by decide) h2.1,h2.2⟩
 by_cases h14:i=14
 ·subst h14;obtain⟨v',h1,h2⟩:=h;exact⟨v',h1,aI.dW hR (by decide) h2.1,h2.2⟩
 by_cases h16:i=16
 ·subst h16;obtain⟨g,h1,h2,h3⟩:=h;exact⟨g,h1,h2,aI.some hR h3⟩
 by_cases h17:i=17
 ·subst h17;obtain⟨g,h1,h2,h3⟩:=h;exact⟨g,h1,h2,aI.full hR (fun cs h=>(by obtain⟨v',h1,h2⟩:=h; exact⟨v',h1,aI.dW hR (by decide) h2.1,h2.2⟩)) h3⟩
 unfold L8 at h ⊢;split at h <;> first | exact h | exact absurd rfl h12 | exact absurd rfl h13 | exact absurd rfl h14 | exact absurd rfl h16 | exact absurd rfl h17
theorem aaA{w w0:World}{p pm N:Nat}{D:PD}{vt vc:Value}{E:World->Prop}{EX Xm Rm X0 R0:Nat->Prop}(h:fH w p D pm none vt vc E EX Xm Rm)(hc:Ch X0 R0 (DX p vc EX Xm) (DR vt Rm) w0 w)(ho:D.Ok N)(hN:N<=4611686018427380000)
 (k aj cnt aN pk:Int)(hi:i64 cnt)(a5:Option Addr)(n5 c5:Nat)(K:Int->Int)(r:eY)(hr:r=bZ D.n D.cl D.fin D.tr cnt pk)(hg:OpG D r K (ja (ja (ja (ja (fun _=>none) 15 (.int .i64 5)) 1 (.int .i64 4)) 7 (.int .i64 7)) 12 (.int .i64 7))):
 Calls prog 79 #[.pointer (some ⟨p,0,none⟩),dR k aj cnt aN pk (.slice a5 n5 c5)] w (oK w0 X0 R0 p pm none E EX (N+64) (xn K r D).1 (xn K r D).2):=by
 obtain⟨w1,hw1⟩:∃w1,w1=(w.alloc (.cells #[.int .i64 k,.int .i64 aj,.int .i64 cnt,.int .i64 aN,.int .i64 pk,.slice a5 n5 c5] 49)).alloc (.cells aO.toArray 58):=⟨_,rfl⟩;obtain⟨b3,hb3⟩:∃b,b=w.heap.size:=⟨_,rfl⟩;obtain⟨b4,hb4⟩:∃b,b=w.heap.size+1:=⟨_,rfl⟩;have hA1:=(zB w.heap.size w).alloc (zl _) (.cells #[.int .i64 k,.int .i64 aj,.int .i64 cnt,.int .i64 aN,.int .i64 pk,.slice a5 n5 c5] 49);have hA:=hA1.alloc hA1.size (.cells aO.toArray 58);have bT:Bx ((w.alloc (.cells #[.int .i64 k,.int .i64 aj,.int .i64 cnt,.int .i64 aN,.int .i64 pk,.slice a5 n5 c5] 49)).alloc (.cells aO.toArray 58)) w.heap.size 49 [.int .i64 k,.int .i64 aj,.int .i64 cnt,.int .i64 aN,.int .i64 pk,.slice a5 n5 c5]:=(Bx.new w 49 [.int .i64 k,.int .i64 aj,.int .i64 cnt,.int .i64 aN,.int .i64 pk,.slice a5 n5 c5]).alloc _;have hbx:=Bx.new (w.alloc (.cells #[.int .i64 k,.int .i64 aj,.int .i64 cnt,.int .i64 aN,.int .i64 pk,.slice a5 n5 c5] 49)) 58 aO;rw[<-hw1]at hA hbx bT;rw[World.size_alloc,<-hb4]at hbx;rw[<-hb3]at bT;have hd1:=h.below hA;have HT1:=zH (hc.trans (Ch.of hA));have HD1:=zH hd1;have ny:=zH hbx;have QG:=zH h.lo;obtain⟨n0,hn0⟩:∃n,n=w1.heap.size:=⟨_,rfl⟩;have lD:=zH hn0;have HB4:Hid (w.heap.size<=n0/\b4<n0/\w.heap.size<=b4/\w0.heap.size<=w.heap.size):=zH ⟨by rw[hn0]; exact hA.size,by rw[hn0]; exact hbx.lt,by omega,hc.size⟩;have QH:Hid (∀W,Below n0 w1 W->Calls prog 156 #[.int .i64 D.n,.agg #[.int .i64 D.cl,.bool D.fin,vt],.int .i64 cnt,.int .i64 pk] W (oL r W)):=zH fun W hW=>by rw[hr];exact Ef D.n D.cl D.fin vt D.tr cnt pk W (aW.keep hd1.tr (hW.mono (Nat.le_of_eq hn0.symm))) (gz ho.v) hi
 obtain⟨c0,c1,c2,c3,c4,oJ,c6,c7,c8,c9'⟩:=hd1.cells;have hpl:=hd1.box.lt;have jD:Hid (∀W,Below n0 w1 W->W.cell? ⟨p,1,none⟩=some (.int .i64 D.n)/\W.cell? ⟨p,4,none⟩=some (.int .i64 D.cl)/\W.cell? ⟨p,5,none⟩=some (.bool D.fin)/\W.cell? ⟨p,6,none⟩=some vt/\W.cell? ⟨b3,0,none⟩=some (.int .i64 k)/\W.cell? ⟨b3,1,none⟩=some (.int .i64 aj)/\W.cell? ⟨b3,2,none⟩=some (.int .i64 cnt)/\W.cell? ⟨b3,3,none⟩=some (.int .i64 aN)/\W.cell? ⟨b3,4,none⟩=some (.int .i64 pk)):=zH fun W hW=>by have hx:=bT.call (by rw[hn0]at hW; exact hW);exact⟨(hW.cell (p:=⟨p,1,none⟩) (by rw[hn0]; exact hpl)).trans c1,(hW.cell (p:=⟨p,4,none⟩) (by rw[hn0]; exact hpl)).trans c4,(hW.cell (p:=⟨p,5,none⟩) (by rw[hn0]; exact hpl)).trans oJ,(hW.cell (p:=⟨p,6,none⟩) (by rw[hn0]; exact hpl)).trans c6,hx.cell (i:=0) rfl,hx.cell (i:=1) rfl,hx.cell (i:=2) rfl,hx.cell (i:=3) rfl,hx.cell (i:=4) rfl⟩
 have HW1:Hid ((w.alloc (.cells #[.int .i64 k,.int .i64 aj,.int .i64 cnt,.int .i64 aN,.int .i64 pk,.slice a5 n5 c5] 49)).alloc (.cells #[.int .i64 0,.int .i64 0,.slice none 0 0,.int .i64 0,.bool false,.slice none 0 0] 58)=w1):=zH hw1.symm;have qh:=zH hb4;have HB3:=zH hb3;have HO:=zH ho;have HG:=zH hg;obtain⟨Z,hZ⟩:∃Z,Z=xn K r D:=⟨_,rfl⟩;have HZ:=zH hZ.symm;rw[<-hZ];clear hZ;obtain⟨n,hn⟩:∃n,n=D.n:=⟨_,rfl⟩;obtain⟨cl,hcl⟩:∃n,n=D.cl:=⟨_,rfl⟩;obtain⟨fin,hfin⟩:∃n,n=D.fin:=⟨_,rfl⟩;rw[<-hn,<-hcl,<-hfin]at jD QH;clear hw1 hb3 hb4 hA1 hA hbx bT h hc ho hg hd1 hr c0 c1 c2 c3 c4 oJ c6 c7 c8 c9' hpl hn0 hn hcl hfin;unfold dR;go_enter func79,ntmps79;go_upto_region 1 with (fail)
 rw[HW1.out,<-qh.out,<-HB3.out];refine dw (by kernel_rfl) (aI n0 37 3 (fun W cs=>∃v':Value,cs = [.int .i64 r.cl,.bool r.fin,v']/\gm W n0 v' r.l)) (fun W=>Below n0 w1 W) (L8 p n0 n b3 cl fin vt aj cnt aN pk r) (fun _=>false) (by kernel_rfl) (fun W W' hR h=>h.trans hR.1) (Jn p n0 n b3 cl fin vt aj cnt aN pk r) ((zB _ _).drew) ⟨?_,?_,?_,?s3,?_,?_,?_,?s7,?_,?s9,?_,?s11,?s12,?s13,?s14,?s15,?s16,?s17,?_,trivial⟩ ?_;all_goals first
  | (intro a W hc hsz hold ah
     have o0:a.tmps.getD 0 undef=.pointer (some ⟨p,0,none⟩):=hold 0 (by kernel_rfl);have o3:a.tmps.getD 3 undef=.pointer (some ⟨b3,0,none⟩):=hold 3 (by kernel_rfl);try have d0:=zV 8 (.pointer (some ⟨p,0,none⟩)) (ah 0 rfl rfl _ rfl)
     try have d1:=zV 9 (.pointer (some ⟨p,0,none⟩)) (ah 1 rfl rfl _ rfl)
     try have d4:=zV 12 (.pointer (some ⟨p,0,none⟩)) (ah 4 rfl rfl _ rfl)
     try have d5:=zV 13 (.pointer (some ⟨p,0,none⟩)) (ah 5 rfl rfl _ rfl)
     try have d15:=zV 22 (.int .i64 r.code) (ah 15 rfl rfl _ rfl)
     clear hsz hold ah;refine ai rfl (ag rfl) ?_;refine aA aI.refl rfl fun K hK=>?_
     go_simp;exact hK)
  | skip
 try case s3=>
  intro a W hc hsz hold ah;have d2:=zV 10 (.pointer (some ⟨p,1,none⟩)) (ah 2 (by kernel_rfl) rfl _ rfl);obtain⟨q1,q4,q5,q6,z0,z1,z2,z3,z4⟩:=jD.out W hc;clear hsz hold ah;refine ai rfl (ag rfl) ?_;refine aA (v:=.int .i64 n) aI.refl rfl fun K hK=>?_
  go_simp;exact hK
 try case s7=>
  intro a W hc hsz hold ah;have d6:=zV 14 (.pointer (some ⟨p,4,none⟩)) (ah 6 (by kernel_rfl) rfl _ rfl);obtain⟨q1,q4,q5,q6,z0,z1,z2,z3,z4⟩:=jD.out W hc;clear hsz hold ah;refine ai rfl (ag rfl) ?_;refine aA (v:=.agg #[.int .i64 cl,.bool fin,vt]) aI.refl rfl fun K hK=>?_
  go_simp;exact hK
 try case s9=>
  intro a W hc hsz hold ah;have d8:=zV 16 (.pointer (some ⟨b3,2,none⟩)) (ah 8 (by kernel_rfl) rfl _ rfl);obtain⟨q1,q4,q5,q6,z0,z1,z2,z3,z4⟩:=jD.out W hc;clear hsz hold ah;refine ai rfl (ag rfl) ?_;refine aA (v:=.int .i64 cnt) aI.refl rfl fun K hK=>?_
  go_simp;exact hK
 try case s11=>
  intro a W hc hsz hold ah;have d10:=zV 18 (.pointer (some ⟨b3,4,none⟩)) (ah 10 (by kernel_rfl) rfl _ rfl);obtain⟨q1,q4,q5,q6,z0,z1,z2,z3,z4⟩:=jD.out W hc;clear hsz hold ah;refine ai rfl (ag rfl) ?_;refine aA (v:=.int .i64 pk) aI.refl rfl fun K hK=>?_
  go_simp;exact hK
 try case s12=>
  intro a W hc hsz hold ah;have d3:=zV 11 (.int .i64 n) (ah 3 (by kernel_rfl) rfl _ rfl);have e3:=zq d3;have d7:=zV 15 (.agg #[.int .i64 cl,.bool fin,vt]) (ah 7 (by kernel_rfl) rfl _ rfl);have e7:=zq d7;have d9:=zV 17 (.int .i64 cnt) (ah 9 (by kernel_rfl) rfl _ rfl);have e9:=zq d9;have d11:=zV 19 (.int .i64 pk) (ah 11 (by kernel_rfl) rfl _ rfl);have e11:=zq d11;clear hsz hold ah;refine ai rfl (ag rfl) ?_;refine gI fun K hK=>?_
  go_simp;refine(QH.out W hc).mono ?_;rintro e w' ⟨v',rfl,hF,hb'⟩;exact hK _ _ (aI.call (by rw[lD.out]; exact hc.size) hb') ⟨v',rfl,hF.1,fun k hk=>by have:=hF.2 k hk; have:=hc.size; have:=lD.out; omega⟩
 try case s13=>
  intro a W hc hsz hold ah;have x12:=ah 12 (by kernel_rfl) rfl _ rfl;clear hsz hold ah;refine ai rfl (ag rfl) ?_;obtain⟨v',hv,hF⟩:=x12;replace hv:a.tmps.getD 20 undef=.tuple #[au r.cl r.fin v',.int .i64 r.code]:=hv;have hw:=zq hv;unfold au at hv hw;refine bf (v:=.tuple #[au r.cl r.fin v',.int .i64 r.code]) aI.refl ⟨v',rfl,hF⟩ fun K hK=>?_
  unfold au at hK;go_simp;exact hK
 try case s14=>
  intro a W hc hsz hold ah;have x13:=ah 13 (by kernel_rfl) rfl _ rfl;clear hsz hold ah;refine ai rfl (ag rfl) ?_;obtain⟨v',hv,hF⟩:=x13;replace hv:a.tmps.getD 7 undef=.tuple #[au r.cl r.fin v',.int .i64 r.code]:=hv;have hw:=zq hv;unfold au at hv hw;refine bf (v:=au r.cl r.fin v') aI.refl ⟨v',rfl,hF⟩ fun K hK=>?_
  unfold au at hK;go_simp;exact hK
 try case s15=>
  intro a W hc hsz hold ah;have x13:=ah 13 (by kernel_rfl) rfl _ rfl;clear hsz hold ah;refine ai rfl (ag rfl) ?_;obtain⟨v',hv,hF⟩:=x13;replace hv:a.tmps.getD 7 undef=.tuple #[au r.cl r.fin v',.int .i64 r.code]:=hv;have hw:=zq hv;refine aA (v:=.int .i64 r.code) aI.refl rfl fun K hK=>?_
  go_simp;exact hK
 try case s16=>
  intro a W hc hsz hold ah;clear hsz hold ah;refine ai rfl (ag rfl) ?_;refine bf (v:=.pointer (some ⟨W.heap.size,0,none⟩)) (aI.alloc (by rw[lD.out]; exact hc.size) (.cells #[.int .i64 0,.bool false,.slice none 0 0] 37)) ⟨W.heap.size,rfl,(by rw[lD.out]; exact hc.size),[.int .i64 0,.bool false,.slice none 0 0],rfl,Bx.new _ _ _⟩ fun K hK=>?_
  go_simp;exact hK
 try case s17=>
  intro a W hc hsz hold ah;have x16:=ah 16 (by kernel_rfl) rfl _ rfl;have x14:=ah 14 (by kernel_rfl) rfl _ rfl;clear hsz hold ah;refine ai rfl (ag rfl) ?_;obtain⟨g,hg,hgB,cs,hl,hB⟩:=x16;replace hg:a.tmps.getD 5 undef=.pointer (some ⟨g,0,none⟩):=hg;have hlt:=hB.lt;have hf:=hB.free;have z0:∃v,W.cell? ⟨g,0,none⟩=some v:=⟨_,hB.cell (List.getElem?_eq_getElem (by rw[hl]; decide))⟩;obtain⟨u0,z0⟩:=z0;have z1:∃v,W.cell? ⟨g,1,none⟩=some v:=⟨_,hB.cell (List.getElem?_eq_getElem (by rw[hl]; decide))⟩;obtain⟨u1,z1⟩:=z1;have z2:∃v,W.cell? ⟨g,2,none⟩=some v:=⟨_,hB.cell (List.getElem?_eq_getElem (by rw[hl]; decide))⟩;obtain⟨u2,z2⟩:=z2;obtain⟨v',hv,hF⟩:=x14;replace hv:a.tmps.getD 21 undef=au r.cl r.fin v':=hv;obtain⟨a6,c6,rfl,_⟩:=bK.form hF.1;unfold au at hv;have hP:=(⟨.slice a6 r.l.length c6,rfl,aI.dW (aI.store (Φ:=fun _ _=>True) (t:=37) (B:=n0) (m:=3) (cs0:=[.int .i64 r.cl,.bool r.fin,.slice a6 r.l.length c6]) hgB rfl ⟨cs,hl,hB⟩ trivial) (by decide) hF.1,hF.2⟩:∃v2:Value,[.int .i64 r.cl,.bool r.fin,.slice a6 r.l.length c6] = [.int .i64 r.cl,.bool r.fin,v2]/\gm (bg W g 0 [.int .i64 r.cl,.bool r.fin,.slice a6 r.l.length c6]) n0 v2 r.l);refine bf (v:=undef) (aI.store (cs0:=[.int .i64 r.cl,.bool r.fin,.slice a6 r.l.length c6]) hgB rfl ⟨cs,hl,hB⟩ hP) ⟨g,hg,hgB,[.int .i64 r.cl,.bool r.fin,.slice a6 r.l.length c6],rfl,hB.full hl,hP⟩ fun K hK=>?_
  clear hB hl;go_simp;exact hK
 ·intro a W hC hd hsz hold hval;obtain⟨g,hg,hgB,cs,hcl,hcx,v',hcs,hF⟩:=hval 17 _ rfl rfl;have d5:a.tmps.getD 5 undef=.pointer (some ⟨g,0,none⟩):=hg;clear hg;subst hcs;have d6:a.tmps.getD 6 undef=.int .i64 r.code:=hval 18 _ rfl rfl;obtain⟨G,hG,ha⟩:=cO [5,6,7,8,9,10,11,12,13,14,15,16,17,18,19,20,21,22] (by kernel_rfl) hd hsz hold;simp only[hG]at d6 d5;rw[ha];clear ha hG hd hsz hold;simp only[bI,List.setIfInBounds_toArray,List.set,d6,d5];clear d6 d5;have hC:Below n0 w1 W:=hC;obtain⟨a6,c6,rfl,Dy⟩:=bK.form hF.1;have m0:=MF.made 66 W;have hm0:=(zB W.heap.size W).alloc (zl _) (.map #[] 0);obtain⟨u1,r1,m1,g1⟩:=m0.ins underlying66 underlying258 (by omega) 15 (by omega) (by omega) (.int .i64 5);have hm1:=hm0.grown g1 hm0.size (fun q hq=>Nat.le_of_eq (zs hq));clear g1;obtain⟨u2,r2,m2,g2⟩:=m1.ins underlying66 underlying258 (by omega) 1 (by omega) (by omega) (.int .i64 4);have hm2:=hm1.grown g2 hm1.size (fun q hq=>Nat.le_of_eq (zs hq));clear g2;obtain⟨u3,r3,m3,g3⟩:=m2.ins underlying66 underlying258 (by omega) 7 (by omega) (by omega) (.int .i64 7);have hm3:=hm2.grown g3 hm2.size (fun q hq=>Nat.le_of_eq (zs hq));clear g3;obtain⟨u4,r4,m4,g4⟩:=m3.ins underlying66 underlying258 (by omega) 12 (by omega) (by omega) (.int .i64 7);have hm4:=hm3.grown g4 hm3.size (fun q hq=>Nat.le_of_eq (zs hq));clear g4;have wZ:=hC.mono (Nat.le_of_eq lD.out.symm);have hB4:Below w1.heap.size w1 u4:=wZ.trans (hm4.mono wZ.size);have hd4:=HD1.out.below hB4;have Ir:=zH (yA hd4 (Ch.of (X:=DX p vc EX Xm) (R:=DR vt Rm) hB4) HO.out hN r K HG.out m4 (n0:=n0) (v:=.slice a6 r.l.length c6) (gm.below hF hm4) (Nat.le_of_eq lD.out.symm) (fun b hb=>by have:=QG.out b hb; have:=HB4.out.1; omega));rw[HZ.out]at Ir;unfold au at Ir;have g0:=hcx.cell (i:=0) rfl;have g1:=hcx.cell (i:=1) rfl;have g2:=hcx.cell (i:=2) rfl;have hmm:=@run_makeMap prog;clear hcx hF Dy hC wZ hB4 hd4 m4 hm4 hval;go_wp2_with fail;refine Ir.out.mono ?_;rintro e w7 ⟨vt7,vc7,X7,R7,rfl,hd7,xe,F9⟩;unfold dL;have a8:=jV xe (by have:=HB4.out.2.1; have:=lD.out; omega) (b:=b4) (fun b hb=>by have:=QG.out b hb; have:=HB4.out.2.2.1; omega);have hx7:Bx w7 b4 58 aO:=a8.2.trans ny.out;have HD7:=zH hd7;have kF:=zH (HT1.out.trans xe);have EN:=zH a8.1;have ni:=zH F9;unfold aO at hx7;have t0:=hx7.cell (i:=0) rfl;have t1:=hx7.cell (i:=1) rfl;have t2:=hx7.cell (i:=2) rfl;have t3:=hx7.cell (i:=3) rfl;have t4:=hx7.cell (i:=4) rfl;have t5:=hx7.cell (i:=5) rfl;have tf:=fun i=>hx7.free i
  clear hd7 xe hx7 a8 F9;go_wp2_with fail;exact zr (v:=dL Z.1 (.slice none 0 0) (.slice none 0 0)) (by simp[results,results79,go_sem,dL,t0,t1,t2,t3,t4,t5]) rfl ⟨vt7,vc7,X7,R7,rfl,dG HD7.out EN.out _ _ _ _ _ _,fB kF.out (by have:=HB4.out.2.2; omega) _ _ _ _ _ _,ni.out⟩
def WL(p n0 n b3:Nat)(cl:Int)(fin:Bool)(vt:Value)(aj cnt aN pk:Int)(r:eY)(i:Nat)(v:Value)(d:Nat->Value)(W:World):Prop:=match i with
 | 0=>v=.pointer (some ⟨p,0,none⟩)
 | 1=>v=.pointer (some ⟨p,0,none⟩)
 | 2=>v=.pointer (some ⟨p,1,none⟩)
 | 3=>v=.int .i64 n
 | 4=>v=.pointer (some ⟨p,0,none⟩)
 | 5=>v=.pointer (some ⟨p,0,none⟩)
 | 6=>v=.pointer (some ⟨p,4,none⟩)
 | 7=>v=.agg #[.int .i64 cl,.bool fin,vt]
 | 8=>v=.pointer (some ⟨b3,3,none⟩)
 | 9=>v=.int .i64 aN
 | 10=>∃v':Value,v=.tuple #[au r.cl r.fin v',.int .i64 r.code]/\gm W n0 v' r.l
 | 11=>∃v':Value,v=.tuple #[au r.cl r.fin v',.int .i64 r.code]/\gm W n0 v' r.l
 | 12=>∃v':Value,v=au r.cl r.fin v'/\gm W n0 v' r.l
 | 13=>v=.int .i64 r.code
 | 14=>∃g,v=.pointer (some ⟨g,0,none⟩)/\n0<=g/\∃cs:List Value,cs.length=3/\Bx W g 37 cs
 | 15=>∃g,d 14=.pointer (some ⟨g,0,none⟩)/\n0<=g/\∃cs:List Value,cs.length=3/\Bx W g 37 cs/\(fun W cs=>∃v':Value,cs = [.int .i64 r.cl,.bool r.fin,v']/\gm W n0 v' r.l) W cs
 | 16=>v=.int .i64 r.code
 | _=>True
theorem Oo(p n0 n b3:Nat)(cl:Int)(fin:Bool)(vt:Value)(aj cnt aN pk:Int)(r:eY)(i:Nat)(v:Value)(d:Nat->Value)(W W':World)(hR:(aI n0 37 3 (fun W cs=>∃v':Value,cs = [.int .i64 r.cl,.bool r.fin,v']/\gm W n0 v' r.l)) W W')(h:WL p n0 n b3 cl fin vt aj cnt aN pk r i v d W):WL p n0 n b3 cl fin vt aj cnt aN pk r i v d W':=by
 by_cases h10:i=10
 ·subst h10;obtain⟨v',h1,h2⟩:=h;exact⟨v',h1,aI.dW hR (by decide) h2.1,h2.2⟩
 by_cases h11:i=11
 ·subst h11;obtain⟨v',h1,h2⟩:=h;exact⟨v',h1,aI.dW hR (by decide) h2.1,h2.2⟩
 by_cases h12:i=12
 ·subst h12;obtain⟨v',h1,h2⟩:=h;exact⟨v',h1,aI.dW hR (by decide) h2.1,h2.2⟩
 by_cases h14:i=14
 ·subst h14;obtain⟨g,h1,h2,h3⟩:=h;exact⟨g,h1,h2,aI.some hR h3⟩
 by_cases h15:i=15
 ·subst h15;obtain⟨g,h1,h2,h3⟩:=h;exact⟨g,h1,h2,aI.full hR (fun cs h=>(by obtain⟨v',h1,h2⟩:=h; exact⟨v',h1,aI.dW hR (by decide) h2.1,h2.2⟩)) h3⟩
 unfold WL at h ⊢;split at h <;> first | exact h | exact absurd rfl h10 | exact absurd rfl h11 | exact absurd rfl h12 | exact absurd rfl h14 | exact absurd rfl h15
theorem acM{w w0:World}{p pm N:Nat}{D:PD}{vt vc:Value}{E:World->Prop}{EX Xm Rm X0 R0:Nat->Prop}(h:fH w p D pm none vt vc E EX Xm Rm)(hc:Ch X0 R0 (DX p vc EX Xm) (DR vt Rm) w0 w)(ho:D.Ok N)(hN:N<=4611686018427380000)
 (k aj cnt aN pk:Int)(a5:Option Addr)(n5 c5:Nat)(K:Int->Int)(r:eY)(hr:r=aY D.n D.cl D.fin D.tr aN)(hg:OpG D r K (ja (ja (fun _=>none) 6 (.int .i64 4)) 8 (.int .i64 1))):
 Calls prog 80 #[.pointer (some ⟨p,0,none⟩),dR k aj cnt aN pk (.slice a5 n5 c5)] w (oK w0 X0 R0 p pm none E EX (N+64) (xn K r D).1 (xn K r D).2):=by
 obtain⟨w1,hw1⟩:∃w1,w1=(w.alloc (.cells #[.int .i64 k,.int .i64 aj,.int .i64 cnt,.int .i64 aN,.int .i64 pk,.slice a5 n5 c5] 49)).alloc (.cells aO.toArray 58):=⟨_,rfl⟩;obtain⟨b3,hb3⟩:∃b,b=w.heap.size:=⟨_,rfl⟩;obtain⟨b4,hb4⟩:∃b,b=w.heap.size+1:=⟨_,rfl⟩;have hA1:=(zB w.heap.size w).alloc (zl _) (.cells #[.int .i64 k,.int .i64 aj,.int .i64 cnt,.int .i64 aN,.int .i64 pk,.slice a5 n5 c5] 49);have hA:=hA1.alloc hA1.size (.cells aO.toArray 58);have bT:Bx ((w.alloc (.cells #[.int .i64 k,.int .i64 aj,.int .i64 cnt,.int .i64 aN,.int .i64 pk,.slice a5 n5 c5] 49)).alloc (.cells aO.toArray 58)) w.heap.size 49 [.int .i64 k,.int .i64 aj,.int .i64 cnt,.int .i64 aN,.int .i64 pk,.slice a5 n5 c5]:=(Bx.new w 49 [.int .i64 k,.int .i64 aj,.int .i64 cnt,.int .i64 aN,.int .i64 pk,.slice a5 n5 c5]).alloc _;have hbx:=Bx.new (w.alloc (.cells #[.int .i64 k,.int .i64 aj,.int .i64 cnt,.int .i64 aN,.int .i64 pk,.slice a5 n5 c5] 49)) 58 aO;rw[<-hw1]at hA hbx bT;rw[World.size_alloc,<-hb4]at hbx;rw[<-hb3]at bT;have hd1:=h.below hA;have HT1:=zH (hc.trans (Ch.of hA));have HD1:=zH hd1;have ny:=zH hbx;have QG:=zH h.lo;obtain⟨n0,hn0⟩:∃n,n=w1.heap.size:=⟨_,rfl⟩;have lD:=zH hn0;have HB4:Hid (w.heap.size<=n0/\b4<n0/\w.heap.size<=b4/\w0.heap.size<=w.heap.size):=zH ⟨by rw[hn0]; exact hA.size,by rw[hn0]; exact hbx.lt,by omega,hc.size⟩;have QH:Hid (∀W,Below n0 w1 W->Calls prog 158 #[.int .i64 D.n,.agg #[.int .i64 D.cl,.bool D.fin,vt],.int .i64 aN] W (oL r W)):=zH fun W hW=>by rw[hr];exact Fz D.n D.cl D.fin vt D.tr aN W (aW.keep hd1.tr (hW.mono (Nat.le_of_eq hn0.symm))) (gz ho.v)
 obtain⟨c0,c1,c2,c3,c4,oJ,c6,c7,c8,c9'⟩:=hd1.cells;have hpl:=hd1.box.lt;have jD:Hid (∀W,Below n0 w1 W->W.cell? ⟨p,1,none⟩=some (.int .i64 D.n)/\W.cell? ⟨p,4,none⟩=some (.int .i64 D.cl)/\W.cell? ⟨p,5,none⟩=some (.bool D.fin)/\W.cell? ⟨p,6,none⟩=some vt/\W.cell? ⟨b3,0,none⟩=some (.int .i64 k)/\W.cell? ⟨b3,1,none⟩=some (.int .i64 aj)/\W.cell? ⟨b3,2,none⟩=some (.int .i64 cnt)/\W.cell? ⟨b3,3,none⟩=some (.int .i64 aN)/\W.cell? ⟨b3,4,none⟩=some (.int .i64 pk)):=zH fun W hW=>by have hx:=bT.call (by rw[hn0]at hW; exact hW);exact⟨(hW.cell (p:=⟨p,1,none⟩) (by rw[hn0]; exact hpl)).trans c1,(hW.cell (p:=⟨p,4,none⟩) (by rw[hn0]; exact hpl)).trans c4,(hW.cell (p:=⟨p,5,none⟩) (by rw[hn0]; exact hpl)).trans oJ,(hW.cell (p:=⟨p,6,none⟩) (by rw[hn0]; exact hpl)).trans c6,hx.cell (i:=0) rfl,hx.cell (i:=1) rfl,hx.cell (i:=2) rfl,hx.cell (i:=3) rfl,hx.cell (i:=4) rfl⟩
 have HW1:Hid ((w.alloc (.cells #[.int .i64 k,.int .i64 aj,.int .i64 cnt,.int .i64 aN,.int .i64 pk,.slice a5 n5 c5] 49)).alloc (.cells #[.int .i64 0,.int .i64 0,.slice none 0 0,.int .i64 0,.bool false,.slice none 0 0] 58)=w1):=zH hw1.symm;have qh:=zH hb4;have HB3:=zH hb3;have HO:=zH ho;have HG:=zH hg;obtain⟨Z,hZ⟩:∃Z,Z=xn K r D:=⟨_,rfl⟩;have HZ:=zH hZ.symm;rw[<-hZ];clear hZ;obtain⟨n,hn⟩:∃n,n=D.n:=⟨_,rfl⟩;obtain⟨cl,hcl⟩:∃n,n=D.cl:=⟨_,rfl⟩;obtain⟨fin,hfin⟩:∃n,n=D.fin:=⟨_,rfl⟩;rw[<-hn,<-hcl,<-hfin]at jD QH;clear hw1 hb3 hb4 hA1 hA hbx bT h hc ho hg hd1 hr c0 c1 c2 c3 c4 oJ c6 c7 c8 c9' hpl hn0 hn hcl hfin;unfold dR;go_enter func80,ntmps80;go_upto_region 1 with (fail)
 rw[HW1.out,<-qh.out,<-HB3.out];refine dw (by kernel_rfl) (aI n0 37 3 (fun W cs=>∃v':Value,cs = [.int .i64 r.cl,.bool r.fin,v']/\gm W n0 v' r.l)) (fun W=>Below n0 w1 W) (WL p n0 n b3 cl fin vt aj cnt aN pk r) (fun _=>false) (by kernel_rfl) (fun W W' hR h=>h.trans hR.1) (Oo p n0 n b3 cl fin vt aj cnt aN pk r) ((zB _ _).drew) ⟨?_,?_,?_,?s3,?_,?_,?_,?s7,?_,?s9,?s10,?s11,?s12,?s13,?s14,?s15,?_,trivial⟩ ?_;all_goals first
  | (intro a W hc hsz hold ah
     have o0:a.tmps.getD 0 undef=.pointer (some ⟨p,0,none⟩):=hold 0 (by kernel_rfl);have o3:a.tmps.getD 3 undef=.pointer (some ⟨b3,0,none⟩):=hold 3 (by kernel_rfl);try have d0:=zV 8 (.pointer (some ⟨p,0,none⟩)) (ah 0 rfl rfl _ rfl)
     try have d1:=zV 9 (.pointer (some ⟨p,0,none⟩)) (ah 1 rfl rfl _ rfl)
     try have d4:=zV 12 (.pointer (some ⟨p,0,none⟩)) (ah 4 rfl rfl _ rfl)
     try have d5:=zV 13 (.pointer (some ⟨p,0,none⟩)) (ah 5 rfl rfl _ rfl)
     try have d13:=zV 20 (.int .i64 r.code) (ah 13 rfl rfl _ rfl)
     clear hsz hold ah;refine ai rfl (ag rfl) ?_;refine aA aI.refl rfl fun K hK=>?_
     go_simp;exact hK)
  | skip
 try case s3=>
  intro a W hc hsz hold ah;have d2:=zV 10 (.pointer (some ⟨p,1,none⟩)) (ah 2 (by kernel_rfl) rfl _ rfl);obtain⟨q1,q4,q5,q6,z0,z1,z2,z3,z4⟩:=jD.out W hc;clear hsz hold ah;refine ai rfl (ag rfl) ?_;refine aA (v:=.int .i64 n) aI.refl rfl fun K hK=>?_
  go_simp;exact hK
 try case s7=>
  intro a W hc hsz hold ah;have d6:=zV 14 (.pointer (some ⟨p,4,none⟩)) (ah 6 (by kernel_rfl) rfl _ rfl);obtain⟨q1,q4,q5,q6,z0,z1,z2,z3,z4⟩:=jD.out W hc;clear hsz hold ah;refine ai rfl (ag rfl) ?_;refine aA (v:=.agg #[.int .i64 cl,.bool fin,vt]) aI.refl rfl fun K hK=>?_
  go_simp;exact hK
 try case s9=>
  intro a W hc hsz hold ah;have d8:=zV 16 (.pointer (some ⟨b3,3,none⟩)) (ah 8 (by kernel_rfl) rfl _ rfl);obtain⟨q1,q4,q5,q6,z0,z1,z2,z3,z4⟩:=jD.out W hc;clear hsz hold ah;refine ai rfl (ag rfl) ?_;refine aA (v:=.int .i64 aN) aI.refl rfl fun K hK=>?_
  go_simp;exact hK
 try case s10=>
  intro a W hc hsz hold ah;have d3:=zV 11 (.int .i64 n) (ah 3 (by kernel_rfl) rfl _ rfl);have e3:=zq d3;have d7:=zV 15 (.agg #[.int .i64 cl,.bool fin,vt]) (ah 7 (by kernel_rfl) rfl _ rfl);have e7:=zq d7;have d9:=zV 17 (.int .i64 aN) (ah 9 (by kernel_rfl) rfl _ rfl);have e9:=zq d9;clear hsz hold ah;refine ai rfl (ag rfl) ?_;refine gI fun K hK=>?_
  go_simp;refine(QH.out W hc).mono ?_;rintro e w' ⟨v',rfl,hF,hb'⟩;exact hK _ _ (aI.call (by rw[lD.out]; exact hc.size) hb') ⟨v',rfl,hF.1,fun k hk=>by have:=hF.2 k hk; have:=hc.size; have:=lD.out; omega⟩
 try case s11=>
  intro a W hc hsz hold ah;have x10:=ah 10 (by kernel_rfl) rfl _ rfl;clear hsz hold ah;refine ai rfl (ag rfl) ?_;obtain⟨v',hv,hF⟩:=x10;replace hv:a.tmps.getD 18 undef=.tuple #[au r.cl r.fin v',.int .i64 r.code]:=hv;have hw:=zq hv;unfold au at hv hw;refine bf (v:=.tuple #[au r.cl r.fin v',.int .i64 r.code]) aI.refl ⟨v',rfl,hF⟩ fun K hK=>?_
  unfold au at hK;go_simp;exact hK
 try case s12=>
  intro a W hc hsz hold ah;have x11:=ah 11 (by kernel_rfl) rfl _ rfl;clear hsz hold ah;refine ai rfl (ag rfl) ?_;obtain⟨v',hv,hF⟩:=x11;replace hv:a.tmps.getD 7 undef=.tuple #[au r.cl r.fin v',.int .i64 r.code]:=hv;have hw:=zq hv;unfold au at hv hw;refine bf (v:=au r.cl r.fin v') aI.refl ⟨v',rfl,hF⟩ fun K hK=>?_
  unfold au at hK;go_simp;exact hK
 try case s13=>
  intro a W hc hsz hold ah;have x11:=ah 11 (by kernel_rfl) rfl _ rfl;clear hsz hold ah;refine ai rfl (ag rfl) ?_;obtain⟨v',hv,hF⟩:=x11;replace hv:a.tmps.getD 7 undef=.tuple #[au r.cl r.fin v',.int .i64 r.code]:=hv;have hw:=zq hv;refine aA (v:=.int .i64 r.code) aI.refl rfl fun K hK=>?_
  go_simp;exact hK
 try case s14=>
  intro a W hc hsz hold ah;clear hsz hold ah;refine ai rfl (ag rfl) ?_;refine bf (v:=.pointer (some ⟨W.heap.size,0,none⟩)) (aI.alloc (by rw[lD.out]; exact hc.size) (.cells #[.int .i64 0,.bool false,.slice none 0 0] 37)) ⟨W.heap.size,rfl,(by rw[lD.out]; exact hc.size),[.int .i64 0,.bool false,.slice none 0 0],rfl,Bx.new _ _ _⟩ fun K hK=>?_
  go_simp;exact hK
 try case s15=>
  intro a W hc hsz hold ah;have x14:=ah 14 (by kernel_rfl) rfl _ rfl;have x12:=ah 12 (by kernel_rfl) rfl _ rfl;clear hsz hold ah;refine ai rfl (ag rfl) ?_;obtain⟨g,hg,hgB,cs,hl,hB⟩:=x14;replace hg:a.tmps.getD 5 undef=.pointer (some ⟨g,0,none⟩):=hg;have hlt:=hB.lt;have hf:=hB.free;have z0:∃v,W.cell? ⟨g,0,none⟩=some v:=⟨_,hB.cell (List.getElem?_eq_getElem (by rw[hl]; decide))⟩;obtain⟨u0,z0⟩:=z0;have z1:∃v,W.cell? ⟨g,1,none⟩=some v:=⟨_,hB.cell (List.getElem?_eq_getElem (by rw[hl]; decide))⟩;obtain⟨u1,z1⟩:=z1;have z2:∃v,W.cell? ⟨g,2,none⟩=some v:=⟨_,hB.cell (List.getElem?_eq_getElem (by rw[hl]; decide))⟩;obtain⟨u2,z2⟩:=z2;obtain⟨v',hv,hF⟩:=x12;replace hv:a.tmps.getD 19 undef=au r.cl r.fin v':=hv;obtain⟨a6,c6,rfl,_⟩:=bK.form hF.1;unfold au at hv;have hP:=(⟨.slice a6 r.l.length c6,rfl,aI.dW (aI.store (Φ:=fun _ _=>True) (t:=37) (B:=n0) (m:=3) (cs0:=[.int .i64 r.cl,.bool r.fin,.slice a6 r.l.length c6]) hgB rfl ⟨cs,hl,hB⟩ trivial) (by decide) hF.1,hF.2⟩:∃v2:Value,[.int .i64 r.cl,.bool r.fin,.slice a6 r.l.length c6] = [.int .i64 r.cl,.bool r.fin,v2]/\gm (bg W g 0 [.int .i64 r.cl,.bool r.fin,.slice a6 r.l.length c6]) n0 v2 r.l);refine bf (v:=undef) (aI.store (cs0:=[.int .i64 r.cl,.bool r.fin,.slice a6 r.l.length c6]) hgB rfl ⟨cs,hl,hB⟩ hP) ⟨g,hg,hgB,[.int .i64 r.cl,.bool r.fin,.slice a6 r.l.length c6],rfl,hB.full hl,hP⟩ fun K hK=>?_
  clear hB hl;go_simp;exact hK
 ·intro a W hC hd hsz hold hval;obtain⟨g,hg,hgB,cs,hcl,hcx,v',hcs,hF⟩:=hval 15 _ rfl rfl;have d5:a.tmps.getD 5 undef=.pointer (some ⟨g,0,none⟩):=hg;clear hg;subst hcs;have d6:a.tmps.getD 6 undef=.int .i64 r.code:=hval 16 _ rfl rfl;obtain⟨G,hG,ha⟩:=cO [5,6,7,8,9,10,11,12,13,14,15,16,17,18,19,20] (by kernel_rfl) hd hsz hold;simp only[hG]at d6 d5;rw[ha];clear ha hG hd hsz hold;simp only[bI,List.setIfInBounds_toArray,List.set,d6,d5];clear d6 d5;have hC:Below n0 w1 W:=hC;obtain⟨a6,c6,rfl,Dy⟩:=bK.form hF.1;have m0:=MF.made 66 W;have hm0:=(zB W.heap.size W).alloc (zl _) (.map #[] 0);obtain⟨u1,r1,m1,g1⟩:=m0.ins underlying66 underlying258 (by omega) 6 (by omega) (by omega) (.int .i64 4);have hm1:=hm0.grown g1 hm0.size (fun q hq=>Nat.le_of_eq (zs hq));clear g1;obtain⟨u2,r2,m2,g2⟩:=m1.ins underlying66 underlying258 (by omega) 8 (by omega) (by omega) (.int .i64 1);have hm2:=hm1.grown g2 hm1.size (fun q hq=>Nat.le_of_eq (zs hq));clear g2;have wZ:=hC.mono (Nat.le_of_eq lD.out.symm);have hB4:Below w1.heap.size w1 u2:=wZ.trans (hm2.mono wZ.size);have hd4:=HD1.out.below hB4;have Ir:=zH (yA hd4 (Ch.of (X:=DX p vc EX Xm) (R:=DR vt Rm) hB4) HO.out hN r K HG.out m2 (n0:=n0) (v:=.slice a6 r.l.length c6) (gm.below hF hm2) (Nat.le_of_eq lD.out.symm) (fun b hb=>by have:=QG.out b hb; have:=HB4.out.1; omega));rw[HZ.out]at Ir;unfold au at Ir;have g0:=hcx.cell (i:=0) rfl;have g1:=hcx.cell (i:=1) rfl;have g2:=hcx.cell (i:=2) rfl;have hmm:=@run_makeMap prog;clear hcx hF Dy hC wZ hB4 hd4 m2 hm2 hval;go_wp2_with fail;refine Ir.out.mono ?_;rintro e w7 ⟨vt7,vc7,X7,R7,rfl,hd7,xe,F9⟩;unfold dL;have a8:=jV xe (by have:=HB4.out.2.1; have:=lD.out; omega) (b:=b4) (fun b hb=>by have:=QG.out b hb; have:=HB4.out.2.2.1; omega);have hx7:Bx w7 b4 58 aO:=a8.2.trans ny.out;have HD7:=zH hd7;have kF:=zH (HT1.out.trans xe);have EN:=zH a8.1;have ni:=zH F9;unfold aO at hx7;have t0:=hx7.cell (i:=0) rfl;have t1:=hx7.cell (i:=1) rfl;have t2:=hx7.cell (i:=2) rfl;have t3:=hx7.cell (i:=3) rfl;have t4:=hx7.cell (i:=4) rfl;have t5:=hx7.cell (i:=5) rfl;have tf:=fun i=>hx7.free i
  clear hd7 xe hx7 a8 F9;go_wp2_with fail;exact zr (v:=dL Z.1 (.slice none 0 0) (.slice none 0 0)) (by simp[results,results80,go_sem,dL,t0,t1,t2,t3,t4,t5]) rfl ⟨vt7,vc7,X7,R7,rfl,dG HD7.out EN.out _ _ _ _ _ _,fB kF.out (by have:=HB4.out.2.2; omega) _ _ _ _ _ _,ni.out⟩
def WJ(p n0 n b3:Nat)(cl:Int)(fin:Bool)(vt:Value)(aj cnt aN pk:Int)(r:eY)(i:Nat)(v:Value)(d:Nat->Value)(W:World):Prop:=match i with
 | 0=>v=.pointer (some ⟨p,0,none⟩)
 | 1=>v=.pointer (some ⟨p,0,none⟩)
 | 2=>v=.pointer (some ⟨p,1,none⟩)
 | 3=>v=.int .i64 n
 | 4=>v=.pointer (some ⟨p,0,none⟩)
 | 5=>v=.pointer (some ⟨p,0,none⟩)
 | 6=>v=.pointer (some ⟨p,4,none⟩)
 | 7=>v=.agg #[.int .i64 cl,.bool fin,vt]
 | 8=>v=.pointer (some ⟨b3,2,none⟩)
 | 9=>v=.int .i64 cnt
 | 10=>v=.bool (decide (cnt=1))
 | 11=>∃v':Value,v=.tuple #[au r.cl r.fin v',.int .i64 r.code]/\gm W n0 v' r.l
 | 12=>∃v':Value,v=.tuple #[au r.cl r.fin v',.int .i64 r.code]/\gm W n0 v' r.l
 | 13=>∃v':Value,v=au r.cl r.fin v'/\gm W n0 v' r.l
 | 14=>v=.int .i64 r.code
 | 15=>∃g,v=.pointer (some ⟨g,0,none⟩)/\n0<=g/\∃cs:List Value,cs.length=3/\Bx W g 37 cs
 | 16=>∃g,d 15=.pointer (some ⟨g,0,none⟩)/\n0<=g/\∃cs:List Value,cs.length=3/\Bx W g 37 cs/\(fun W cs=>∃v':Value,cs = [.int .i64 r.cl,.bool r.fin,v']/\gm W n0 v' r.l) W cs
 | 17=>v=.int .i64 r.code
 | _=>True
theorem Om(p n0 n b3:Nat)(cl:Int)(fin:Bool)(vt:Value)(aj cnt aN pk:Int)(r:eY)(i:Nat)(v:Value)(d:Nat->Value)(W W':World)(hR:(aI n0 37 3 (fun W cs=>∃v':Value,cs = [.int .i64 r.cl,.bool r.fin,v']/\gm W n0 v' r.l)) W W')(h:WJ p n0 n b3 cl fin vt aj cnt aN pk r i v d W):WJ p n0 n b3 cl fin vt aj cnt aN pk r i v d W':=by
 by_cases h11:i=11
 ·subst h11;obtain⟨v',h1,h2⟩:=h;exact⟨v',h1,aI.dW hR (by decide) h2.1,h2.2⟩
 by_cases h12:i=12
 ·subst h12;obtain⟨v',h1,h2⟩:=h;exact⟨v',h1,aI.dW hR (by decide) h2.1,h2.2⟩
 by_cases h13:i=13
 ·subst h13;obtain⟨v',h1,h2⟩:=h;exact⟨v',h1,aI.dW hR (by decide) h2.1,h2.2⟩
 by_cases h15:i=15
 ·subst h15;obtain⟨g,h1,h2,h3⟩:=h;exact⟨g,h1,h2,aI.some hR h3⟩
 by_cases h16:i=16
 ·subst h16;obtain⟨g,h1,h2,h3⟩:=h;exact⟨g,h1,h2,aI.full hR (fun cs h=>(by obtain⟨v',h1,h2⟩:=h; exact⟨v',h1,aI.dW hR (by decide) h2.1,h2.2⟩)) h3⟩
 unfold WJ at h ⊢;split at h <;> first | exact h | exact absurd rfl h11 | exact absurd rfl h12 | exact absurd rfl h13 | exact absurd rfl h15 | exact absurd rfl h16
theorem acL{w w0:World}{p pm N:Nat}{D:PD}{vt vc:Value}{E:World->Prop}{EX Xm Rm X0 R0:Nat->Prop}(h:fH w p D pm none vt vc E EX Xm Rm)(hc:Ch X0 R0 (DX p vc EX Xm) (DR vt Rm) w0 w)(ho:D.Ok N)(hN:N<=4611686018427380000)
 (k aj cnt aN pk:Int)(a5:Option Addr)(n5 c5:Nat)(K:Int->Int)(r:eY)(hr:r=bH D.n D.cl D.fin D.tr (decide (cnt=1)))(hg:OpG D r K (ja (ja (fun _=>none) 15 (.int .i64 5)) 8 (.int .i64 1))):
 Calls prog 81 #[.pointer (some ⟨p,0,none⟩),dR k aj cnt aN pk (.slice a5 n5 c5)] w (oK w0 X0 R0 p pm none E EX (N+64) (xn K r D).1 (xn K r D).2):=by
 obtain⟨w1,hw1⟩:∃w1,w1=(w.alloc (.cells #[.int .i64 k,.int .i64 aj,.int .i64 cnt,.int .i64 aN,.int .i64 pk,.slice a5 n5 c5] 49)).alloc (.cells aO.toArray 58):=⟨_,rfl⟩;obtain⟨b3,hb3⟩:∃b,b=w.heap.size:=⟨_,rfl⟩;obtain⟨b4,hb4⟩:∃b,b=w.heap.size+1:=⟨_,rfl⟩;have hA1:=(zB w.heap.size w).alloc (zl _) (.cells #[.int .i64 k,.int .i64 aj,.int .i64 cnt,.int .i64 aN,.int .i64 pk,.slice a5 n5 c5] 49);have hA:=hA1.alloc hA1.size (.cells aO.toArray 58);have bT:Bx ((w.alloc (.cells #[.int .i64 k,.int .i64 aj,.int .i64 cnt,.int .i64 aN,.int .i64 pk,.slice a5 n5 c5] 49)).alloc (.cells aO.toArray 58)) w.heap.size 49 [.int .i64 k,.int .i64 aj,.int .i64 cnt,.int .i64 aN,.int .i64 pk,.slice a5 n5 c5]:=(Bx.new w 49 [.int .i64 k,.int .i64 aj,.int .i64 cnt,.int .i64 aN,.int .i64 pk,.slice a5 n5 c5]).alloc _;have hbx:=Bx.new (w.alloc (.cells #[.int .i64 k,.int .i64 aj,.int .i64 cnt,.int .i64 aN,.int .i64 pk,.slice a5 n5 c5] 49)) 58 aO;rw[<-hw1]at hA hbx bT;rw[World.size_alloc,<-hb4]at hbx;rw[<-hb3]at bT;have hd1:=h.below hA;have HT1:=zH (hc.trans (Ch.of hA));have HD1:=zH hd1;have ny:=zH hbx;have QG:=zH h.lo;obtain⟨n0,hn0⟩:∃n,n=w1.heap.size:=⟨_,rfl⟩;have lD:=zH hn0;have HB4:Hid (w.heap.size<=n0/\b4<n0/\w.heap.size<=b4/\w0.heap.size<=w.heap.size):=zH ⟨by rw[hn0]; exact hA.size,by rw[hn0]; exact hbx.lt,by omega,hc.size⟩;have QH:Hid (∀W,Below n0 w1 W->Calls prog 159 #[.int .i64 D.n,.agg #[.int .i64 D.cl,.bool D.fin,vt],.bool (decide (cnt=1))] W (oL r W)):=zH fun W hW=>by rw[hr];exact Jd D.n D.cl D.fin vt D.tr (decide (cnt=1)) W (aW.keep hd1.tr (hW.mono (Nat.le_of_eq hn0.symm))) (gz ho.v)
 obtain⟨c0,c1,c2,c3,c4,oJ,c6,c7,c8,c9'⟩:=hd1.cells;have hpl:=hd1.box.lt;have jD:Hid (∀W,Below n0 w1 W->W.cell? ⟨p,1,none⟩=some (.int .i64 D.n)/\W.cell? ⟨p,4,none⟩=some (.int .i64 D.cl)/\W.cell? ⟨p,5,none⟩=some (.bool D.fin)/\W.cell? ⟨p,6,none⟩=some vt/\W.cell? ⟨b3,0,none⟩=some (.int .i64 k)/\W.cell? ⟨b3,1,none⟩=some (.int .i64 aj)/\W.cell? ⟨b3,2,none⟩=some (.int .i64 cnt)/\W.cell? ⟨b3,3,none⟩=some (.int .i64 aN)/\W.cell? ⟨b3,4,none⟩=some (.int .i64 pk)):=zH fun W hW=>by have hx:=bT.call (by rw[hn0]at hW; exact hW);exact⟨(hW.cell (p:=⟨p,1,none⟩) (by rw[hn0]; exact hpl)).trans c1,(hW.cell (p:=⟨p,4,none⟩) (by rw[hn0]; exact hpl)).trans c4,(hW.cell (p:=⟨p,5,none⟩) (by rw[hn0]; exact hpl)).trans oJ,(hW.cell (p:=⟨p,6,none⟩) (by rw[hn0]; exact hpl)).trans c6,hx.cell (i:=0) rfl,hx.cell (i:=1) rfl,hx.cell (i:=2) rfl,hx.cell (i:=3) rfl,hx.cell (i:=4) rfl⟩
 have HW1:Hid ((w.alloc (.cells #[.int .i64 k,.int .i64 aj,.int .i64 cnt,.int .i64 aN,.int .i64 pk,.slice a5 n5 c5] 49)).alloc (.cells #[.int .i64 0,.int .i64 0,.slice none 0 0,.int .i64 0,.bool false,.slice none 0 0] 58)=w1):=zH hw1.symm;have qh:=zH hb4;have HB3:=zH hb3;have HO:=zH ho;have HG:=zH hg;obtain⟨Z,hZ⟩:∃Z,Z=xn K r D:=⟨_,rfl⟩;have HZ:=zH hZ.symm;rw[<-hZ];clear hZ;obtain⟨n,hn⟩:∃n,n=D.n:=⟨_,rfl⟩;obtain⟨cl,hcl⟩:∃n,n=D.cl:=⟨_,rfl⟩;obtain⟨fin,hfin⟩:∃n,n=D.fin:=⟨_,rfl⟩;rw[<-hn,<-hcl,<-hfin]at jD QH;clear hw1 hb3 hb4 hA1 hA hbx bT h hc ho hg hd1 hr c0 c1 c2 c3 c4 oJ c6 c7 c8 c9' hpl hn0 hn hcl hfin;unfold dR;go_enter func81,ntmps81;go_upto_region 1 with (fail)
 rw[HW1.out,<-qh.out,<-HB3.out];refine dw (by kernel_rfl) (aI n0 37 3 (fun W cs=>∃v':Value,cs = [.int .i64 r.cl,.bool r.fin,v']/\gm W n0 v' r.l)) (fun W=>Below n0 w1 W) (WJ p n0 n b3 cl fin vt aj cnt aN pk r) (fun _=>false) (by kernel_rfl) (fun W W' hR h=>h.trans hR.1) (Om p n0 n b3 cl fin vt aj cnt aN pk r) ((zB _ _).drew) ⟨?_,?_,?_,?s3,?_,?_,?_,?s7,?_,?s9,?_,?s11,?s12,?s13,?s14,?s15,?s16,?_,trivial⟩ ?_;all_goals first
  | (intro a W hc hsz hold ah
     have o0:a.tmps.getD 0 undef=.pointer (some ⟨p,0,none⟩):=hold 0 (by kernel_rfl);have o3:a.tmps.getD 3 undef=.pointer (some ⟨b3,0,none⟩):=hold 3 (by kernel_rfl);try have d0:=zV 8 (.pointer (some ⟨p,0,none⟩)) (ah 0 rfl rfl _ rfl)
     try have d1:=zV 9 (.pointer (some ⟨p,0,none⟩)) (ah 1 rfl rfl _ rfl)
     try have d4:=zV 12 (.pointer (some ⟨p,0,none⟩)) (ah 4 rfl rfl _ rfl)
     try have d5:=zV 13 (.pointer (some ⟨p,0,none⟩)) (ah 5 rfl rfl _ rfl)
     try have d9:=zV 17 (.int .i64 cnt) (ah 9 rfl rfl _ rfl)
     try have d14:=zV 21 (.int .i64 r.code) (ah 14 rfl rfl _ rfl)
     clear hsz hold ah;refine ai rfl (ag rfl) ?_;refine aA aI.refl rfl fun K hK=>?_
     go_simp;exact hK)
  | skip
 try case s3=>
  intro a W hc hsz hold ah;have d2:=zV 10 (.pointer (some ⟨p,1,none⟩)) (ah 2 (by kernel_rfl) rfl _ rfl);obtain⟨q1,q4,q5,q6,z0,z1,z2,z3,z4⟩:=jD.out W hc;clear hsz hold ah;refine ai rfl (ag rfl) ?_;refine aA (v:=.int .i64 n) aI.refl rfl fun K hK=>?_
  go_simp;exact hK
 try case s7=>
  intro a W hc hsz hold ah;have d6:=zV 14 (.pointer (some ⟨p,4,none⟩)) (ah 6 (by kernel_rfl) rfl _ rfl);obtain⟨q1,q4,q5,q6,z0,z1,z2,z3,z4⟩:=jD.out W hc;clear hsz hold ah;refine ai rfl (ag rfl) ?_;refine aA (v:=.agg #[.int .i64 cl,.bool fin,vt]) aI.refl rfl fun K hK=>?_
  go_simp;exact hK
 try case s9=>
  intro a W hc hsz hold ah;have d8:=zV 16 (.pointer (some ⟨b3,2,none⟩)) (ah 8 (by kernel_rfl) rfl _ rfl);obtain⟨q1,q4,q5,q6,z0,z1,z2,z3,z4⟩:=jD.out W hc;clear hsz hold ah;refine ai rfl (ag rfl) ?_;refine aA (v:=.int .i64 cnt) aI.refl rfl fun K hK=>?_
  go_simp;exact hK
 try case s11=>
  intro a W hc hsz hold ah;have d3:=zV 11 (.int .i64 n) (ah 3 (by kernel_rfl) rfl _ rfl);have e3:=zq d3;have d7:=zV 15 (.agg #[.int .i64 cl,.bool fin,vt]) (ah 7 (by kernel_rfl) rfl _ rfl);have e7:=zq d7;have d10:=zV 18 (.bool (decide (cnt=1))) (ah 10 (by kernel_rfl) rfl _ rfl);have e10:=zq d10;clear hsz hold ah;refine ai rfl (ag rfl) ?_;refine gI fun K hK=>?_
  go_simp;refine(QH.out W hc).mono ?_;rintro e w' ⟨v',rfl,hF,hb'⟩;exact hK _ _ (aI.call (by rw[lD.out]; exact hc.size) hb') ⟨v',rfl,hF.1,fun k hk=>by have:=hF.2 k hk; have:=hc.size; have:=lD.out; omega⟩
 try case s12=>
  intro a W hc hsz hold ah;have x11:=ah 11 (by kernel_rfl) rfl _ rfl;clear hsz hold ah;refine ai rfl (ag rfl) ?_;obtain⟨v',hv,hF⟩:=x11;replace hv:a.tmps.getD 19 undef=.tuple #[au r.cl r.fin v',.int .i64 r.code]:=hv;have hw:=zq hv;unfold au at hv hw;refine bf (v:=.tuple #[au r.cl r.fin v',.int .i64 r.code]) aI.refl ⟨v',rfl,hF⟩ fun K hK=>?_
  unfold au at hK;go_simp;exact hK
 try case s13=>
  intro a W hc hsz hold ah;have x12:=ah 12 (by kernel_rfl) rfl _ rfl;clear hsz hold ah;refine ai rfl (ag rfl) ?_;obtain⟨v',hv,hF⟩:=x12;replace hv:a.tmps.getD 7 undef=.tuple #[au r.cl r.fin v',.int .i64 r.code]:=hv;have hw:=zq hv;unfold au at hv hw;refine bf (v:=au r.cl r.fin v') aI.refl ⟨v',rfl,hF⟩ fun K hK=>?_
  unfold au at hK;go_simp;exact hK
 try case s14=>
  intro a W hc hsz hold ah;have x12:=ah 12 (by kernel_rfl) rfl _ rfl;clear hsz hold ah;refine ai rfl (ag rfl) ?_;obtain⟨v',hv,hF⟩:=x12;replace hv:a.tmps.getD 7 undef=.tuple #[au r.cl r.fin v',.int .i64 r.code]:=hv;have hw:=zq hv;refine aA (v:=.int .i64 r.code) aI.refl rfl fun K hK=>?_
  go_simp;exact hK
 try case s15=>
  intro a W hc hsz hold ah;clear hsz hold ah;refine ai rfl (ag rfl) ?_;refine bf (v:=.pointer (some ⟨W.heap.size,0,none⟩)) (aI.alloc (by rw[lD.out]; exact hc.size) (.cells #[.int .i64 0,.bool false,.slice none 0 0] 37)) ⟨W.heap.size,rfl,(by rw[lD.out]; exact hc.size),[.int .i64 0,.bool false,.slice none 0 0],rfl,Bx.new _ _ _⟩ fun K hK=>?_
  go_simp;exact hK
 try case s16=>
  intro a W hc hsz hold ah;have x15:=ah 15 (by kernel_rfl) rfl _ rfl;have x13:=ah 13 (by kernel_rfl) rfl _ rfl;clear hsz hold ah;refine ai rfl (ag rfl) ?_;obtain⟨g,hg,hgB,cs,hl,hB⟩:=x15;replace hg:a.tmps.getD 5 undef=.pointer (some ⟨g,0,none⟩):=hg;have hlt:=hB.lt;have hf:=hB.free;have z0:∃v,W.cell? ⟨g,0,none⟩=some v:=⟨_,hB.cell (List.getElem?_eq_getElem (by rw[hl]; decide))⟩;obtain⟨u0,z0⟩:=z0;have z1:∃v,W.cell? ⟨g,1,none⟩=some v:=⟨_,hB.cell (List.getElem?_eq_getElem (by rw[hl]; decide))⟩;obtain⟨u1,z1⟩:=z1;have z2:∃v,W.cell? ⟨g,2,none⟩=some v:=⟨_,hB.cell (List.getElem?_eq_getElem (by rw[hl]; decide))⟩;obtain⟨u2,z2⟩:=z2;obtain⟨v',hv,hF⟩:=x13;replace hv:a.tmps.getD 20 undef=au r.cl r.fin v':=hv;obtain⟨a6,c6,rfl,_⟩:=bK.form hF.1;unfold au at hv;have hP:=(⟨.slice a6 r.l.length c6,rfl,aI.dW (aI.store (Φ:=fun _ _=>True) (t:=37) (B:=n0) (m:=3) (cs0:=[.int .i64 r.cl,.bool r.fin,.slice a6 r.l.length c6]) hgB rfl ⟨cs,hl,hB⟩ trivial) (by decide) hF.1,hF.2⟩:∃v2:Value,[.int .i64 r.cl,.bool r.fin,.slice a6 r.l.length c6] = [.int .i64 r.cl,.bool r.fin,v2]/\gm (bg W g 0 [.int .i64 r.cl,.bool r.fin,.slice a6 r.l.length c6]) n0 v2 r.l);refine bf (v:=undef) (aI.store (cs0:=[.int .i64 r.cl,.bool r.fin,.slice a6 r.l.length c6]) hgB rfl ⟨cs,hl,hB⟩ hP) ⟨g,hg,hgB,[.int .i64 r.cl,.bool r.fin,.slice a6 r.l.length c6],rfl,hB.full hl,hP⟩ fun K hK=>?_
  clear hB hl;go_simp;exact hK
 ·intro a W hC hd hsz hold hval;obtain⟨g,hg,hgB,cs,hcl,hcx,v',hcs,hF⟩:=hval 16 _ rfl rfl;have d5:a.tmps.getD 5 undef=.pointer (some ⟨g,0,none⟩):=hg;clear hg;subst hcs;have d6:a.tmps.getD 6 undef=.int .i64 r.code:=hval 17 _ rfl rfl;obtain⟨G,hG,ha⟩:=cO [5,6,7,8,9,10,11,12,13,14,15,16,17,18,19,20,21] (by kernel_rfl) hd hsz hold;simp only[hG]at d6 d5;rw[ha];clear ha hG hd hsz hold;simp only[bI,List.setIfInBounds_toArray,List.set,d6,d5];clear d6 d5;have hC:Below n0 w1 W:=hC;obtain⟨a6,c6,rfl,Dy⟩:=bK.form hF.1;have m0:=MF.made 66 W;have hm0:=(zB W.heap.size W).alloc (zl _) (.map #[] 0);obtain⟨u1,r1,m1,g1⟩:=m0.ins underlying66 underlying258 (by omega) 15 (by omega) (by omega) (.int .i64 5);have hm1:=hm0.grown g1 hm0.size (fun q hq=>Nat.le_of_eq (zs hq));clear g1;obtain⟨u2,r2,m2,g2⟩:=m1.ins underlying66 underlying258 (by omega) 8 (by omega) (by omega) (.int .i64 1);have hm2:=hm1.grown g2 hm1.size (fun q hq=>Nat.le_of_eq (zs hq));clear g2;have wZ:=hC.mono (Nat.le_of_eq lD.out.symm);have hB4:Below w1.heap.size w1 u2:=wZ.trans (hm2.mono wZ.size);have hd4:=HD1.out.below hB4;have Ir:=zH (yA hd4 (Ch.of (X:=DX p vc EX Xm) (R:=DR vt Rm) hB4) HO.out hN r K HG.out m2 (n0:=n0) (v:=.slice a6 r.l.length c6) (gm.below hF hm2) (Nat.le_of_eq lD.out.symm) (fun b hb=>by have:=QG.out b hb; have:=HB4.out.1; omega));rw[HZ.out]at Ir;unfold au at Ir;have g0:=hcx.cell (i:=0) rfl;have g1:=hcx.cell (i:=1) rfl;have g2:=hcx.cell (i:=2) rfl;have hmm:=@run_makeMap prog;clear hcx hF Dy hC wZ hB4 hd4 m2 hm2 hval;go_wp2_with fail;refine Ir.out.mono ?_;rintro e w7 ⟨vt7,vc7,X7,R7,rfl,hd7,xe,F9⟩;unfold dL;have a8:=jV xe (by have:=HB4.out.2.1; have:=lD.out; omega) (b:=b4) (fun b hb=>by have:=QG.out b hb; have:=HB4.out.2.2.1; omega);have hx7:Bx w7 b4 58 aO:=a8.2.trans ny.out;have HD7:=zH hd7;have kF:=zH (HT1.out.trans xe);have EN:=zH a8.1;have ni:=zH F9;unfold aO at hx7;have t0:=hx7.cell (i:=0) rfl;have t1:=hx7.cell (i:=1) rfl;have t2:=hx7.cell (i:=2) rfl;have t3:=hx7.cell (i:=3) rfl;have t4:=hx7.cell (i:=4) rfl;have t5:=hx7.cell (i:=5) rfl;have tf:=fun i=>hx7.free i
  clear hd7 xe hx7 a8 F9;go_wp2_with fail;exact zr (v:=dL Z.1 (.slice none 0 0) (.slice none 0 0)) (by simp[results,results81,go_sem,dL,t0,t1,t2,t3,t4,t5]) rfl ⟨vt7,vc7,X7,R7,rfl,dG HD7.out EN.out _ _ _ _ _ _,fB kF.out (by have:=HB4.out.2.2; omega) _ _ _ _ _ _,ni.out⟩
theorem qJ{α:Type}{d:α}{D:α->List Value}{sz:Nat}{w w':World}{v:Value}{l:List α}(h:dX d D sz w v l)(hk:∀k,v.ownBlock=some k->w'.heap[k]? = w.heap[k]?):dX d D sz w' v l:=by obtain⟨a,c,b,off,rfl,hac,hcell⟩:=h;refine⟨a,c,b,off,rfl,hac,fun i hi=>?_⟩;obtain⟨rfl,hr⟩:=hcell i hi;refine⟨rfl,fun j u hu=>?_⟩;have h1:=hr j u hu;have h2:=hk b rfl;simp only[World.cell?]at h1 ⊢;rw[h2]; exact h1
theorem xK{w w':World}{base e sz n:Nat}{v:Value}{xs:List Value}(h:w.ownsRow base e sz v n xs)(hk:∀k,v.ownBlock=some k->w'.heap[k]? = w.heap[k]?):w'.ownsRow base e sz v n xs:=by
 refine⟨h.1,?_⟩;rcases h.2 with h1 | ⟨g,cap,cur,rfl,hb,hh,rest⟩
 ·exact .inl h1
 ·exact .inr ⟨g,cap,cur,rfl,hb,(hk g rfl).trans hh,rest⟩
section
variable {w w' w0:World} {p pm:Nat} {D:PD} {df:Option Addr} {vt vc v':Value} {E:World->Prop} {EX Xm Rm X0 R0:Nat->Prop} {l':List (Int×List UInt8)}
theorem fH.grow(h:fH w p D pm df vt vc E EX Xm Rm)(hg:w.grownBy w' vc.ownBlock)(ho:w'.ownsRow 0 131 2 v' l'.length (fK wF l'))(hv:∀k,v'.ownBlock=some k->vc.ownBlock=some k\/w.heap.size<=k):
 fH (w'.setCell ⟨p,9,none⟩ v') p { D with ca:=l' } pm df vt v' E EX Xm Rm:=by
 obtain⟨L,hm⟩:=h.med;have hlo:=h.lo;have hsz:(w'.setCell ⟨p,9,none⟩ v').heap.size=w'.heap.size:=(bU.refl p w').set 9 v' |>.size
 have hk:∀k,k<w.heap.size->k≠p->vc.ownBlock≠some k->(w'.setCell ⟨p,9,none⟩ v').heap[k]? = w.heap[k]?:=fun k h1 h2 h3=>(((bU.refl p w').set 9 v').block k h2).trans (hg.block k h1 (Ne.symm h3))
 have hp:=h.box.lt;have hpc:vc.ownBlock≠some p:=fun e=>h.ap.c1 p e rfl
 have hbx:Bx (w'.setCell ⟨p,9,none⟩ v') p 101 (kS D.kind D.n pm df D.cl D.fin vt (str D.sA) (str D.sB) v'):=(show Bx w' p 101 _ from(hg.block p hp (Ne.symm hpc)).trans h.box).set 9 v';have hle:w.heap.size<=(w'.setCell ⟨p,9,none⟩ v').heap.size:=by rw[hsz]; exact hg.size
 refine⟨hbx,⟨L,hm.keep hle fun b hb=>hk b (hm.lt b hb) (fun e=>by subst e; exact hb.elim h.ap.p1 h.ap.p2) (fun e=>hb.elim (h.ap.c2 b e) (h.ap.c3 b e))⟩,iK h.tr fun k hb=>hk k (h.tl k hb) (h.ap.t1 k hb) (h.ap.t4 k hb),fun k hb=>zL (h.tl k hb) hle,xK ho fun k hb=>((bU.refl p w').set 9 v').block k fun e=>?_,fun w2 h2=>h.ex w2 fun b hb=>(h2 b hb).trans (hk b (h.el b hb) (fun e=>h.ap.p3 (e ▸ hb)) (fun e=>h.ap.c4 b e hb)),fun b hb=>zL (h.el b hb) hle,
  ⟨h.ap.p1,h.ap.p2,h.ap.p3,h.ap.e1,h.ap.e2,h.ap.t1,h.ap.t2,h.ap.t3,fun k hb e=>?_,fun k hb=>?_,fun k hb hx=>?_,fun k hb hx=>?_,fun k hb hx=>?_⟩⟩
 ·subst e;rcases hv _ hb with h1 | h1
  ·exact hpc h1
  ·omega
 ·rcases hv _ e with h1 | h1
  ·exact h.ap.t4 k hb h1
  ·have:=h.tl k hb; omega
 ·rintro rfl;rcases hv _ hb with h1 | h1
  ·exact hpc h1
  ·omega
 ·rcases hv _ hb with h1 | h1
  ·exact h.ap.c2 k h1 hx
  ·have:=hm.lt k (.inl hx); omega
 ·rcases hv _ hb with h1 | h1
  ·exact h.ap.c3 k h1 hx
  ·have:=hm.lt k (.inr hx); omega
 ·rcases hv _ hb with h1 | h1
  ·exact h.ap.c4 k h1 hx
  ·have:=h.el k hx; omega
theorem Ch.grow(hc:Ch X0 R0 (DX p vc EX Xm) (DR vt Rm) w0 w)(hg:w.grownBy w' vc.ownBlock)(hv:∀k,v'.ownBlock=some k->vc.ownBlock=some k\/w.heap.size<=k):Ch X0 R0 (DX p v' EX Xm) (DR vt Rm) w0 (w'.setCell ⟨p,9,none⟩ v'):=by
 have ho:=(bU.refl p w').set 9 v';refine⟨ho.os.trans (hg.os.trans hc.os),ho.tape.trans (hg.tape.trans hc.tape),ho.output.trans (hg.output.trans hc.output),by rw[ho.size]; exact zT hc.size hg.size,fun b hb hx=>?_,fun b hb=>?_,hc.r⟩
 ·have h1:b≠p:=by rintro rfl;exact(hc.x b (.inl rfl)).elim hx (fun h3=>by omega)
  refine(ho.block b h1).trans ((hg.block b (zL hb hc.size) fun e=>?_).trans (hc.block b hb hx));exact(hc.x b (.inr (.inr (.inr e.symm)))).elim hx (fun h3=>by omega)
 ·rcases hb with hb | hb | hb | hb
  ·exact hc.x b (.inl hb)
  ·exact hc.x b (.inr (.inl hb))
  ·exact hc.x b (.inr (.inr (.inl hb)))
  ·rcases hv b hb with h1 | h1
   ·exact hc.x b (.inr (.inr (.inr h1)))
   ·exact .inr (zT hc.size h1)
end
def rps(r:Rp):List Value:=[.int .i64 r.key,.int .i64 r.aj,.slice none 0 0,.int .i64 r.cl,.bool r.fin,.slice none 0 0]
structure yj (w0:World) (X0 R0:Nat->Prop) (p pm:Nat) (E:World->Prop) (EX:Nat->Prop) (vt v5 v6:Value) (L:List (List UInt8)) (l':List T.az) (b3 b4 b6 b9:Nat) (c3 c6:List Value) (rr:Rp) (D:PD) (N:Nat) (W:World):Prop where
 ex:∃vc X R,fH W p D pm none vt vc E EX X R/\Ch X0 R0 (DX p vc EX X) (DR vt R) w0 W/\(∀k,DX p vc EX X k\/DR vt R k->k≠b3/\k≠b4/\k≠b6/\k≠b9)/\Held W v6 l' (DX p vc EX X)/\∀k,v5.ownBlock=some k->k<W.heap.size/\¬ DX p vc EX X k
 x3:Bx W b3 49 c3
 x4:Bx W b4 58 aO
 x6:Bx W b6 37 c6
 x9:Bx W b9 58 (rps rr)
 l:gU W v5 L
 ok:D.M.Ok N
section
variable {w0:World} {X0 R0:Nat->Prop} {p pm:Nat} {E:World->Prop} {EX:Nat->Prop} {vt v5 v6:Value} {L:List (List UInt8)} {l':List T.az} {b3 b4 b6 b9:Nat} {c3 c6:List Value} {rr:Rp} {D:PD} {N:Nat} {W:World}
theorem yj.move{D2:PD}{N2:Nat}{W2:World}(h:yj w0 X0 R0 p pm E EX vt v5 v6 L l' b3 b4 b6 b9 c3 c6 rr D N W){vc vc2:Value}{X R X2 R2:Nat->Prop}(hT:Ch X0 R0 (DX p vc EX X) (DR vt R) w0 W)(haw:∀k,DX p vc EX X k\/DR vt R k->k≠b3/\k≠b4/\k≠b6/\k≠b9)(OH:Held W v6 l' (DX p vc EX X))(h5:∀k,v5.ownBlock=some k->k<W.heap.size/\¬ DX p vc EX X k)
 (hd:fH W2 p D2 pm none vt vc2 E EX X2 R2)(hc:Ch (DX p vc EX X) (DR vt R) (DX p vc2 EX X2) (DR vt R2) W W2)(ok:D2.M.Ok N2):yj w0 X0 R0 p pm E EX vt v5 v6 L l' b3 b4 b6 b9 c3 c6 rr D2 N2 W2:=by
 have hb:=fun b (hb:b<W.heap.size) (hn:¬ DX p vc EX X b)=>hc.block b hb hn
 refine⟨⟨vc2,X2,R2,hd,hT.trans hc,?_,OH.keep hc,fun k hk=>?_⟩,?_,?_,?_,?_,?_,ok⟩
 ·intro k hk;have hold:(DX p vc EX X k\/DR vt R k)\/W.heap.size<=k:=by
   rcases hk with hk | hk
   ·exact(hc.x k hk).imp .inl id
   ·exact(hc.r k hk).imp .inr id
  rcases hold with h1 | h1
  ·exact haw k h1
  ·have:=h.x3.lt; have:=h.x4.lt; have:=h.x6.lt; have:=h.x9.lt;refine⟨?_,?_,?_,?_⟩ <;> omega
 ·have:=h5 k hk;exact⟨zL this.1 hc.size,fun hx=>(hc.x k hx).elim this.2 (fun h3=>by omega)⟩
 ·exact(hb b3 h.x3.lt fun hx=>(haw b3 (.inl hx)).1 rfl).trans h.x3
 ·exact(hb b4 h.x4.lt fun hx=>(haw b4 (.inl hx)).2.1 rfl).trans h.x4
 ·exact(hb b6 h.x6.lt fun hx=>(haw b6 (.inl hx)).2.2.1 rfl).trans h.x6
 ·exact(hb b9 h.x9.lt fun hx=>(haw b9 (.inl hx)).2.2.2 rfl).trans h.x9
 ·exact qJ h.l fun k hk=>hb k (h5 k hk).1 (h5 k hk).2
theorem yj.below{W2:World}(h:yj w0 X0 R0 p pm E EX vt v5 v6 L l' b3 b4 b6 b9 c3 c6 rr D N W)(hb:Below W.heap.size W W2):yj w0 X0 R0 p pm E EX vt v5 v6 L l' b3 b4 b6 b9 c3 c6 rr D N W2:=by obtain⟨vc,X,R,hd,hT,haw,OH,h5⟩:=h.ex;exact h.move hT haw OH h5 (hd.below hb) (Ch.of hb) h.ok
theorem yj.nil(h:yj w0 X0 R0 p pm E EX vt v5 v6 L l' b3 b4 b6 b9 c3 c6 rr D N W):yj w0 X0 R0 p pm E EX vt v5 v6 L l' b3 b4 b6 b9 c3 c6 rr { D with ca:=[] } N (W.setCell ⟨p,9,none⟩ (.slice none 0 0)):=by obtain⟨vc,X,R,hd,hT,haw,OH,h5⟩:=h.ex;have hk:=(bU.refl p W).set 9 (.slice none 0 0);have hd5:fH (W.setCell ⟨p,9,none⟩ (.slice none 0 0)) p { D with ca:=[] } pm none vt (.slice none 0 0) E EX X R:=hd.put hk (hd.box.set 9 _) rfl hd.tr hd.tl ⟨rfl,.inl ⟨rfl,rfl⟩⟩ ⟨hd.ap.p1,hd.ap.p2,hd.ap.p3,hd.ap.e1,hd.ap.e2,hd.ap.t1,hd.ap.t2,hd.ap.t3,fun k _ h=>(by cases h),fun k h=>(by cases h),fun k h=>(by cases h),fun k h=>(by cases h),fun k h=>by cases h⟩;exact h.move (D2:={ D with ca:=[] }) hT haw OH h5 hd5 (Ch.put (QS:=vt) (Vg:=.slice none 0 0) Ch.refl hk (fun k h=>by cases h) (fun k hk=>.inl (.inr hk))) h.ok
theorem yj.rep(h:yj w0 X0 R0 p pm E EX vt v5 v6 L l' b3 b4 b6 b9 c3 c6 rr D N W)(h0:w0.heap.size<=b9)(h1:b3≠b9)(h2:b4≠b9)(h3:b6≠b9)(h6:∀k,v6.ownBlock=some k->k≠b9)(h7:∀k,v5.ownBlock=some k->k≠b9)(r2:Rp):
 yj w0 X0 R0 p pm E EX vt v5 v6 L l' b3 b4 b6 b9 c3 c6 r2 D N (W6 W b9 (.int .i64 r2.key) (.int .i64 r2.aj) (.slice none 0 0) (.int .i64 r2.cl) (.bool r2.fin) (.slice none 0 0)):=by
 obtain⟨vc,X,R,hd,hT,haw,OH,h5⟩:=h.ex;have hk:=fun k (hk:k≠b9)=>kE W b9 k (.int .i64 r2.key) (.int .i64 r2.aj) (.slice none 0 0) (.int .i64 r2.cl) (.bool r2.fin) (.slice none 0 0) hk
 exact⟨⟨vc,X,R,dG hd (fun k hk=>(haw k hk).2.2.2) _ _ _ _ _ _,fB hT h0 _ _ _ _ _ _,haw,⟨iK OH.rd fun k hv=>hk k (h6 k hv),fun k hv=>by have:=OH.lt k hv; simpa using this,OH.ap⟩,fun k hv=>by have:=h5 k hv; simpa using this⟩,(hk b3 h1).trans h.x3,(hk b4 h2).trans h.x4,(hk b6 h3).trans h.x6,adP h.x9 _ _ _ _ _ _,qJ h.l fun k hv=>hk k (h7 k hv),h.ok⟩
theorem yj.flush(h:yj w0 X0 R0 p pm E EX vt v5 v6 L l' b3 b4 b6 b9 c3 c6 rr D N W)(hN:N+D.ca.length<=4611686018427387904)(hl:D.ca.length<=1000000)(hx:∀x ∈ D.ca,NQ x):
 ∃a9 k9,W.cell? ⟨p,9,none⟩=some (.slice a9 D.ca.length k9)/\Calls prog 155 #[.pointer (some ⟨p,0,none⟩),.slice a9 D.ca.length k9] W fun e w'=>e=.returned (.tuple #[.int .i64 (jm D.M D.ca).2.1,.bool (jm D.M D.ca).2.2])/\yj w0 X0 R0 p pm E EX vt v5 v6 L l' b3 b4 b6 b9 c3 c6 rr { D with M:=(jm D.M D.ca).1 } (N+D.ca.length) w':=by
 obtain⟨vc,X,R,hd,hT,haw,OH,h5⟩:=h.ex;obtain⟨a9,k9,rfl⟩:=bu hd.ca;refine⟨a9,k9,hd.box.cell (i:=9) rfl,(Du hd (Ch.refl (X:=DX p (.slice a9 D.ca.length k9) EX X) (R:=DR vt R)) h.ok (.slice a9 D.ca.length k9) D.ca hN hl (fun W hW=>dX.bM qx hW) hx).mono ?_⟩;rintro e w' ⟨X2,R2,rfl,hd2,hc2,hok⟩;exact⟨rfl,h.move (D2:={ D with M:=(jm D.M D.ca).1 }) hT haw OH h5 hd2 hc2 hok⟩
theorem yj.push(h:yj w0 X0 R0 p pm E EX vt v5 v6 L l' b3 b4 b6 b9 c3 c6 rr D N W)(x:Int×List UInt8)(hn:D.ca.length<=1000)(ty:TypeId):
 ∃vc v' w2,W.cell? ⟨p,9,none⟩=some vc/\(W.drew.alloc (.cells (wF x).toArray 131)).cell? ⟨p,9,none⟩=some vc/\w2.cell? ⟨p,9,none⟩=some vc/\p<w2.heap.size/\w2.frozen? ⟨p,9,none⟩=false/\
   (Builtin.append_ #[99,99] ty #[vc,.slice (some ⟨W.heap.size,0,none⟩) 1 1]).run prog (W.drew.alloc (.cells (wF x).toArray 131))=.ok v' w2/\(∃a n c,v'=.slice a n c)/\
   yj w0 X0 R0 p pm E EX vt v5 v6 L l' b3 b4 b6 b9 c3 c6 rr { D with ca:=D.ca++[x] } N (w2.setCell ⟨p,9,none⟩ v'):=by
 obtain⟨vc,X,R,hd,hc,haw,OH,h5⟩:=h.ex;have hA:=((zB W.heap.size W).drew).alloc (show W.heap.size<=W.drew.heap.size from zl _) (.cells (wF x).toArray 131);have hd1:=hd.below hA;have hc1:=hc.trans (Ch.of hA);obtain⟨i0,hi0,hz0,hz1,hz2⟩:=info_parts (show(prog.info? 131).map (fun i=>(i.zero,i.size,i.bytes))=some (some (.agg #[.int .i64 0,.string ⟨#[]⟩]),2,24) by kernel_rfl);have hnew:(W.drew.alloc (.cells (wF x).toArray 131)).heap[W.heap.size]? = some (.cells (wF x).toArray 131):=heap_alloc_new W.drew _;have hbn:Bx (W.drew.alloc (.cells (wF x).toArray 131)) W.heap.size 131 (wF x):=hnew;obtain⟨v',w2,hrun,r1,r2,r3,r4⟩:=run_append_own_at (P:=prog) (W.drew.alloc (.cells (wF x).toArray 131)) 0 99 ty 131 i0 (.agg #[.int .i64 0,.string ⟨#[]⟩]) 2 24 underlying99 hi0 hz0 hz1 hz2 rfl (by decide) vc D.ca.length (fK wF D.ca) hd1.ca ⟨W.heap.size,0,none⟩ 1 1 (wF x) rfl
  (fun j u hu=>by rcases j with _ | j <;> simpa[Addr.add]using hbn.cell hu) (Wx x) (by unfold maxLen; omega) (by omega) (Nat.zero_le _)
 have hsz:(W.drew.alloc (.cells (wF x).toArray 131)).heap.size=W.heap.size+1:=by simp
 have hv:∀k,v'.ownBlock=some k->vc.ownBlock=some k\/(W.drew.alloc (.cells (wF x).toArray 131)).heap.size<=k:=fun k hk=>by
  rcases r4 with h4 | h4
  ·rw[h4]at hk; exact .inl hk
  ·rw[h4]at hk; exact .inr (Nat.le_of_eq (zs hk))
 have hpb:w2.heap[p]? = (W.drew.alloc (.cells (wF x).toArray 131)).heap[p]?:=r2.block p hd1.box.lt fun e=>hd1.ap.c1 p e.symm rfl
 have hbx2:Bx w2 p 101 (kS D.kind D.n pm none D.cl D.fin vt (str D.sA) (str D.sB) vc):=hpb.trans hd1.box;have hdg:=hd1.grow (l':=D.ca++[x]) r2 (by rw[rY,yI,List.length_append]; exact r1) hv;have hcW:Ch (DX p vc EX X) (DR vt R) (DX p v' EX X) (DR vt R) W (w2.setCell ⟨p,9,none⟩ v'):=Ch.grow (Ch.of hA) r2 hv;exact⟨vc,v',w2,hd.box.cell (i:=9) rfl,hd1.box.cell (i:=9) rfl,hbx2.cell (i:=9) rfl,hbx2.lt,hbx2.free 9,hrun,(r1.2.elim (fun h1=>⟨_,_,_,h1.1⟩) (fun⟨_,_,_,h1,_⟩=>⟨_,_,_,h1⟩)),h.move (D2:={ D with ca:=D.ca++[x] }) hc haw OH h5 hdg hcW h.ok⟩
end
end T7
end Go.Proofs.YtfnehkmhcmkhjaaGreat
