/- Parts:XLi XLj XLk -/
import Derived.Test.YtfnehkmhcmkhjaaGreatDvAl
import Derived.Test.YtfnehkmhcmkhjaaGreatDv36
import Derived.Test.YtfnehkmhcmkhjaaGreatDv46
set_option maxRecDepth 100000
set_option maxHeartbeats 8000000
set_option linter.unusedVariables false
set_option linter.unusedSimpArgs false
namespace Go.Proofs.YtfnehkmhcmkhjaaGreat
open Tryz
namespace T7
open Go Go.RowKit C9 oH
def rdv(n:Nat)(v1 v2 v3:Value)(A B:ByteArray)(v4:Value):Value:=
 .agg #[.int .i64 1,.int .i64 (n:Nat),.int .i64 1,.int .i64 1,v1,v2,v3,.int .i64 0,.int .i64 0,.int .i64 0,.slice none 0 0,.slice none 0 0,.int .i64 0,.bool false,.slice none 0 0,.string A,.string B,.slice none 0 0,v4]
theorem infoCa15:(prog.info? 279).map (fun i=>(i.zero,i.size,i.bytes))=some (some (.agg #[.int .i64 0,.string ⟨#[]⟩]),2,24):=by kernel_rfl
theorem Il{w:World}{ops:Array Oper}{rest:List Oper}{o:Oper}{a:Act}{Q:Exit->Act->World->Prop}
 (hg:o.guard=none)(l c:Operand)(hop:o.op=Op.makeSlice 40 l c)
 {L C:Int}(n:Nat)(hl:a.eval l=.int .i64 L)(hc:a.eval c=.int .i64 C)(hL:L=(n:Int))(hC:C=(n:Int))(b3:n<=1000000)
 (hK:∀w',Below w.heap.size w w'->wpList prog ops Q rest (a.put o.dst (.slice (some ⟨w.heap.size,0,none⟩) n n)) w'):
 wpList prog ops Q (o :: rest) a w:=by
 obtain⟨i0,hi,hz0,hz1,hz2⟩:=info_parts infoCa15;exact wpList_make_full w hg l c _ hop w.heap.size 279 i0 _ 2 underlying40 hi hz0 hz1 .i64 .i64 L C n hl hc hL hC (by rw[hz2]; omega) (by unfold maxLen; omega) (zl _) fun w' h3 h4=>hK w' ((zB _ _).grown h4 (zl _) (fun k hk=>by cases hk))
theorem Yg{P:Nat->Prop}{w:World}{vL vS vD:Value}{M:aP}{SS:List RS}(h:RmF P w vL vS vD M SS):∃a1 m1 k1 a2 m2 k2 a3 m3 k3,vL=.slice a1 m1 k1/\vS=.slice a2 m2 k2/\vD=.slice a3 m3 k3:=by obtain⟨⟨a,c,h1⟩,⟨a2,c2,h2⟩,a3,c3,h3⟩:=h.here.forms;exact⟨_,_,_,_,_,_,_,_,_,h1,h2,h3⟩
theorem infoDr15:(prog.info? 42).map (·.size)=some 19:=by kernel_rfl
theorem undDr15':(prog.underlying 42).map (·.isRow)=some true:=by kernel_rfl
theorem undDr15:∃d,prog.underlying 42=some d/\d.isRow=true:=by
 have h:=undDr15';cases e:prog.underlying 42 with
 | none=>rw[e]at h; exact absurd h (by simp)
 | some d=>rw[e]at h; exact⟨d,rfl,by simpa using h⟩
theorem Bx.range{w:World}{g:Nat}{t:TypeId}{cs:List Value}(h:Bx w g t cs):w.rangeAt g 0 cs:=fun j v hv=>by rw[Nat.zero_add]; exact Bx.cell h hv
theorem Bx.there{w:World}{g:Nat}{t:TypeId}{cs:List Value}(h:Bx w g t cs):w.there g 0 cs.length:=fun j hj=>⟨(Bx.range h).isSome j hj,Bx.free h _⟩
theorem lX(b:Nat):∀(vs:List Value)(o:Nat)(W:World),W.setCells b o vs=bg W b o vs
 | [],_,_=>rfl
 | v :: r,o,W=>lX b r (o+1) (W.setCell ⟨b,o,none⟩ v)
theorem bU.bg{p:Nat}{w:World}:∀(vs:List Value){W:World}(o:Nat),bU p w W->bU p w (Go.Proofs.YtfnehkmhcmkhjaaGreat.bg W p o vs)
 | [],_,_,h=>h
 | v :: r,_,o,h=>bU.bg r (o+1) (h.set o v)
theorem iI{ops:Array Oper}{rest:List Oper}{op:Oper}{a:Act}{w:World}{Q:Exit->Act->World->Prop}(hgd:op.guard=none)(ty:TypeId)(x y:Operand)(ho:op.op=.store ty x y)
 (g:Nat){t:TypeId}{cs0:List Value}(cs:List Value)(hx:a.eval x=.pointer (some ⟨g,0,none⟩))(hy:a.eval y=.agg cs.toArray)(hb:Bx w g t cs0)(hl:cs0.length=cs.length)
 (hi:(prog.info? ty).map (·.size)=some cs.length)(h1:∀v ∈ cs,v.oneCell'=true)
 (h:∀w',Bx w' g t cs->bU g w w'->(∀B,B<=g->Below B w w')->wpList prog ops Q rest (a.put op.dst undef) w'):wpList prog ops Q (op :: rest) a w:=
 wpList_store_mid hgd ty x y ho g 0 cs.toArray hx hy (by have:=Bx.there hb; rw[hl]at this; simpa using this) (by simpa using hi) (all_oneCell_toArray h1) (by
  rw[lX];exact h _ (Bx.full (cs0:=cs) hb hl) (bU.bg cs 0 (bU.refl g w)) fun B hB=>Below.bg hB cs 0 (zB B w))
theorem EC{ops:Array Oper}{rest:List Oper}{op:Oper}{a:Act}{w:World}{Q:Exit->Act->World->Prop}(hgd:op.guard=none)(x:Operand)(ho:op.op=.load 42 x)
 (g:Nat){t:TypeId}(cs:List Value)(hx:a.eval x=.pointer (some ⟨g,0,none⟩))(hb:Bx w g t cs)(hl:cs.length=19)
 (h:wpList prog ops Q rest (a.put op.dst (.agg cs.toArray)) w):wpList prog ops Q (op :: rest) a w:=by
 obtain⟨d,hd1,hd2⟩:=undDr15;exact wpList_load_mid hgd _ x ho g 0 hx cs d (Bx.range hb) hd1 hd2 (by rw[infoDr15,hl]) h
theorem BR{w:World}(g:Nat){t:TypeId}{cs:List Value}(hb:Bx w g t cs)(hl:cs.length=19):(loadVar 42 ⟨g,0,none⟩).run prog w=.ok (.agg cs.toArray) w:=by obtain⟨d,hd1,hd2⟩:=undDr15;exact run_loadVar_mid w g 0 _ cs d (Bx.range hb) hd1 hd2 (by rw[infoDr15,hl])
theorem abC(n:Nat)(h1:1<=n)(h2:n<=4096)(w:World):Calls prog 30 #[.int .i64 1,.int .i64 (n:Nat),.int .i64 0,.int .i64 1] w fun e w'=>∃a1 m1 k1 a2 m2 k2 a3 m3 k3 A B a4 m4 k4,e=.returned (.tuple #[rdv n (.slice a1 m1 k1) (.slice a2 m2 k2) (.slice a3 m3 k3) A B (.slice a4 m4 k4),.int .i64 0])/\Below w.heap.size w w':=by
 have hw0:=ZA h2;have a1:¬ (n:Int)<1:=by omega
 have a2:¬ (4096:Int)<(n:Int):=by omega
 have A8:=zH (And.intro h1 h2);obtain⟨wA,hwA⟩:∃v,v=w.alloc (.cells #[.int .i64 0,.int .i64 0,.int .i64 0,.int .i64 0,.slice none 0 0,.slice none 0 0,.slice none 0 0,.int .i64 0,.int .i64 0,.int .i64 0,.slice none 0 0,.slice none 0 0,.int .i64 0,.bool false,.slice none 0 0,.string ⟨#[]⟩,.string ⟨#[]⟩,.slice none 0 0,.slice none 0 0] 42):=⟨_,rfl⟩;obtain⟨b8,hb8⟩:∃b,b=w.heap.size:=⟨_,rfl⟩;have hA:=(zB w.heap.size w).alloc (zl _) (.cells #[.int .i64 0,.int .i64 0,.int .i64 0,.int .i64 0,.slice none 0 0,.slice none 0 0,.slice none 0 0,.int .i64 0,.int .i64 0,.int .i64 0,.slice none 0 0,.slice none 0 0,.int .i64 0,.bool false,.slice none 0 0,.string ⟨#[]⟩,.string ⟨#[]⟩,.slice none 0 0,.slice none 0 0] 42);have hbx:=Bx.new w 42 [.int .i64 0,.int .i64 0,.int .i64 0,.int .i64 0,.slice none 0 0,.slice none 0 0,.slice none 0 0,.int .i64 0,.int .i64 0,.int .i64 0,.slice none 0 0,.slice none 0 0,.int .i64 0,.bool false,.slice none 0 0,.string ⟨#[]⟩,.string ⟨#[]⟩,.slice none 0 0,.slice none 0 0];rw[<-hwA]at hA hbx;rw[<-hb8]at hbx;have QK:=zH hbx;have HA:=zH hA;have wE:=zH hwA.symm;have CJ:=zH hb8;clear hA hbx hwA hb8;go_enter func30,ntmps30;go_upto_region 4 with (fail)
 rw[wE.out,<-CJ.out];go_upto_region 5 with (first | (refine Il rfl _ _ rfl n rfl rfl (by first | exact hw0 | rfl) (by first | exact hw0 | rfl) (by omega) ?_; intro w1 hb1) | (refine iI rfl 42 (.tmp 11) (.tmp 71) rfl w1.heap.size [.int .i64 1,.int .i64 (n:Nat),.int .i64 0,.int .i64 0,.slice none 0 0,.slice none 0 0,.slice none 0 0,.int .i64 0,.int .i64 0,.int .i64 0,.slice none 0 0,.slice none 0 0,.int .i64 0,.bool false,.slice none 0 0,.string ⟨#[]⟩,.string ⟨#[]⟩,.slice none 0 0,.slice (some ⟨wA.heap.size,0,none⟩) n n] rfl rfl (Bx.new w1 42 [.int .i64 0,.int .i64 0,.int .i64 0,.int .i64 0,.slice none 0 0,.slice none 0 0,.slice none 0 0,.int .i64 0,.int .i64 0,.int .i64 0,.slice none 0 0,.slice none 0 0,.int .i64 0,.bool false,.slice none 0 0,.string ⟨#[]⟩,.string ⟨#[]⟩,.slice none 0 0,.slice none 0 0]) rfl infoDr15 (by simp[Value.oneCell']) ?_; intro w2 hbx2 ho2 hA2))
 obtain⟨gc,hgc⟩:∃b,b=wA.heap.size:=⟨_,rfl⟩;rw[<-hgc]at hbx2;rw[<-hgc];obtain⟨b11,OC⟩:∃b,b=w1.heap.size:=⟨_,rfl⟩;replace hA2:=((zB w1.heap.size w1).alloc (zl _) (.cells #[.int .i64 0,.int .i64 0,.int .i64 0,.int .i64 0,.slice none 0 0,.slice none 0 0,.slice none 0 0,.int .i64 0,.int .i64 0,.int .i64 0,.slice none 0 0,.slice none 0 0,.int .i64 0,.bool false,.slice none 0 0,.string ⟨#[]⟩,.string ⟨#[]⟩,.slice none 0 0,.slice none 0 0] 42)).trans (hA2 w1.heap.size (zl _));rw[<-OC]at hbx2;have VT:=zH OC;have HA2:=zH (HA.out.trans ((hb1.trans (hA2.mono hb1.size)).mono HA.out.size));have aeM:=zH (QK.out.call (hb1.trans (hA2.mono hb1.size)));have jT:=zH hbx2;have vZ:Hid (b8≠b11/\w.heap.size<=b11/\w.heap.size<=b8):=zH ⟨by have:=QK.out.lt; have:=hb1.size; omega,by have:=HA.out.size; have:=hb1.size; omega,by rw[CJ.out]; exact zl _⟩;have HRN:Hid (Calls prog 65 #[.int .i64 1,.int .i64 (n:Nat),.int .i64 1] w2 fun e w'=>∃vL vS vD SS,e=.returned (.tuple #[.agg #[.int .i64 1,.int .i64 1,vL,vS,vD],.int .i64 0])/\RmF (fun k=>w2.heap.size<=k) w' vL vS vD (dO 1 n 1) SS/\Below w2.heap.size w2 w'):=zH (abB 1 1 n (.inl rfl) A8.out.1 A8.out.2 (by decide) (by decide) w2);rw[<-VT.out];have y0:=jT.out.cell (i:=0) rfl;have y1:=jT.out.cell (i:=1) rfl;have y2:=jT.out.cell (i:=2) rfl;have y3:=jT.out.cell (i:=3) rfl;have y4:=jT.out.cell (i:=4) rfl;have y5:=jT.out.cell (i:=5) rfl;have y6:=jT.out.cell (i:=6) rfl;have y7:=jT.out.cell (i:=7) rfl;have y8:=jT.out.cell (i:=8) rfl;have y9:=jT.out.cell (i:=9) rfl;have y10:=jT.out.cell (i:=10) rfl;have y11:=jT.out.cell (i:=11) rfl;have y12:=jT.out.cell (i:=12) rfl;have y13:=jT.out.cell (i:=13) rfl;have y14:=jT.out.cell (i:=14) rfl;have y15:=jT.out.cell (i:=15) rfl;have y16:=jT.out.cell (i:=16) rfl;have y17:=jT.out.cell (i:=17) rfl;have y18:=jT.out.cell (i:=18) rfl;have yf:=jT.out.free;have yl:=jT.out.lt;clear hgc OC hA2 hbx2 hb1 ho2;go_wp2_with fail;refine HRN.out.mono ?_;rintro e w3 ⟨vL,vS,vD,SS,rfl,hrm,hb3⟩;obtain⟨e1,m1,k1,e2,m2,k2,e3,m3,k3,rfl,rfl,rfl⟩:=Yg hrm;have aae:=zH (aeM.out.call hb3);have dZ:=jT.out.call hb3;have HA3:=zH (HA2.out.trans (hb3.mono HA2.out.size));have hx113:=((((dZ.set 2 (.int .i64 1)).set 3 (.int .i64 1)).set 4 (.slice e1 m1 k1)).set 5 (.slice e2 m2 k2)).set 6 (.slice e3 m3 k3);obtain⟨w4,hw4⟩:∃v,v=((((w3.setCell ⟨b11,2,none⟩ (.int .i64 1)).setCell ⟨b11,3,none⟩ (.int .i64 1)).setCell ⟨b11,4,none⟩ (.slice e1 m1 k1)).setCell ⟨b11,5,none⟩ (.slice e2 m2 k2)).setCell ⟨b11,6,none⟩ (.slice e3 m3 k3):=⟨_,rfl⟩;rw[<-hw4]at hx113;have ho4:bU b11 w3 w4:=by rw[hw4]; exact(((((bU.refl b11 w3).set 2 _).set 3 _).set 4 _).set 5 _).set 6 _
 have V7:=zH hw4.symm;have gQ:Hid (Bx w4 b11 42 [.int .i64 1,.int .i64 (n:Nat),.int .i64 1,.int .i64 1,.slice e1 m1 k1,.slice e2 m2 k2,.slice e3 m3 k3,.int .i64 0,.int .i64 0,.int .i64 0,.slice none 0 0,.slice none 0 0,.int .i64 0,.bool false,.slice none 0 0,.string ⟨#[]⟩,.string ⟨#[]⟩,.slice none 0 0,.slice (some ⟨gc,0,none⟩) n n]):=zH hx113;have aeN:Hid (Bx w4 b8 42 [.int .i64 0,.int .i64 0,.int .i64 0,.int .i64 0,.slice none 0 0,.slice none 0 0,.slice none 0 0,.int .i64 0,.int .i64 0,.int .i64 0,.slice none 0 0,.slice none 0 0,.int .i64 0,.bool false,.slice none 0 0,.string ⟨#[]⟩,.string ⟨#[]⟩,.slice none 0 0,.slice none 0 0]):=zH ((ho4.block b8 vZ.out.1).trans aae.out);have ZE:Hid (Below w.heap.size w w4):=zH (by rw[hw4]; exact((((HA3.out.setCell vZ.out.2.1 _).setCell vZ.out.2.1 _).setCell vZ.out.2.1 _).setCell vZ.out.2.1 _).setCell vZ.out.2.1 _);clear y0 y1 y2 y3 y4 y5 y6 y7 y8 y9 y10 y11 y12 y13 y14 y15 y16 y17 y18 yf yl;have y0:=dZ.cell (i:=0) rfl;have y1:=dZ.cell (i:=1) rfl;have y2:=dZ.cell (i:=2) rfl;have y3:=dZ.cell (i:=3) rfl;have y4:=dZ.cell (i:=4) rfl;have y5:=dZ.cell (i:=5) rfl;have y6:=dZ.cell (i:=6) rfl;have y7:=dZ.cell (i:=7) rfl;have y8:=dZ.cell (i:=8) rfl;have y9:=dZ.cell (i:=9) rfl;have y10:=dZ.cell (i:=10) rfl;have y11:=dZ.cell (i:=11) rfl;have y12:=dZ.cell (i:=12) rfl;have y13:=dZ.cell (i:=13) rfl;have y14:=dZ.cell (i:=14) rfl;have y15:=dZ.cell (i:=15) rfl;have y16:=dZ.cell (i:=16) rfl;have y17:=dZ.cell (i:=17) rfl;have y18:=dZ.cell (i:=18) rfl;have yf:=dZ.free;have yl:=dZ.lt;clear dZ hrm hb3 hx113 hw4 ho4;go_upto_region 6 with (fail)
 rw[V7.out];clear y0 y1 y2 y3 y4 y5 y6 y7 y8 y9 y10 y11 y12 y13 y14 y15 y16 y17 y18 yf yl;have hve:=pW (cap:=(n:Nat)) (by have:=A8.out; omega) (by have:=A8.out; omega);have hok:E1.okD (n:Nat) []=false:=by simp[E1.okD]
 have wC:=zH (E1.PM (n:Nat) [] [] 0 (.slice none 0 0) [] w4 (aW.nil w4) (tK hve).1 (T.ay.2 hve) (by decide) (by decide) (by decide) (zH hok) (zH hok) rfl (gz hve) (zH (by unfold E1.fJ; rw[hok]; rfl)) (zH (by unfold E1.iq; rw[hok]; rfl)));clear hve hok;obtain⟨lA,hZ⟩:∃Z,Z=E1.dA 0 0 false []:=⟨_,rfl⟩;rw[<-hZ]at wC;unfold E1.qZ E1.jf au at wC;dsimp only at wC;obtain⟨SA,Tf⟩:∃s,s=str lA:=⟨_,rfl⟩;rw[<-Tf]at wC;have es:str []=⟨#[]⟩:=rfl;rw[es]at wC;clear hZ Tf es;have y0:=gQ.out.cell (i:=0) rfl;have y1:=gQ.out.cell (i:=1) rfl;have y2:=gQ.out.cell (i:=2) rfl;have y3:=gQ.out.cell (i:=3) rfl;have y4:=gQ.out.cell (i:=4) rfl;have y5:=gQ.out.cell (i:=5) rfl;have y6:=gQ.out.cell (i:=6) rfl;have y7:=gQ.out.cell (i:=7) rfl;have y8:=gQ.out.cell (i:=8) rfl;have y9:=gQ.out.cell (i:=9) rfl;have y10:=gQ.out.cell (i:=10) rfl;have y11:=gQ.out.cell (i:=11) rfl;have y12:=gQ.out.cell (i:=12) rfl;have y13:=gQ.out.cell (i:=13) rfl;have y14:=gQ.out.cell (i:=14) rfl;have y15:=gQ.out.cell (i:=15) rfl;have y16:=gQ.out.cell (i:=16) rfl;have y17:=gQ.out.cell (i:=17) rfl;have y18:=gQ.out.cell (i:=18) rfl;have yf:=gQ.out.free;have yl:=gQ.out.lt;go_wp2_with fail;refine wC.out.mono ?_;rintro e w5 ⟨rfl,hb5⟩;have dZ:=gQ.out.call hb5;have aeO:=zH (aeN.out.call hb5);have ZG:=zH (ZE.out.trans (hb5.mono ZE.out.size));obtain⟨w6,hw6⟩:∃v,v=(w5.setCell ⟨b11,15,none⟩ (.string SA)).setCell ⟨b11,16,none⟩ (.string ⟨#[]⟩):=⟨_,rfl⟩;have TG:=(dZ.set 15 (.string SA)).set 16 (.string ⟨#[]⟩);rw[<-hw6]at TG;have Aj:bU b11 w5 w6:=by rw[hw6]; exact((bU.refl b11 w5).set 15 _).set 16 _
 have HW6:=zH hw6.symm;have acs:Hid (Bx w6 b11 42 [.int .i64 1,.int .i64 (n:Nat),.int .i64 1,.int .i64 1,.slice e1 m1 k1,.slice e2 m2 k2,.slice e3 m3 k3,.int .i64 0,.int .i64 0,.int .i64 0,.slice none 0 0,.slice none 0 0,.int .i64 0,.bool false,.slice none 0 0,.string SA,.string ⟨#[]⟩,.slice none 0 0,.slice (some ⟨gc,0,none⟩) n n]):=zH TG;have aeP:Hid (Bx w6 b8 42 [.int .i64 0,.int .i64 0,.int .i64 0,.int .i64 0,.slice none 0 0,.slice none 0 0,.slice none 0 0,.int .i64 0,.int .i64 0,.int .i64 0,.slice none 0 0,.slice none 0 0,.int .i64 0,.bool false,.slice none 0 0,.string ⟨#[]⟩,.string ⟨#[]⟩,.slice none 0 0,.slice none 0 0]):=zH ((Aj.block b8 vZ.out.1).trans aeO.out);have ZH:Hid (Below w.heap.size w w6):=zH (by rw[hw6]; exact(ZG.out.setCell vZ.out.2.1 _).setCell vZ.out.2.1 _);clear y0 y1 y2 y3 y4 y5 y6 y7 y8 y9 y10 y11 y12 y13 y14 y15 y16 y17 y18 yf yl;have y0:=dZ.cell (i:=0) rfl;have y1:=dZ.cell (i:=1) rfl;have y2:=dZ.cell (i:=2) rfl;have y3:=dZ.cell (i:=3) rfl;have y4:=dZ.cell (i:=4) rfl;have y5:=dZ.cell (i:=5) rfl;have y6:=dZ.cell (i:=6) rfl;have y7:=dZ.cell (i:=7) rfl;have y8:=dZ.cell (i:=8) rfl;have y9:=dZ.cell (i:=9) rfl;have y10:=dZ.cell (i:=10) rfl;have y11:=dZ.cell (i:=11) rfl;have y12:=dZ.cell (i:=12) rfl;have y13:=dZ.cell (i:=13) rfl;have y14:=dZ.cell (i:=14) rfl;have y15:=dZ.cell (i:=15) rfl;have y16:=dZ.cell (i:=16) rfl;have y17:=dZ.cell (i:=17) rfl;have y18:=dZ.cell (i:=18) rfl;have yf:=dZ.free;have yl:=dZ.lt;clear dZ hb5 TG hw6 Aj;go_upto_region 9 with (fail)
 rw[HW6.out];clear y0 y1 y2 y3 y4 y5 y6 y7 y8 y9 y10 y11 y12 y13 y14 y15 y16 y17 y18 yf yl;go_wp2_with (first | (refine EC rfl (.tmp 11) rfl b11 [.int .i64 1,.int .i64 (n:Nat),.int .i64 1,.int .i64 1,.slice e1 m1 k1,.slice e2 m2 k2,.slice e3 m3 k3,.int .i64 0,.int .i64 0,.int .i64 0,.slice none 0 0,.slice none 0 0,.int .i64 0,.bool false,.slice none 0 0,.string SA,.string ⟨#[]⟩,.slice none 0 0,.slice (some ⟨gc,0,none⟩) n n] rfl acs.out rfl ?_) | (refine iI rfl 42 (.tmp 8) (.tmp 100) rfl b8 [.int .i64 1,.int .i64 (n:Nat),.int .i64 1,.int .i64 1,.slice e1 m1 k1,.slice e2 m2 k2,.slice e3 m3 k3,.int .i64 0,.int .i64 0,.int .i64 0,.slice none 0 0,.slice none 0 0,.int .i64 0,.bool false,.slice none 0 0,.string SA,.string ⟨#[]⟩,.slice none 0 0,.slice (some ⟨gc,0,none⟩) n n] rfl rfl aeP.out rfl infoDr15 (by simp[Value.oneCell']) ?_; intro w7 ae5 ho7 hA7));have hl:=BR b8 ae5 rfl;refine zr (v:=.tuple #[rdv n (.slice e1 m1 k1) (.slice e2 m2 k2) (.slice e3 m3 k3) SA ⟨#[]⟩ (.slice (some ⟨gc,0,none⟩) n n),.int .i64 0]) (by simp[rdv,results,results30,Sem.run_bind,Sem.run_pure,asAddr,hl]) rfl ?_;exact⟨_,_,_,_,_,_,_,_,_,_,_,_,_,_,rfl,ZH.out.trans (hA7 _ vZ.out.2.2)⟩
theorem Qz{op:Oper}{a:Act}{w:World}{K:Act->World->Prop}{Q:Exit->Act->World->Prop}(ty:TypeId)(x y:Operand)(ho:op.op=.store ty x y)
 (g:Nat){t:TypeId}{cs0:List Value}(cs:List Value)(hx:a.eval x=.pointer (some ⟨g,0,none⟩))(hy:a.eval y=.agg cs.toArray)(hb:Bx w g t cs0)(hl:cs0.length=cs.length)
 (hi:(prog.info? ty).map (·.size)=some cs.length)(h1:∀v ∈ cs,v.oneCell'=true)
 (h:∀w',Bx w' g t cs->bU g w w'->(∀B,B<=g->Below B w w')->K (a.put op.dst undef) w'):op.wp prog a w K Q:=
 wp_store_mid ty x y ho g 0 cs.toArray hx hy (by have:=Bx.there hb; rw[hl]at this; simpa using this) (by simpa using hi) (all_oneCell_toArray h1) (by
  rw[lX];exact h _ (Bx.full (cs0:=cs) hb hl) (bU.bg cs 0 (bU.refl g w)) fun B hB=>Below.bg hB cs 0 (zB B w))
theorem Vl{op:Oper}{a:Act}{w:World}{K:Act->World->Prop}{Q:Exit->Act->World->Prop}(x:Operand)(ho:op.op=.load 42 x)
 (g:Nat){t:TypeId}(cs:List Value)(hx:a.eval x=.pointer (some ⟨g,0,none⟩))(hb:Bx w g t cs)(hl:cs.length=19)
 (h:K (a.put op.dst (.agg cs.toArray)) w):op.wp prog a w K Q:=by
 obtain⟨d,hd1,hd2⟩:=undDr15;exact wp_load_mid _ x ho g 0 hx cs d (Bx.range hb) hd1 hd2 (by rw[infoDr15,hl]) h
structure Rf (b16 b8:Nat) (AL:List Value) (w W:World):Prop where
 bl:∀B,B<=b8->Below B w W
 sz:w.heap.size<=W.heap.size
 o:∀j,j<w.heap.size->j≠b8->W.heap[j]? = w.heap[j]?
 f16:Bx w b16 42 AL->Bx W b16 42 AL
 f8:Bx w b8 42 AL->Bx W b8 42 AL
 c8:(∃cs:List Value,cs.length=19/\Bx w b8 42 cs)->∃cs:List Value,cs.length=19/\Bx W b8 42 cs
theorem Rf.refl(b16 b8:Nat)(AL:List Value)(w:World):Rf b16 b8 AL w w:=⟨fun _ _=>zB _ _,zl _,fun _ _ _=>rfl,id,id,id⟩
theorem Rf.trans{b16 b8:Nat}{AL:List Value}{w W W':World}(h:Rf b16 b8 AL w W)(h':Rf b16 b8 AL W W'):Rf b16 b8 AL w W':=⟨fun B hB=>(h.bl B hB).trans (h'.bl B hB),zT h.sz h'.sz,fun j hj hn=>(h'.o j (zL hj h.sz) hn).trans (h.o j hj hn),fun x=>h'.f16 (h.f16 x),fun x=>h'.f8 (h.f8 x),fun x=>h'.c8 (h.c8 x)⟩
def StC(b16 b8:Nat)(AL:List Value)(w0 W:World):Prop:=Rf b16 b8 AL w0 W/\Bx W b16 42 AL/\∃cs:List Value,cs.length=19/\Bx W b8 42 cs
def stV(p b16 b8:Nat)(AL:List Value)(i:Nat)(v:Value)(W:World):Prop:=match i with
 | 0=>v=.pointer (some ⟨p,0,none⟩)
 | 1=>v=.agg AL.toArray
 | 2=>v=.pointer (some ⟨p,0,none⟩)
 | 3=>Bx W b8 42 AL
 | _=>True
theorem U3(p b16 b8:Nat)(AL:List Value)(i:Nat)(v:Value)(W W':World)(hR:(Rf b16 b8 AL) W W')(h:stV p b16 b8 AL i v W):stV p b16 b8 AL i v W':=by
 by_cases h3:i=3
 ·subst h3;exact hR.f8 h
 unfold stV at h ⊢;split at h <;> first | exact h | exact absurd rfl h3
def StP(k:Nat)(w:World)(e:Ending)(w':World):Prop:=∃n p pm vt vc X R a1 m1 k1 a2 m2 k2 a3 m3 k3 A B a4 m4 k4,1<=n/\n<=60/\
 e=.returned (.tuple #[.pointer (some ⟨p,0,none⟩),rdv n (.slice a1 m1 k1) (.slice a2 m2 k2) (.slice a3 m3 k3) A B (.slice a4 m4 k4)])/\fH w' p (Aw n) pm none vt vc (fun _=>True) (fun _=>False) X R/\Below w.heap.size w w'/\∀b,DX p vc (fun _=>False) X b\/DR vt R b->w.heap.size<=b
theorem Yq(k:Nat)(hk:k<256)(w:World):Calls prog 11 #[.bool false,.int .u8 (k:Nat),.int .u8 0,.int .u8 0] w (StP k w):=by
 have hw0:wrap64 (1+(wrap64 (k:Int)).tmod 60)=((1+k % 60:Nat):Int):=by
  have e1:wrap64 (k:Int)=k:=by unfold wrap64; omega
  rw[e1];have e:(k:Int).tmod 60=((k % 60:Nat):Int):=by rw[Int.tmod_eq_emod_of_nonneg (by omega)]; omega
  rw[e]; unfold wrap64; omega
 have HW0:=zH hw0;clear hw0;obtain⟨n,hn⟩:∃n,n=1+k % 60:=⟨_,rfl⟩;rw[<-hn]at HW0;have h1:1<=n:=by omega
 have h2:n<=60:=by omega
 have A8:=zH (And.intro h1 h2);clear hn h1 h2 hk;obtain⟨wA,hwA⟩:∃v,v=w.alloc (.cells #[.int .i64 0,.int .i64 0,.int .i64 0,.int .i64 0,.slice none 0 0,.slice none 0 0,.slice none 0 0,.int .i64 0,.int .i64 0,.int .i64 0,.slice none 0 0,.slice none 0 0,.int .i64 0,.bool false,.slice none 0 0,.string ⟨#[]⟩,.string ⟨#[]⟩,.slice none 0 0,.slice none 0 0] 42):=⟨_,rfl⟩;obtain⟨b8,hb8⟩:∃b,b=w.heap.size:=⟨_,rfl⟩;have hA:=(zB w.heap.size w).alloc (zl _) (.cells #[.int .i64 0,.int .i64 0,.int .i64 0,.int .i64 0,.slice none 0 0,.slice none 0 0,.slice none 0 0,.int .i64 0,.int .i64 0,.int .i64 0,.slice none 0 0,.slice none 0 0,.int .i64 0,.bool false,.slice none 0 0,.string ⟨#[]⟩,.string ⟨#[]⟩,.slice none 0 0,.slice none 0 0] 42);have hbx:=Bx.new w 42 [.int .i64 0,.int .i64 0,.int .i64 0,.int .i64 0,.slice none 0 0,.slice none 0 0,.slice none 0 0,.int .i64 0,.int .i64 0,.int .i64 0,.slice none 0 0,.slice none 0 0,.int .i64 0,.bool false,.slice none 0 0,.string ⟨#[]⟩,.string ⟨#[]⟩,.slice none 0 0,.slice none 0 0];rw[<-hwA]at hA hbx;rw[<-hb8]at hbx;have QK:=zH hbx;have HA:=zH hA;have wE:=zH hwA.symm;have CJ:=zH hb8;clear hA hbx hwA hb8;have HN:=zH (RY n A8.out.1 (by have:=A8.out; omega) wA);unfold Q8 at HN;go_enter func11,ntmps11;go_upto_region 1 with (fail)
 rw[wE.out,<-CJ.out];go_upto_region 4 with (fail)
 rw[HW0.out];generalize wrap64 (k:Int)=z0;generalize z0.tmod 60=z1;clear HW0;go_upto_region 5 with (go_at_call 16; refine HN.out.mono ?_; rintro e w1 ⟨p,pm,vt,vc,X,R,rfl,hd,hb,ha⟩)
 have HD:=zH hd;have HB:=zH hb;have VS:=zH ha;have acA:=zH (QK.out.call hb);have HA1:=zH (HA.out.trans (hb.mono HA.out.size));clear hd hb ha;have HR:=zH (abC n A8.out.1 (by have:=A8.out; omega) w1);go_upto_region 6 with (first | (go_at_call 30; refine HR.out.mono ?_; rintro e w2 ⟨e1,m1,k1,e2,m2,k2,e3,m3,k3,SA,SB,e4,m4,k4,rfl,hb2⟩; unfold rdv) | (refine iI rfl 42 (.tmp 16) (.tmp 44) rfl w2.heap.size [.int .i64 1,.int .i64 (n:Nat),.int .i64 1,.int .i64 1,.slice e1 m1 k1,.slice e2 m2 k2,.slice e3 m3 k3,.int .i64 0,.int .i64 0,.int .i64 0,.slice none 0 0,.slice none 0 0,.int .i64 0,.bool false,.slice none 0 0,.string SA,.string SB,.slice none 0 0,.slice e4 m4 k4] rfl rfl (Bx.new w2 42 [.int .i64 0,.int .i64 0,.int .i64 0,.int .i64 0,.slice none 0 0,.slice none 0 0,.slice none 0 0,.int .i64 0,.int .i64 0,.int .i64 0,.slice none 0 0,.slice none 0 0,.int .i64 0,.bool false,.slice none 0 0,.string ⟨#[]⟩,.string ⟨#[]⟩,.slice none 0 0,.slice none 0 0]) rfl infoDr15 (by simp[Value.oneCell']) ?_; intro w3 bT ho3 hA3))
 obtain⟨b16,hb16⟩:∃b,b=w2.heap.size:=⟨_,rfl⟩;replace hA3:=hb2.trans ((((zB w2.heap.size w2).alloc (zl _) (.cells #[.int .i64 0,.int .i64 0,.int .i64 0,.int .i64 0,.slice none 0 0,.slice none 0 0,.slice none 0 0,.int .i64 0,.int .i64 0,.int .i64 0,.slice none 0 0,.slice none 0 0,.int .i64 0,.bool false,.slice none 0 0,.string ⟨#[]⟩,.string ⟨#[]⟩,.slice none 0 0,.slice none 0 0] 42)).trans (hA3 w2.heap.size (zl _))).mono hb2.size);rw[<-hb16]at bT;rw[<-hb16];have acu:=zH bT;have aae:=zH (acA.out.call hA3);have HD3:=zH (HD.out.below hA3);have HA3:=zH (HA1.out.trans (hA3.mono HA1.out.size));have vZ:Hid (b8≠b16/\w.heap.size<=b8):=zH ⟨by have:=acA.out.lt; have:=hb2.size; omega,by rw[CJ.out]; exact zl _⟩;clear hb16 ho3 hA3 bT hb2;go_upto_region 8 with (fail)
 obtain⟨AL,hAL⟩:∃l,l=([.int .i64 1,.int .i64 (n:Nat),.int .i64 1,.int .i64 1,.slice e1 m1 k1,.slice e2 m2 k2,.slice e3 m3 k3,.int .i64 0,.int .i64 0,.int .i64 0,.slice none 0 0,.slice none 0 0,.int .i64 0,.bool false,.slice none 0 0,.string SA,.string SB,.slice none 0 0,.slice e4 m4 k4]:List Value):=⟨_,rfl⟩;have HX:=acu.out;rw[<-hAL]at HX;have HLN:Hid (AL.length=19/\∀v ∈ AL,v.oneCell'=true):=zH (by rw[hAL]; exact⟨rfl,by simp[Value.oneCell']⟩);have HEQ:=zH hAL;have hC0:StC b16 b8 AL w3 w3.drew:=⟨⟨fun B _=>(zB B w3).drew,zl _,fun _ _ _=>rfl,id,id,id⟩,HX,_,rfl,aae.out⟩;clear hAL HX;refine cu (by kernel_rfl) (Rf b16 b8 AL) (StC b16 b8 AL w3) (stV p b16 b8 AL) (fun _=>false) (by kernel_rfl) (fun w w' hR hc=>⟨hc.1.trans hR,hR.f16 hc.2.1,hR.c8 hc.2.2⟩) (U3 p b16 b8 AL) (hC0) ⟨?_,?s1,?_,?s3,trivial⟩ ?_;all_goals first
  | (intro a W hc hsz hold ah
     have Ue:a.tmps.getD 14 undef=.pointer (some ⟨p,0,none⟩):=hold 14 (by kernel_rfl);try have d0:=zV 53 (.pointer (some ⟨p,0,none⟩)) (ah 0 rfl rfl _ rfl)
     clear hsz hold ah;refine ai rfl (ag rfl) ?_;refine ak (Rf.refl _ _ _ _) rfl fun K hK=>?_
     go_simp;exact hK)
  | skip
 try case s1=>
  intro a W hc hsz hold ah;have o16:a.tmps.getD 16 undef=.pointer (some ⟨b16,0,none⟩):=hold 16 (by kernel_rfl);clear hsz hold ah;refine ai rfl (ag rfl) ?_;refine ak (v:=.agg AL.toArray) (Rf.refl _ _ _ _) rfl fun K hK=>?_
  exact Vl (.tmp 16) rfl b16 AL o16 hc.2.1 HLN.out.1 hK
 try case s3=>
  intro a W hc hsz hold ah;have o9:a.tmps.getD 9 undef=.pointer (some ⟨b8,0,none⟩):=hold 9 (by kernel_rfl);have d1:=zV 54 (.agg AL.toArray) (ah 1 (by kernel_rfl) rfl _ rfl);clear hsz hold ah;refine ai rfl (ag rfl) ?_;obtain⟨cs,h1,h2⟩:=hc.2.2;refine Qz 42 (.tmp 9) (.tmp 54) rfl b8 AL o9 d1 h2 (by rw[h1,HLN.out.1]) (by rw[HLN.out.1]; exact infoDr15) HLN.out.2 fun w' g1 g2 g3=>?_
  exact⟨undef,rfl,⟨g3,Nat.le_of_eq g2.size.symm,fun j _ hj=>g2.block j hj,fun h=>(g2.block b16 vZ.out.1.symm).trans h,fun _=>g1,fun _=>⟨AL,HLN.out.1,g1⟩⟩,g1⟩
 ·intro a W hC hd hsz hold hval;have d8:a.tmps.getD 8 undef=.pointer (some ⟨p,0,none⟩):=hval 2 _ rfl rfl;obtain⟨G,hG,ha⟩:=cO [8,53,54] (by kernel_rfl) hd hsz hold;simp only[hG]at d8;rw[ha];clear ha hG hd hsz hold;simp only[bI,List.setIfInBounds_toArray,List.set,d8];clear d8;have hF:Bx W b8 42 AL:=hval 3 _ rfl rfl;clear hval;have hl:=BR b8 hF HLN.out.1;have hbb:b8<wA.heap.size:=QK.out.lt;go_wp2_with fail;refine zr (v:=.tuple #[.pointer (some ⟨p,0,none⟩),.agg AL.toArray]) (by simp[results,results11,Sem.run_bind,Sem.run_pure,asAddr,hl]) rfl ?_;refine⟨n,p,pm,vt,vc,X,R,e1,m1,k1,e2,m2,k2,e3,m3,k3,SA,SB,e4,m4,k4,A8.out.1,A8.out.2,by rw[HEQ.out]; rfl,HD3.out.keep hC.1.sz fun b hb=>hC.1.o b (HD3.out.lo b hb) (by have:=VS.out b hb; omega),HA3.out.trans (hC.1.bl _ vZ.out.2),fun b hb=>zT HA.out.size (VS.out b hb)⟩
def adW(l:List AX)(w:World)(e:Ending)(w':World):Prop:=∃b,e=.returned (.bool b)/\(b=true->l.length<=30)/\w'=w
theorem sizeAct15:(prog.info? 54).map (·.size)=some 11:=by kernel_rfl
theorem acP{w:World}{v:Value}{l:List AX}(h:qc w v l):
 Calls prog 10 #[v,.int .i64 30] w (adW l w):=by
 obtain⟨al,cl,rfl,_⟩:=dX.form h.1;obtain⟨bl,off,hcell⟩:=dX.at h.1;have HC:=zH hcell;have HA:=zH h.2.2;have hl63:=h.2.1;clear h hcell;go_enter func10,ntmps10;go_wp2_with fail
 go_loop [5,6] (fun vs vk=>∃(k:Nat)(s:Int),k<=l.length/\vk=.int .i64 k/\vs=.int .i64 s) (fun vs vk=>l.length - (RowKit.intOf vk).toNat)
 case atStart=>exact⟨0,0,by omega,rfl,rfl⟩
 case round=>
  obtain⟨k,s,hk,rfl,rfl⟩:=hrel;by_cases hlt:k<l.length
  ·obtain⟨hva,hrange⟩:=HC.out k hlt;have hx:=HA.out k hlt;generalize bF axz l k=x at *;have hix:=fun w'=>aH underlying22 sizeAct15 (cap:=cl) (n:=l.length) (k:=k) (b:=bl) (off:=off) hva hlt _ rfl w'
   have c6:=hrange 6 _ rfl;have c7:=hrange 7 _ rfl;have c9:=hrange 9 _ rfl;have c10:=hrange 10 _ rfl;obtain⟨aB,cB,hvB,_⟩:=dX.form hx.L.1;obtain⟨sa,sc,hvs,_⟩:=dX.form hx.s.1;obtain⟨aE,cE,hvE,_⟩:=bK.form hx.d.er.1;obtain⟨aC,cC,hvC,_⟩:=dX.form hx.d.ch.1;simp only[hvB,hvs,hvE,hvC]at c6 c7 c9 c10;have hl0:=hx.L.2.1;have hl1:=hx.s.2.2;have hl2:=hx.d.er.2.1;have hl3:=hx.d.ch.2.1;generalize x.L.length=n0 at *;generalize x.scr.length=n1 at *;generalize x.d.er.length=n2 at *;generalize x.d.ch.length=n3 at *;clear hx hrange hvB hvs hvE hvC hva;by_cases h1:8<n1
   ·have hq:decide (8<(n1:Int))=true:=zt (by omega);clear h1;go_wp2_with fail;go_ret;exact⟨false,rfl,fun h=>by(cases h),rfl⟩
   have hq1:decide (8<(n1:Int))=false:=zf (by omega);by_cases h2:300<n2
   ·have hq:decide (300<(n2:Int))=true:=zt (by omega);clear h1 h2;go_wp2_with fail;go_ret;exact⟨false,rfl,fun h=>by(cases h),rfl⟩
   have hq2:decide (300<(n2:Int))=false:=zf (by omega);by_cases h3:100<n3
   ·have hq:decide (100<(n3:Int))=true:=zt (by omega);clear h1 h2 h3;go_wp2_with fail;go_ret;exact⟨false,rfl,fun h=>by(cases h),rfl⟩
   have hq3:decide (100<(n3:Int))=false:=zf (by omega);clear h1 h2 h3;go_wp2_with fail;go_round;case rel=>exact⟨k+1,_,by omega,by go_num,rfl⟩
   case measure=>simp[RowKit.intOf]; omega
  ·obtain rfl:k=l.length:=by omega
   by_cases h30:l.length<=30
   ·have hq:decide ((l.length:Int)<=30)=true:=zt (by omega);have HL:=zH h30;clear h30;go_wp2_with fail;go_ret;exact⟨_,rfl,fun _=>HL.out,rfl⟩
   ·have hq:decide ((l.length:Int)<=30)=false:=zf (by omega);clear h30;go_wp2_with fail;go_ret;exact⟨false,rfl,fun h=>by(cases h),rfl⟩
end T7
end Go.Proofs.YtfnehkmhcmkhjaaGreat
