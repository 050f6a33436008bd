/- Parts:XKa XKb XKc -/
import Derived.Test.YtfnehkmhcmkhjaaGreatDvAl
import Derived.Test.YtfnehkmhcmkhjaaGreatDv31
set_option maxRecDepth 100000
set_option maxHeartbeats 8000000
set_option linter.unusedVariables false
namespace Go.Proofs.YtfnehkmhcmkhjaaGreat
open Tryz
namespace T7
open Go Go.RowKit C9 oH
structure PD where
 kind:Nat
 n:Nat
 M:aP
 cl:Int
 fin:Bool
 tr:List T.az
 sA:List UInt8
 sB:List UInt8
 ca:List (Int×List UInt8)
def Ai:Int×List UInt8:=(0,[])
def wF(x:Int×List UInt8):List Value:=[.int .i64 x.1,.string (str x.2)]
theorem qx(x:Int×List UInt8):(wF x).length=2:=rfl
theorem Wx(x:Int×List UInt8):∀u ∈ wF x,u.oneCell'=true:=fun u hu=>by simp only[wF,List.mem_cons,List.not_mem_nil,or_false]at hu;rcases hu with rfl | rfl <;> rfl
theorem iK{w w':World}{v:Value}{l:List T.az}(h:aW w v l)(hk:∀k,v.ownBlock=some k->w'.heap[k]? = w.heap[k]?):aW w' v l:=by obtain⟨a,c,b,off,rfl,hac,hcell⟩:=h;refine⟨a,c,b,off,rfl,hac,fun i hi=>?_⟩;obtain⟨rfl,hr⟩:=hcell i hi;refine⟨rfl,fun j u hu=>?_⟩;have h1:=hr j u hu;have h2:=hk b rfl;simp only[World.cell?]at h1 ⊢;rw[h2]; exact h1
structure bU (p:Nat) (w w':World):Prop where
 os:w'.os=w.os
 tape:w'.tape=w.tape
 output:w'.output=w.output
 size:w'.heap.size=w.heap.size
 block:∀b,b≠p->w'.heap[b]? = w.heap[b]?
theorem bU.refl(p:Nat)(w:World):bU p w w:=⟨rfl,rfl,rfl,rfl,fun _ _=>rfl⟩
theorem bU.set{p:Nat}{w w':World}(h:bU p w w')(o:Nat)(u:Value):bU p w (w'.setCell ⟨p,o,none⟩ u):=by have hb:=(zB 0 w').setCell (p:=⟨p,o,none⟩) (Nat.zero_le _) u;exact⟨hb.os.trans h.os,hb.tape.trans h.tape,hb.output.trans h.output,by simpa using h.size,fun b hn=>(zh w' ⟨p,o,none⟩ u b hn).trans (h.block b hn)⟩
def DX(p:Nat)(vc:Value)(EX Xm:Nat->Prop):Nat->Prop:=fun b=>b=p\/Xm b\/EX b\/vc.ownBlock=some b
def DR(vt:Value)(Rm:Nat->Prop):Nat->Prop:=fun b=>Rm b\/vt.ownBlock=some b
structure Apart (p:Nat) (vt vc:Value) (EX Xm Rm:Nat->Prop):Prop where
 p1:¬ Xm p
 p2:¬ Rm p
 p3:¬ EX p
 e1:∀b,EX b->¬ Xm b
 e2:∀b,EX b->¬ Rm b
 t1:∀k,vt.ownBlock=some k->k≠p
 t2:∀k,vt.ownBlock=some k->¬ Xm k
 t3:∀k,vt.ownBlock=some k->¬ EX k
 t4:∀k,vt.ownBlock=some k->vc.ownBlock≠some k
 c1:∀k,vc.ownBlock=some k->k≠p
 c2:∀k,vc.ownBlock=some k->¬ Xm k
 c3:∀k,vc.ownBlock=some k->¬ Rm k
 c4:∀k,vc.ownBlock=some k->¬ EX k
structure fH (w:World) (p:Nat) (D:PD) (pm:Nat) (df:Option Addr) (vt vc:Value) (E:World->Prop) (EX Xm Rm:Nat->Prop):Prop where
 box:Bx w p 101 (kS D.kind D.n pm df D.cl D.fin vt (str D.sA) (str D.sB) vc)
 med:gZ w pm D.M Xm Rm
 tr:aW w vt D.tr
 tl:∀k,vt.ownBlock=some k->k<w.heap.size
 ca:w.ownsRow 0 131 2 vc D.ca.length (fK wF D.ca)
 ex:∀w':World,(∀b,EX b->w'.heap[b]? = w.heap[b]?)->E w'
 el:∀b,EX b->b<w.heap.size
 ap:Apart p vt vc EX Xm Rm
section
variable {w w' w0:World} {p pm:Nat} {D:PD} {df:Option Addr} {vt vc:Value} {E:World->Prop} {EX Xm Rm X0 R0:Nat->Prop}
theorem fH.lo(h:fH w p D pm df vt vc E EX Xm Rm):∀b,DX p vc EX Xm b\/DR vt Rm b->b<w.heap.size:=fun b hb=>by
 obtain⟨L,hm⟩:=h.med;rcases hb with (rfl | hb | hb | hb) | hb | hb
 ·exact h.box.lt
 ·exact hm.lt b (.inl hb)
 ·exact h.el b hb
 ·exact lM h.ca b hb
 ·exact hm.lt b (.inr hb)
 ·exact h.tl b hb
theorem fH.keep(h:fH w p D pm df vt vc E EX Xm Rm)(hs:w.heap.size<=w'.heap.size)(hk:∀b,DX p vc EX Xm b\/DR vt Rm b->w'.heap[b]? = w.heap[b]?):fH w' p D pm df vt vc E EX Xm Rm:=by
 obtain⟨L,hm⟩:=h.med;refine⟨(hk p (.inl (.inl rfl))).trans h.box,⟨L,hm.keep hs fun b hb=>hk b (hb.elim (fun x=>.inl (.inr (.inl x))) (fun x=>.inr (.inl x)))⟩,iK h.tr fun k hb=>hk k (.inr (.inr hb)),fun k hb=>zL (h.tl k hb) hs,?_,fun w2 h2=>h.ex w2 fun b hb=>(h2 b hb).trans (hk b (.inl (.inr (.inr (.inl hb))))),fun b hb=>zL (h.el b hb) hs,h.ap⟩;refine⟨h.ca.1,?_⟩;rcases h.ca.2 with h1 | ⟨g,cap,cur,rfl,hb,hh,rest⟩
 ·exact .inl h1
 ·exact .inr ⟨g,cap,cur,rfl,hb,(hk g (.inl (.inr (.inr (.inr rfl))))).trans hh,rest⟩
theorem fH.below(h:fH w p D pm df vt vc E EX Xm Rm)(hb:Below w.heap.size w w'):fH w' p D pm df vt vc E EX Xm Rm:=h.keep hb.size fun b hx=>hb.block b (h.lo b hx)
theorem fH.medium(h:fH w p D pm df vt vc E EX Xm Rm){M2:aP}{X2 R2:Nat->Prop}(hm:gZ w' pm M2 X2 R2)(hc:Ch Xm Rm X2 R2 w w'):
 fH w' p { D with M:=M2 } pm df vt vc E EX X2 R2/\Ch (DX p vc EX Xm) (DR vt Rm) (DX p vc EX X2) (DR vt R2) w w':=by
 have hnew:∀b,b<w.heap.size->¬ Xm b->¬ X2 b:=fun b hb hx h2=>(hc.x b h2).elim hx (fun h3=>by omega)
 have TA:∀b,b<w.heap.size->¬ Rm b->¬ R2 b:=fun b hb hx h2=>(hc.r b h2).elim hx (fun h3=>by omega)
 have hp:=h.box.lt;have hcl:∀k,vc.ownBlock=some k->k<w.heap.size:=fun k hk=>lM h.ca k hk
 have hk:∀b,b<w.heap.size->¬ Xm b->w'.heap[b]? = w.heap[b]?:=hc.block;refine⟨⟨(hk p hp h.ap.p1).trans h.box,hm,iK h.tr fun k hb=>hk k (h.tl k hb) (h.ap.t2 k hb),fun k hb=>zL (h.tl k hb) hc.size,?_,fun w2 h2=>h.ex w2 fun b hb=>(h2 b hb).trans (hk b (h.el b hb) (h.ap.e1 b hb)),fun b hb=>zL (h.el b hb) hc.size,
  ⟨hnew p hp h.ap.p1,TA p hp h.ap.p2,h.ap.p3,fun b hb=>hnew b (h.el b hb) (h.ap.e1 b hb),fun b hb=>TA b (h.el b hb) (h.ap.e2 b hb),h.ap.t1,fun k hb=>hnew k (h.tl k hb) (h.ap.t2 k hb),h.ap.t3,h.ap.t4,h.ap.c1,fun k hb=>hnew k (hcl k hb) (h.ap.c2 k hb),fun k hb=>TA k (hcl k hb) (h.ap.c3 k hb),h.ap.c4⟩⟩,
  ⟨hc.os,hc.tape,hc.output,hc.size,fun b hb hx=>hk b hb fun h2=>hx (.inr (.inl h2)),fun b hb=>?_,fun b hb=>?_⟩⟩
 ·refine⟨h.ca.1,?_⟩;rcases h.ca.2 with h1 | ⟨g,cap,cur,rfl,hb,hh,rest⟩
  ·exact .inl h1
  ·exact .inr ⟨g,cap,cur,rfl,hb,(hk g (hcl g rfl) (h.ap.c2 g rfl)).trans hh,rest⟩
 ·rcases hb with hb | hb | hb | hb
  ·exact .inl (.inl hb)
  ·exact(hc.x b hb).imp (fun h=>.inr (.inl h)) id
  ·exact .inl (.inr (.inr (.inl hb)))
  ·exact .inl (.inr (.inr (.inr hb)))
 ·rcases hb with hb | hb
  ·exact(hc.r b hb).imp (fun h=>.inl h) id
  ·exact .inl (.inr hb)
theorem fH.put(h:fH w p D pm df vt vc E EX Xm Rm)(ho:bU p w w'){D':PD}{QS Vg:Value}
 (hbox:Bx w' p 101 (kS D'.kind D'.n pm df D'.cl D'.fin QS (str D'.sA) (str D'.sB) Vg))(hM:D'.M=D.M)(ht:aW w QS D'.tr)(htl:∀k,QS.ownBlock=some k->k<w.heap.size)
 (hc:w.ownsRow 0 131 2 Vg D'.ca.length (fK wF D'.ca))(hap:Apart p QS Vg EX Xm Rm):fH w' p D' pm df QS Vg E EX Xm Rm:=by
 obtain⟨L,hm⟩:=h.med;have hk:=ho.block;have hs:=ho.size;refine⟨hbox,?_,iK ht fun k hb=>hk k (hap.t1 k hb),fun k hb=>by rw[hs]; exact htl k hb,?_,fun w2 h2=>h.ex w2 fun b hb=>(h2 b hb).trans (hk b fun e=>h.ap.p3 (e ▸ hb)),fun b hb=>by rw[hs]; exact h.el b hb,hap⟩
 ·rw[hM];exact⟨L,hm.keep (Nat.le_of_eq hs.symm) fun b hb=>hk b fun e=>by subst e; exact hb.elim h.ap.p1 h.ap.p2⟩
 ·refine⟨hc.1,?_⟩;rcases hc.2 with h1 | ⟨g,cap,cur,rfl,hb,hh,rest⟩
  ·exact .inl h1
  ·exact .inr ⟨g,cap,cur,rfl,hb,(hk g (hap.c1 g rfl)).trans hh,rest⟩
theorem fH.cells(h:fH w p D pm df vt vc E EX Xm Rm):w.cell? ⟨p,0,none⟩=some (.int .i64 D.kind)/\w.cell? ⟨p,1,none⟩=some (.int .i64 D.n)/\w.cell? ⟨p,2,none⟩=some (.pointer (some ⟨pm,0,none⟩))/\w.cell? ⟨p,3,none⟩=some (.pointer df)/\w.cell? ⟨p,4,none⟩=some (.int .i64 D.cl)/\w.cell? ⟨p,5,none⟩=some (.bool D.fin)/\
 w.cell? ⟨p,6,none⟩=some vt/\w.cell? ⟨p,7,none⟩=some (.string (str D.sA))/\w.cell? ⟨p,8,none⟩=some (.string (str D.sB))/\w.cell? ⟨p,9,none⟩=some vc:=
 ⟨h.box.cell (i:=0) rfl,h.box.cell (i:=1) rfl,h.box.cell (i:=2) rfl,h.box.cell (i:=3) rfl,h.box.cell (i:=4) rfl,h.box.cell (i:=5) rfl,h.box.cell (i:=6) rfl,h.box.cell (i:=7) rfl,h.box.cell (i:=8) rfl,h.box.cell (i:=9) rfl⟩
theorem Ch.put(h:Ch X0 R0 (DX p vc EX Xm) (DR vt Rm) w0 w){QS Vg:Value}(ho:bU p w w')
 (hc:∀k,Vg.ownBlock=some k->X0 k\/w0.heap.size<=k)(ht:∀k,QS.ownBlock=some k->R0 k\/w0.heap.size<=k):Ch X0 R0 (DX p Vg EX Xm) (DR QS Rm) w0 w':=by
 have hk:=ho.block;have hs:=ho.size;refine⟨ho.os.trans h.os,ho.tape.trans h.tape,ho.output.trans h.output,by rw[hs]; exact h.size,fun b hb hx=>(hk b ?_).trans (h.block b hb hx),fun b hb=>?_,fun b hb=>?_⟩
 ·rintro rfl;exact(h.x b (.inl rfl)).elim hx (fun h3=>by omega)
 ·rcases hb with hb | hb | hb | hb
  ·exact h.x b (.inl hb)
  ·exact h.x b (.inr (.inl hb))
  ·exact h.x b (.inr (.inr (.inl hb)))
  ·exact hc b hb
 ·rcases hb with hb | hb
  ·exact h.r b (.inl hb)
  ·exact ht b hb
end
structure Held (w:World) (v:Value) (l:List T.az) (X:Nat->Prop):Prop where
 rd:aW w v l
 lt:∀k,v.ownBlock=some k->k<w.heap.size
 ap:∀k,v.ownBlock=some k->¬ X k
theorem Held.keep{w w':World}{v:Value}{l:List T.az}{X R X2 R2:Nat->Prop}(h:Held w v l X)(hc:Ch X R X2 R2 w w'):Held w' v l X2:=
 ⟨iK h.rd fun k hk=>hc.block k (h.lt k hk) (h.ap k hk),fun k hk=>zL (h.lt k hk) hc.size,fun k hk hx=>(hc.x k hx).elim (h.ap k hk) (fun h3=>by have:=h.lt k hk; omega)⟩
structure Rp where
 key:Int
 aj:Int
 bl:List (List UInt8)
 cl:Int
 fin:Bool
 tr:List T.az
def Rp.sense(key aj:Int):Rp:=⟨key,aj,[],0,false,[]⟩
def Rp.ok:Rp:=Rp.sense 0 0
def dL(r:Rp)(vb vt:Value):Value:=.agg #[.int .i64 r.key,.int .i64 r.aj,vb,.int .i64 r.cl,.bool r.fin,vt]
structure RpV (w:World) (n0:Nat) (X:Nat->Prop) (r:Rp) (v:Value):Prop where
 ex:∃vb vt,v=dL r vb vt/\gU w vb r.bl/\aW w vt r.tr/\(∀k,vb.ownBlock=some k->n0<=k/\¬ X k)/\∀k,vt.ownBlock=some k->n0<=k/\¬ X k
abbrev W6(w:World)(b:Nat)(u0 u1 u2 u3 u4 u5:Value):World:=(((((w.setCell ⟨b,0,none⟩ u0).setCell ⟨b,1,none⟩ u1).setCell ⟨b,2,none⟩ u2).setCell ⟨b,3,none⟩ u3).setCell ⟨b,4,none⟩ u4).setCell ⟨b,5,none⟩ u5
theorem adP{w:World}{b t:Nat}{a0 a1 a2 a3 a4 a5:Value}(h:Bx w b t [a0,a1,a2,a3,a4,a5])(u0 u1 u2 u3 u4 u5:Value):Bx (W6 w b u0 u1 u2 u3 u4 u5) b t [u0,u1,u2,u3,u4,u5]:=by have:=(((((h.set 0 u0).set 1 u1).set 2 u2).set 3 u3).set 4 u4).set 5 u5;simpa using this
theorem uD{B b:Nat}{a w:World}(h:Below B a w)(hb:B<=b)(u0 u1 u2 u3 u4 u5:Value):Below B a (W6 w b u0 u1 u2 u3 u4 u5):=
 (((((h.setCell hb u0).setCell hb u1).setCell hb u2).setCell hb u3).setCell hb u4).setCell hb u5
theorem kE(w:World)(b k:Nat)(u0 u1 u2 u3 u4 u5:Value)(h:k≠b):(W6 w b u0 u1 u2 u3 u4 u5).heap[k]? = w.heap[k]?:=by unfold W6;rw[zh _ _ _ _ h,zh _ _ _ _ h,zh _ _ _ _ h,zh _ _ _ _ h,zh _ _ _ _ h,zh _ _ _ _ h]
theorem dG{w:World}{p pm:Nat}{D:PD}{df:Option Addr}{vt vc:Value}{E:World->Prop}{EX Xm Rm:Nat->Prop}(h:fH w p D pm df vt vc E EX Xm Rm){b:Nat}(hb:∀k,DX p vc EX Xm k\/DR vt Rm k->k≠b)(u0 u1 u2 u3 u4 u5:Value):
 fH (W6 w b u0 u1 u2 u3 u4 u5) p D pm df vt vc E EX Xm Rm:=h.keep (by simp) fun k hk=>kE w b k _ _ _ _ _ _ (hb k hk)
theorem fB{w w0:World}{X0 R0 X R:Nat->Prop}(h:Ch X0 R0 X R w0 w){b:Nat}(hb:w0.heap.size<=b)(u0 u1 u2 u3 u4 u5:Value):Ch X0 R0 X R w0 (W6 w b u0 u1 u2 u3 u4 u5):=by have hB:=uD (zB w0.heap.size w) hb u0 u1 u2 u3 u4 u5;exact⟨hB.os.trans h.os,hB.tape.trans h.tape,hB.output.trans h.output,zT h.size hB.size,fun k hk hx=>(kE w b k _ _ _ _ _ _ (by omega)).trans (h.block k hk hx),h.x,h.r⟩
def aO:List Value:=[.int .i64 0,.int .i64 0,.slice none 0 0,.int .i64 0,.bool false,.slice none 0 0]
theorem fU(key aj:Int)(w:World):Calls prog 33 #[.int .i64 key,.int .i64 aj] w fun e w'=>e=.returned (dL (Rp.sense key aj) (.slice none 0 0) (.slice none 0 0))/\Below w.heap.size w w':=by go_enter func33,ntmps33;go_wp2_with fail;refine zr (v:=dL (Rp.sense key aj) (.slice none 0 0) (.slice none 0 0)) (by simp[results,results33,go_sem,dL,Rp.sense]) rfl ⟨rfl,?_⟩;exact(zB _ _).alloc (zl _) _
def nJ(aj:Int)(good:Bool):Rp:=if good=true then Rp.ok else Rp.sense 2 aj
theorem Md(aj:Int)(good:Bool)(w:World):Calls prog 154 #[.int .i64 aj,.bool good] w fun e w'=>e=.returned (dL (nJ aj good) (.slice none 0 0) (.slice none 0 0))/\Below w.heap.size w w':=by
 cases good with
 | true=>
   go_enter func154,ntmps154;go_wp2_with fail;refine zr (v:=dL (nJ aj true) (.slice none 0 0) (.slice none 0 0)) (by simp[results,results154,go_sem,dL,nJ,Rp.ok,Rp.sense]) rfl ⟨rfl,?_⟩;exact(zB _ _).alloc (zl _) _
 | false=>
   have HS:=zH (fun W=>fU 2 aj W);have hA:=(zB w.heap.size w).alloc (zl _) (.cells #[.int .i64 0,.int .i64 0,.slice none 0 0,.int .i64 0,.bool false,.slice none 0 0] 58);have hx:Bx (w.alloc (.cells #[.int .i64 0,.int .i64 0,.slice none 0 0,.int .i64 0,.bool false,.slice none 0 0] 58)) w.heap.size 58 [.int .i64 0,.int .i64 0,.slice none 0 0,.int .i64 0,.bool false,.slice none 0 0]:=Bx.new w _ _;obtain⟨w1,hw1⟩:∃w1,w1=w.alloc (.cells #[.int .i64 0,.int .i64 0,.slice none 0 0,.int .i64 0,.bool false,.slice none 0 0] 58):=⟨_,rfl⟩;obtain⟨b,hb⟩:∃b,b=w.heap.size:=⟨_,rfl⟩;rw[<-hw1]at hA hx;rw[<-hb]at hx;have HX:=zH hx;have HA:=zH hA;have HW1:=zH hw1.symm;have HB:=zH hb;clear hA hx hw1 hb;go_enter func154,ntmps154;go_upto_region 1 with (fail)
   rw[HW1.out,<-HB.out];unfold dL at HS;go_wp2_with fail;refine(HS.out w1).mono ?_;rintro e w2 ⟨rfl,hb2⟩;have hx2:=HX.out.call hb2;have HA2:=zH (HA.out.trans (hb2.mono HA.out.size));have c0:=hx2.cell (i:=0) rfl;have c1:=hx2.cell (i:=1) rfl;have c2:=hx2.cell (i:=2) rfl;have c3:=hx2.cell (i:=3) rfl;have c4:=hx2.cell (i:=4) rfl;have c5:=hx2.cell (i:=5) rfl;have f:=fun i=>hx2.free i
   clear hb2 hx2;go_wp2_with fail;refine zr (v:=dL (nJ aj false) (.slice none 0 0) (.slice none 0 0)) (by simp[results,results154,go_sem,dL,nJ,Rp.sense,c0,c1,c2,c3,c4,c5]) rfl ⟨rfl,?_⟩;exact uD HA2.out (Nat.le_of_eq HB.out.symm) _ _ _ _ _ _
theorem sG{p:Nat}{w:World}(hc:w.cell? ⟨p,3,none⟩=some (.pointer none))(x:Int):
 Calls prog 43 #[.pointer (some ⟨p,0,none⟩),.int .i64 x] w fun e w'=>e=.returned (.int .i64 x)/\w=w':=by
 go_enter func43,ntmps43;go_wp2_with fail;go_ret;exact⟨rfl,rfl⟩
theorem yE{p:Nat}{k:Int}{w:World}(hc:w.cell? ⟨p,0,none⟩=some (.int .i64 k)):
 Calls prog 152 #[.pointer (some ⟨p,0,none⟩)] w fun e w'=>e=.returned (.bool (decide (k=1)))/\w=w':=by
 go_enter func152,ntmps152;go_wp2_with fail;go_ret;exact⟨fQ (by by_cases h:k=1 <;> simp[h]),rfl⟩
def NQ(x:Int×List UInt8):Prop:=-150<=x.1/\x.1<=449849/\x.2.length=2048
def pO(M:aP)(x:Int×List UInt8):Int×aP:=M.record x.1 (T7.rec x.1 x.2)
theorem UG{w:World}{p pm N:Nat}{D:PD}{vt vc:Value}{E:World->Prop}{EX Xm Rm:Nat->Prop}(h:fH w p D pm none vt vc E EX Xm Rm)(ho:D.M.Ok N)(hN:N<=4611686018427387904)(x:Int×List UInt8)(hx:NQ x):
 Calls prog 239 #[.pointer (some ⟨p,0,none⟩),.agg #[.int .i64 x.1,.string (str x.2)]] w fun e w'=>∃X2 R2,e=.returned (.bool (decide ((pO D.M x).1=0)))/\fH w' p { D with M:=(pO D.M x).2 } pm none vt vc E EX X2 R2/\
  Ch (DX p vc EX Xm) (DR vt Rm) (DX p vc EX X2) (DR vt R2) w w':=by
 obtain⟨aj,d⟩:=x;obtain⟨h0,h1,hd⟩:=hx;dsimp only at h0 h1 hd ⊢;have hA:=(zB w.heap.size w).alloc (zl _) (.cells #[.int .i64 aj,.string (str d)] 131);have hbx:Bx (w.alloc (.cells #[.int .i64 aj,.string (str d)] 131)) w.heap.size 131 [.int .i64 aj,.string (str d)]:=Bx.new w _ _;obtain⟨w1,hw1⟩:∃w1,w1=w.alloc (.cells #[.int .i64 aj,.string (str d)] 131):=⟨_,rfl⟩;obtain⟨b,hb⟩:∃b,b=w.heap.size:=⟨_,rfl⟩;rw[<-hw1]at hA hbx;rw[<-hb]at hbx;have HX:=zH hbx;have HA:=zH hA;have HW1:=zH hw1.symm;have HB:=zH hb;have HD:=zH h;have HR:=zH (fun W=>afi aj d W h0 h1 hd);have VG:Hid (∀W,gZ W pm D.M Xm Rm->Calls prog 304 #[.pointer (some ⟨pm,0,none⟩),.int .i64 aj,.string (str (T7.rec aj d))] W (VK (pO D.M (aj,d)) pm Xm Rm W)):=zH fun W hW=>UF hW ho hN aj (T7.rec aj d) (by rw[Ec]; omega)
 have x0:=hbx.cell (i:=0) rfl;have x1:=hbx.cell (i:=1) rfl;obtain⟨Z,hZ⟩:∃Z,Z=pO D.M (aj,d):=⟨_,rfl⟩;rw[<-hZ]at VG ⊢;generalize str (T7.rec aj d)=RS at *;generalize str d=DS at *;clear hA hbx hw1 hb h h0 h1 hd hZ;go_enter func239,ntmps239;go_upto_region 1 with (fail)
 rw[HW1.out,<-HB.out];go_wp2_with fail;refine(HR.out w1).mono ?_;rintro e w2 ⟨rfl,hb2⟩;have HB2:=zH (HA.out.trans (hb2.mono HA.out.size));have hx2:=HX.out.call hb2;have y0:=hx2.cell (i:=0) rfl;have hd2:=HD.out.below HB2.out;have HD2:=zH hd2;obtain⟨c0,c1,c2,c3,_⟩:=hd2.cells;have IP:=zH (fun(W:World) (hc:W.cell? ⟨p,3,none⟩=some (.pointer none))=>sG hc aj);clear hb2 hx2 x0 x1 hd2;go_upto_region 2 with (fail)
 go_still_tail 9,(by kernel_rfl)
 still_call (FX (IP.out _ (by assumption)))
 repeat still_step
 change wpList _ _ _ _ _ w2.drew;have hdr:=(zB w2.heap.size w2).drew;have hd3:=HD2.out.below hdr;have HD3:=zH hd3;have HB3:=zH (HB2.out.drew);have HC3:=zH (VG.out w2.drew hd3.med);clear hdr hd3 y0;go_wp2_with fail;refine HC3.out.mono ?_;rintro e w4 ⟨rfl,X2,R2,hm4,hc4⟩;obtain⟨hd4,hc5⟩:=HD3.out.medium hm4 hc4;have HD4:=zH hd4;have HC5:=zH (Ch.trans (Ch.of (X:=DX p vc EX Xm) (R:=DR vt Rm) HB3.out) hc5);clear hm4 hc4 hc5 hd4 c0 c1 c2 c3;go_wp2_with fail
 go_loopw [6] (fun v wr=>v=.int .i64 Z.1/\wr=w4) (fun _ _=>0)
 case atStart=>exact⟨rfl,rfl⟩
 case round=>
  obtain⟨rfl,rfl⟩:=hrel;obtain⟨c0,c1,c2,c3,_⟩:=HD4.out.cells;dsimp only at c0 c1 c2 c3;go_wp2_with fail;go_ret;exact⟨fQ (by by_cases h:Z.1=0 <;> simp[h]),X2,R2,HD4.out,HC5.out⟩
def JC{σ:Type}(st:σ->Int×List UInt8->σ×Bool)(s:σ×Int×Bool)(x:Int×List UInt8):σ×Int×Bool:=
 if (st s.1 x).2=true then((st s.1 x).1,s.2) else((st s.1 x).1,if s.2.2=true\/x.1<s.2.1 then x.1 else s.2.1,false)
def JB{σ:Type}(st:σ->Int×List UInt8->σ×Bool)(s:σ)(l:List (Int×List UInt8)):σ×Int×Bool:=l.foldl (JC st) (s,0,true)
theorem SV{σ:Type}(st:σ->Int×List UInt8->σ×Bool)(s:σ)(l:List (Int×List UInt8)){k:Nat}(h:k<l.length):JB st s (l.take (k+1))=JC st (JB st s (l.take k)) (bF Ai l k):=by unfold JB;rw[List.take_succ_eq_append_getElem h,List.foldl_append];simp[bF,h]
def FlP{σ:Type}(P:σ->World->Prop)(r:σ×Int×Bool)(e:Ending)(w':World):Prop:=e=.returned (.tuple #[.int .i64 r.2.1,.bool r.2.2])/\P r.1 w'
theorem OA{σ:Type}(P:Nat->σ->World->Prop)(st:σ->Int×List UInt8->σ×Bool)(p:Nat)(v:Value)(l:List (Int×List UInt8))(s0:σ)(w:World)(hn:l.length<=1000000)
 (HP:∀k s W o,k<l.length->P k s W->Calls prog 239 #[.pointer (some ⟨p,0,none⟩),.agg #[.int .i64 (bF Ai l k).1,.string (str (bF Ai l k).2)]] (W.alloc o) fun e w'=>e=.returned (.bool (st s (bF Ai l k)).2)/\P (k+1) (st s (bF Ai l k)).1 w'/\w'.heap[W.heap.size]? = some o)
 (HR:∀k s W,P k s W->dX Ai wF 2 W v l)(h0:P 0 s0 w):
 Calls prog 155 #[.pointer (some ⟨p,0,none⟩),v] w (FlP (P l.length) (JB st s0 l)):=by
 obtain⟨a,c,rfl,hac⟩:=dX.form (HR _ _ _ h0);have VF:=zH HP;have HRR:=zH HR;have H0:=zH h0;clear HP HR h0;obtain⟨n,hnl⟩:∃n,n=l.length:=⟨_,rfl⟩;rw[<-hnl]at hn HRR ⊢;have HN:=zH hnl;clear hnl;go_enter func155,ntmps155;go_wp2_with fail
 go_loopw [6,7,12] (fun vl vg vi wr=>∃(k:Nat)(least:Int)(good:Bool),k<=n/\vi=.int .i64 k/\vl=.int .i64 least/\vg=.bool good/\Hid ((JB st s0 (l.take k)).2=(least,good))/\P k (JB st s0 (l.take k)).1 wr) (fun _ _ vi _=>n - (RowKit.intOf vi).toNat)
 case atStart=>exact⟨0,0,true,by omega,rfl,rfl,rfl,zH rfl,H0.out⟩
 case round=>
  obtain⟨k,least,good,hk,rfl,rfl,rfl,HL,hP⟩:=hrel;by_cases hlt:k<n
  ·have hkl:k<l.length:=by rw[<-HN.out]; exact hlt
   obtain⟨b,o,kk⟩:=dX.at (HRR.out _ _ _ hP);obtain⟨ha,hrange⟩:=kk k hkl;have HT:=zH (SV st s0 l hkl);obtain⟨x,hx⟩:∃x,x=bF Ai l k:=⟨_,rfl⟩;rw[<-hx]at hrange HT;obtain⟨S,hS⟩:∃S,S=JB st s0 (l.take k):=⟨_,rfl⟩;rw[<-hS]at HT HL;have hP:P k S.1 wr:=by rw[hS]; exact hP
   have hix:=fun w'=>aH underlying99 (by kernel_rfl:(prog.info? 131).map (·.size)=some 2) (cap:=c) (n:=n) ha hlt (k:Int) rfl w'
   have hc0:wr.cell? ⟨b,o+k * 2,none⟩=some (.int .i64 x.1):=hrange 0 _ rfl;have hc1:wr.cell? ⟨b,o+k * 2+1,none⟩=some (.string (str x.2)):=hrange 1 _ rfl;have hA:=(zB wr.heap.size wr).alloc (zl _) (.cells #[.int .i64 x.1,.string (str x.2)] 131);have hbx:Bx (wr.alloc (.cells #[.int .i64 x.1,.string (str x.2)] 131)) wr.heap.size 131 [.int .i64 x.1,.string (str x.2)]:=Bx.new wr _ _;obtain⟨w1,hw1⟩:∃w1,w1=wr.alloc (.cells #[.int .i64 x.1,.string (str x.2)] 131):=⟨_,rfl⟩;obtain⟨bx,hbb⟩:∃b,b=wr.heap.size:=⟨_,rfl⟩;rw[<-hw1]at hA hbx;rw[<-hbb]at hbx;have VG:=zH (VF.out k S.1 wr (.cells #[.int .i64 x.1,.string (str x.2)] 131) hkl hP);rw[<-hx,<-hw1,<-hbb]at VG;have y0:=hbx.cell (i:=0) rfl;have y1:=hbx.cell (i:=1) rfl;have HX:=zH hbx;have HW1:=zH hw1.symm;have NU:=zH hbb;have Ha:=zH ha;obtain⟨Q,hQ⟩:∃Q,Q=st S.1 x:=⟨_,rfl⟩;have HG:Hid (JC st S x=if Q.2=true then(Q.1,S.2) else(Q.1,if S.2.2=true\/x.1<S.2.1 then x.1 else S.2.1,false)):=zH (by rw[hQ]; rfl);rw[<-hQ]at VG;obtain⟨Q1,q2⟩:=Q;dsimp only at VG HG;obtain⟨aj,d⟩:=x;dsimp only at hc0 hc1 y0 y1 VG HX HW1 HG;generalize str d=DS at *;clear hP hrange ha hA hbx hw1 hbb hx hS hQ kk;go_upto_region 5 with (fail)
   rw[HW1.out,<-NU.out];clear hc0 hc1;have ZV:Hid (S.2=(least,good)):=HL;go_wp2_with fail;refine VG.out.mono ?_;rintro e w2 ⟨rfl,hp2,hxk⟩;have HP2:=zH hp2;have hxk:Bx w2 bx 131 [.int .i64 aj,.string DS]:=hxk;clear hp2 y0 y1;cases q2 with
   | true=>
     have HF:Hid (JB st s0 (l.take (k+1))=(Q1,S.2)):=zH (by rw[HT.out,HG.out,zj rfl]);go_wp2_with fail;go_roundw;case rel=>
      refine⟨k+1,least,good,by omega,by go_num,rfl,rfl,zH ?_,?_⟩
      ·rw[HF.out,ZV.out]
      ·rw[HF.out]; exact HP2.out
     case measure=>simp[RowKit.intOf]; omega
   | false=>
     have z0:=hxk.cell (i:=0) rfl;clear hxk;by_cases hg:good=true\/aj<least
     ·have HF:Hid (JB st s0 (l.take (k+1))=(Q1,aj,false)):=zH (by rw[HT.out,HG.out,zi (by decide),ZV.out]; dsimp only; rw[zj hg]);have hgb:(good || decide (aj<least))=true:=by rcases hg with h | h <;> simp[h]
      clear hg;cases good with
      | true=>
        go_wp2_with fail;go_roundw;case rel=>
         refine⟨k+1,aj,false,by omega,by go_num,rfl,rfl,zH ?_,?_⟩
         ·rw[HF.out]
         ·rw[HF.out]; exact HP2.out
        case measure=>simp[RowKit.intOf]; omega
      | false=>
        have hd:decide (aj<least)=true:=by simpa using hgb
        clear hgb;go_wp2_with fail;go_roundw;case rel=>
         refine⟨k+1,aj,false,by omega,by go_num,rfl,rfl,zH ?_,?_⟩
         ·rw[HF.out]
         ·rw[HF.out]; exact HP2.out
        case measure=>simp[RowKit.intOf]; omega
     ·have HF:Hid (JB st s0 (l.take (k+1))=(Q1,least,false)):=zH (by rw[HT.out,HG.out,zi (by decide),ZV.out]; dsimp only; rw[zi hg]);have hd:decide (aj<least)=false:=zf fun h=>hg (.inr h)
      obtain rfl:good=false:=by cases good with
       | false=>rfl
       | true=>exact absurd (.inl rfl) hg
      clear hg;go_wp2_with fail;go_roundw;case rel=>
       refine⟨k+1,least,false,by omega,by go_num,rfl,rfl,zH ?_,?_⟩
       ·rw[HF.out]
       ·rw[HF.out]; exact HP2.out
      case measure=>simp[RowKit.intOf]; omega
  ·obtain rfl:k=n:=by omega
   have HF:Hid (JB st s0 (l.take k)=JB st s0 l):=zH (by rw[List.take_of_length_le (by rw[<-HN.out]; exact zl _)]);rw[HF.out]at HL hP;have HP9:=zH hP;clear hP;go_wp2_with fail;go_ret2;refine⟨?_,HP9.out⟩;rw[HL.out];rfl
end T7
end Go.Proofs.YtfnehkmhcmkhjaaGreat
