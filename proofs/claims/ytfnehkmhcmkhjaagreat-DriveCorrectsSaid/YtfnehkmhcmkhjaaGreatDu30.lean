/- Parts -/
import Derived.Test.YtfnehkmhcmkhjaaGreatDu29
set_option maxRecDepth 100000
set_option maxHeartbeats 8000000
set_option linter.unusedVariables false
namespace Go.Proofs.YtfnehkmhcmkhjaaGreat
open Tryz
namespace T7
open Go Go.RowKit C9 wu
theorem JA{p:Nat}{w:World}(hc:w.cell? ⟨p,3,none⟩=some (.pointer none))(x:Int):
 Calls prog 43 #[.pointer (some ⟨p,0,none⟩),.int .i64 x] w λe w'=>e=.returned (.int .i64 x)/\Below w.heap.size w w':=by
 go_enter func43,ntmps43;go_wp2_with fail;go_ret;exact⟨rfl,zB _ _⟩
theorem alu{p:Nat}{n:Int}{w:World}(hc:w.cell? ⟨p,1,none⟩=some (.int .i64 n))(x:Int):
 Calls prog 42 #[.pointer (some ⟨p,0,none⟩),.int .i64 x] w λe w'=>e=.returned (.bool (decide (0<=x/\x<n)))/\w=w':=by
 by_cases h0:0<=x
 ·by_cases h1:x<n
  ·rw[zt (⟨h0,h1⟩:0<=x/\x<n)];go_enter func42,ntmps42;go_wp2_with fail;go_ret;exact⟨rfl,rfl⟩
  ·rw[zf (λh:0<=x/\x<n=>h1 h.2)];go_enter func42,ntmps42;go_wp2_with fail;go_ret;exact⟨rfl,rfl⟩
 ·rw[zf (λh:0<=x/\x<n=>h0 h.1)];go_enter func42,ntmps42;go_wp2_with fail;go_ret;exact⟨rfl,rfl⟩
noncomputable def Pm(M:aA)(n:Int)(at_:Int)(d:Ia):Int×aA:=if 0<=d.aj/\d.aj<n then M.gU {d with aj:=at_} else(1,M)
theorem acw(M:aA)(d:Ia):Pm M M.n d.aj d=M.gU d:=by
 unfold Pm;split
 ·rfl
 ·rename_i h
  unfold aA.gU;rw[zi λh2:d.Ok M.n=>h h2.1]
theorem ZP{p pm N:Nat}{n at_:Int}{w w0:World}{M:aA}{X R:Nat->Prop}(hm:fF w pm M X R)(ho:M.Ok N)(hc1:w.cell? ⟨p,1,none⟩=some (.int .i64 n))(hc2:w.cell? ⟨p,2,none⟩=some (.pointer (some ⟨pm,0,none⟩)))(vE vC:Value)(d:Ia)
 (hP:∀W,Below w.heap.size w W->Calls prog 43 #[.pointer (some ⟨p,0,none⟩),.int .i64 d.aj] W λe w'=>e=.returned (.int .i64 at_)/\Below W.heap.size W w')
 (hd:RJ w0 vE vC d)(hcl:∀W X2 R2,Ch X R X2 R2 w W->∀a u,w0.cell? a=some u->W.cell? a=some u)(hat:In64 at_):
 Calls prog 20 #[.pointer (some ⟨p,0,none⟩),ZO vE vC d] w (Ho (Pm M n at_ d) pm X R w):=by
 have hpl2:p<w.heap.size:=zc w _ hc1;obtain⟨w1,hw1⟩:∃w1,w1=w.alloc (.cells #[.int .i64 d.aj,vE,vC] 52):=⟨_,rfl⟩;obtain⟨bx,hbx⟩:∃b,b=w.heap.size:=⟨_,rfl⟩;have hA:=(zB w.heap.size w).alloc (zl _) (.cells #[.int .i64 d.aj,vE,vC] 52);have hx:Bx w1 bx 52 [.int .i64 d.aj,vE,vC]:=by rw[hw1,hbx];exact Bx.new w _ _
 rw[<-hw1]at hA;have x0:=hx.cell (i:=0) rfl;have HW1:Hid (w.alloc (.cells #[.int .i64 d.aj,vE,vC] 52)=w1):=zH hw1.symm;have ny:=zH hbx;have HX1:=zH hx;have HA1:=zH hA;have d1:=(hA.cell (p:=⟨p,1,none⟩) hpl2).trans hc1;have d2:=(hA.cell (p:=⟨p,2,none⟩) hpl2).trans hc2;have HH:=zH (alu d1 d.aj);have HP1:=zH (hP w1 hA);have HM1:=zH (hm.below hA);have HM:=zH hm;have HC2:=zH hc2;have HPP:=zH hpl2;clear hw1 hbx hA hx hP hm hc1 hc2 d1 d2;unfold ZO;go_enter func20,ntmps20;go_upto_region 1 with (fail)
 rw[HW1.out,<-ny.out];go_wp2_with fail;refine HH.out.mono ?_;rintro e w2 ⟨rfl,rfl⟩;by_cases hin:0<=d.aj/\d.aj<n
 ·rw[zt hin];have HR:Hid (Pm M n at_ d=M.gU {d with aj:=at_}):=zH (by unfold Pm;rw[zj hin]);clear hin;go_wp2_with fail;refine HP1.out.mono ?_;rintro e w3 ⟨rfl,hb3⟩;have hx3:=HX1.out.call hb3;have hf3:=hx3.free 0;have y0:=hx3.cell (i:=0) rfl;obtain⟨w4,hw4⟩:∃w4,w4=w3.setCell ⟨bx,0,none⟩ (.int .i64 at_):=⟨_,rfl⟩;have hx4:=hx3.set 0 (.int .i64 at_);have xy:=(HA1.out.trans (hb3.mono HA1.out.size)).setCell (p:=⟨bx,0,none⟩) (by rw[ny.out];exact zl _) (.int .i64 at_);rw[<-hw4]at hx4 xy;rw[List.set_cons_zero]at hx4;have Ie:=zH hw4.symm;have Aa:=zH hx4;have HA4:=zH xy;have hd2:=(xy.cell (p:=⟨p,2,none⟩) HPP.out);have HM4:=zH (HM.out.below xy);have HDM:=zH (λW (hW:fF W pm M X R) (hb:Below w.heap.size w W)=>ZN hW ho vE vC {d with aj:=at_} ⟨hd.er,hd.ch,hat,hd.len,hd.wf⟩ λW2 X2 R2 hc=>hcl W2 X2 R2 ((Ch.of hb).trans hc));have H04:=zH xy;have e0:=hx4.cell (i:=0) rfl;have e1:=hx4.cell (i:=1) rfl;have e2:=hx4.cell (i:=2) rfl;have g2:=hd2.trans (by exact HC2.out);clear hx3 hb3 hw4 hx4 xy x0 hd2;go_upto_region 4 with (fail)
  rw[Ie.out];clear hf3 y0;go_still_tail 5,(by kernel_rfl);repeat still_step
  change wpList _ _ _ _ _ w4.drew;have HD4:=zH (HDM.out w4.drew (HM4.out.below ((zB _ _).drew)) (H04.out.drew));go_wp2_with fail;refine HD4.out.mono ?_;rintro e w5 ⟨rfl,X2,R2,hm5,hc5⟩;have HM5:=zH hm5;have HC5:=zH (Ch.trans (X2:=X) (R2:=R) (Ch.of (HA4.out.drew)) hc5);clear hm5 hc5;go_wp2_with fail;go_ret;rw[HR.out];exact⟨rfl,X2,R2,HM5.out,HC5.out⟩
 ·rw[zf hin];have HR:Hid (Pm M n at_ d=(1,M)):=zH (by unfold Pm;rw[zi hin]);clear hin;go_wp2_with fail;go_ret;rw[HR.out];exact Ho.same HM.out HA1.out
structure PD where
 kind:Nat
 n:Nat
 M:aA
 cl:Int
 fin:Bool
 tr:List T.ax
 sA:List UInt8
 sB:List UInt8
 ca:List (Int×List UInt8)
def N9:Int×List UInt8:=(0,[])
def Bg(x:Int×List UInt8):List Value:=[.int .i64 x.1,.string (str x.2)]
theorem xP(x:Int×List UInt8):(Bg x).length=2:=rfl
theorem afH(x:Int×List UInt8):∀u∈Bg x,u.oneCell'=true:=λu hu=>by simp only[Bg,XW,List.not_mem_nil,or_false]at hu;rcases hu with rfl|rfl <;> rfl
theorem jZ{w w':World}{v:Value}{l:List T.ax}(h:bQ w v l)(hk:∀k,v.ownBlock=some k->w'.heap[k]? = w.heap[k]?):bQ w' v l:=by obtain⟨a,c,b,off,rfl,hac,hcell⟩:=h;refine⟨a,c,b,off,rfl,hac,λi hi=>?_⟩;obtain⟨rfl,hr⟩:=hcell i hi;refine⟨rfl,λj u hu=>?_⟩;have h1:=hr j u hu;have h2:=hk b rfl;simp only[World.cell?]at h1 ⊢;rw[h2];exact h1
structure fB (p:Nat) (w w':World):Prop where
 os:w'.os=w.os
 tape:w'.tape=w.tape
 output:w'.output=w.output
 size:w'.heap.size=w.heap.size
 block:∀b,b≠p->w'.heap[b]? = w.heap[b]?
theorem fB.refl(p:Nat)(w:World):fB p w w:=⟨rfl,rfl,rfl,rfl,λ_ _=>rfl⟩
theorem fB.set{p:Nat}{w w':World}(h:fB p w w')(o:Nat)(u:Value):fB p w (w'.setCell ⟨p,o,none⟩ u):=by have hb:=(zB 0 w').setCell (p:=⟨p,o,none⟩) (Xx _) u;exact⟨hb.os.trans h.os,hb.tape.trans h.tape,hb.output.trans h.output,by simpa using h.size,λb hn=>(zh w' ⟨p,o,none⟩ u b hn).trans (h.block b hn)⟩
def DX(p:Nat)(vc:Value)(EX Xm:Nat->Prop):Nat->Prop:=λb=>b=p\/Xm b\/EX b\/vc.ownBlock=some b
def DR(vt:Value)(Rm:Nat->Prop):Nat->Prop:=λb=>Rm b\/vt.ownBlock=some b
structure Apart (p:Nat) (vt vc:Value) (EX Xm Rm:Nat->Prop):Prop where
 p1:¬ Xm p
 p2:¬ Rm p
 p3:¬ EX p
 e1:∀b,EX b->¬ Xm b
 e2:∀b,EX b->¬ Rm b
 t1:∀k,vt.ownBlock=some k->k≠p
 t2:∀k,vt.ownBlock=some k->¬ Xm k
 t3:∀k,vt.ownBlock=some k->¬ EX k
 t4:∀k,vt.ownBlock=some k->vc.ownBlock≠some k
 c1:∀k,vc.ownBlock=some k->k≠p
 c2:∀k,vc.ownBlock=some k->¬ Xm k
 c3:∀k,vc.ownBlock=some k->¬ Rm k
 c4:∀k,vc.ownBlock=some k->¬ EX k
structure iY (w:World) (p:Nat) (D:PD) (pm:Nat) (df:Option Addr) (vt vc:Value) (E:World->Prop) (EX Xm Rm:Nat->Prop):Prop where
 box:Bx w p 101 (kG D.kind D.n pm df D.cl D.fin vt (str D.sA) (str D.sB) vc)
 med:fF w pm D.M Xm Rm
 tr:bQ w vt D.tr
 tl:∀k,vt.ownBlock=some k->k<w.heap.size
 ca:w.ownsRow 0 131 2 vc D.ca.length (fH Bg D.ca)
 ex:∀w':World,(∀b,EX b->w'.heap[b]? = w.heap[b]?)->E w'
 el:∀b,EX b->b<w.heap.size
 ap:Apart p vt vc EX Xm Rm
section
variable {w w' w0:World} {p pm:Nat} {D:PD} {df:Option Addr} {vt vc:Value} {E:World->Prop} {EX Xm Rm X0 R0:Nat->Prop}
theorem iY.lo(h:iY w p D pm df vt vc E EX Xm Rm):∀b,DX p vc EX Xm b\/DR vt Rm b->b<w.heap.size:=λb hb=>by
 obtain⟨L,hm⟩:=h.med;rcases hb with (rfl|hb|hb|hb)|hb|hb
 ·exact h.box.lt
 ·exact hm.lt b (.inl hb)
 ·exact h.el b hb
 ·exact oP h.ca b hb
 ·exact hm.lt b (.inr hb)
 ·exact h.tl b hb
theorem iY.keep(h:iY w p D pm df vt vc E EX Xm Rm)(hs:w.heap.size<=w'.heap.size)(hk:∀b,DX p vc EX Xm b\/DR vt Rm b->w'.heap[b]? = w.heap[b]?):iY w' p D pm df vt vc E EX Xm Rm:=by
 obtain⟨L,hm⟩:=h.med;refine⟨(hk p (.inl (.inl rfl))).trans h.box,⟨L,hm.keep hs λb hb=>hk b (hb.elim (λx=>.inl (.inr (.inl x))) (λx=>.inr (.inl x)))⟩,jZ h.tr λk hb=>hk k (.inr (.inr hb)),λk hb=>zL (h.tl k hb) hs,?_,λw2 h2=>h.ex w2 λb hb=>(h2 b hb).trans (hk b (.inl (.inr (.inr (.inl hb))))),λb hb=>zL (h.el b hb) hs,h.ap⟩;refine⟨h.ca.1,?_⟩;rcases h.ca.2 with h1|⟨g,cap,cur,rfl,hb,hh,rest⟩
 ·exact .inl h1
 ·exact .inr ⟨g,cap,cur,rfl,hb,(hk g (.inl (.inr (.inr (.inr rfl))))).trans hh,rest⟩
theorem iY.below(h:iY w p D pm df vt vc E EX Xm Rm)(hb:Below w.heap.size w w'):iY w' p D pm df vt vc E EX Xm Rm:=h.keep hb.size λb hx=>hb.block b (h.lo b hx)
theorem iY.medium(h:iY w p D pm df vt vc E EX Xm Rm){M2:aA}{X2 R2:Nat->Prop}(hm:fF w' pm M2 X2 R2)(hc:Ch Xm Rm X2 R2 w w'):
 iY w' p {D with M:=M2} pm df vt vc E EX X2 R2/\Ch (DX p vc EX Xm) (DR vt Rm) (DX p vc EX X2) (DR vt R2) w w':=by
 have hnew:∀b,b<w.heap.size->¬ Xm b->¬ X2 b:=λb hb hx h2=>(hc.x b h2).elim hx (λh3=>by omega)
 have adi:∀b,b<w.heap.size->¬ Rm b->¬ R2 b:=λb hb hx h2=>(hc.r b h2).elim hx (λh3=>by omega)
 have hp:=h.box.lt;have hcl:∀k,vc.ownBlock=some k->k<w.heap.size:=λk hk=>oP h.ca k hk
 have hk:∀b,b<w.heap.size->¬ Xm b->w'.heap[b]? = w.heap[b]?:=hc.block;refine⟨⟨(hk p hp h.ap.p1).trans h.box,hm,jZ h.tr λk hb=>hk k (h.tl k hb) (h.ap.t2 k hb),λk hb=>zL (h.tl k hb) hc.size,?_,λw2 h2=>h.ex w2 λb hb=>(h2 b hb).trans (hk b (h.el b hb) (h.ap.e1 b hb)),λb hb=>zL (h.el b hb) hc.size,
  ⟨hnew p hp h.ap.p1,adi p hp h.ap.p2,h.ap.p3,λb hb=>hnew b (h.el b hb) (h.ap.e1 b hb),λb hb=>adi b (h.el b hb) (h.ap.e2 b hb),h.ap.t1,λk hb=>hnew k (h.tl k hb) (h.ap.t2 k hb),h.ap.t3,h.ap.t4,h.ap.c1,λk hb=>hnew k (hcl k hb) (h.ap.c2 k hb),λk hb=>adi k (hcl k hb) (h.ap.c3 k hb),h.ap.c4⟩⟩,
  ⟨hc.os,hc.tape,hc.output,hc.size,λb hb hx=>hk b hb λh2=>hx (.inr (.inl h2)),λb hb=>?_,λb hb=>?_⟩⟩
 ·refine⟨h.ca.1,?_⟩;rcases h.ca.2 with h1|⟨g,cap,cur,rfl,hb,hh,rest⟩
  ·exact .inl h1
  ·exact .inr ⟨g,cap,cur,rfl,hb,(hk g (hcl g rfl) (h.ap.c2 g rfl)).trans hh,rest⟩
 ·rcases hb with hb|hb|hb|hb
  ·exact .inl (.inl hb)
  ·exact(hc.x b hb).imp (λh=>.inr (.inl h)) id
  ·exact .inl (.inr (.inr (.inl hb)))
  ·exact .inl (.inr (.inr (.inr hb)))
 ·rcases hb with hb|hb
  ·exact(hc.r b hb).imp (λh=>.inl h) id
  ·exact .inl (.inr hb)
theorem iY.put(h:iY w p D pm df vt vc E EX Xm Rm)(ho:fB p w w'){D':PD}{vt' vc':Value}
 (hbox:Bx w' p 101 (kG D'.kind D'.n pm df D'.cl D'.fin vt' (str D'.sA) (str D'.sB) vc'))(hM:D'.M=D.M)(ht:bQ w vt' D'.tr)(htl:∀k,vt'.ownBlock=some k->k<w.heap.size)
 (hc:w.ownsRow 0 131 2 vc' D'.ca.length (fH Bg D'.ca))(hap:Apart p vt' vc' EX Xm Rm):iY w' p D' pm df vt' vc' E EX Xm Rm:=by
 obtain⟨L,hm⟩:=h.med;have hk:=ho.block;have hs:=ho.size;refine⟨hbox,?_,jZ ht λk hb=>hk k (hap.t1 k hb),λk hb=>by rw[hs];exact htl k hb,?_,λw2 h2=>h.ex w2 λb hb=>(h2 b hb).trans (hk b λe=>h.ap.p3 (e ▸ hb)),λb hb=>by rw[hs];exact h.el b hb,hap⟩
 ·rw[hM];exact⟨L,hm.keep (YF hs.symm) λb hb=>hk b λe=>by subst e;exact hb.elim h.ap.p1 h.ap.p2⟩
 ·refine⟨hc.1,?_⟩;rcases hc.2 with h1|⟨g,cap,cur,rfl,hb,hh,rest⟩
  ·exact .inl h1
  ·exact .inr ⟨g,cap,cur,rfl,hb,(hk g (hap.c1 g rfl)).trans hh,rest⟩
theorem iY.cells(h:iY w p D pm df vt vc E EX Xm Rm):w.cell? ⟨p,0,none⟩=some (.int .i64 D.kind)/\w.cell? ⟨p,1,none⟩=some (.int .i64 D.n)/\w.cell? ⟨p,2,none⟩=some (.pointer (some ⟨pm,0,none⟩))/\w.cell? ⟨p,3,none⟩=some (.pointer df)/\w.cell? ⟨p,4,none⟩=some (.int .i64 D.cl)/\w.cell? ⟨p,5,none⟩=some (.bool D.fin)/\
 w.cell? ⟨p,6,none⟩=some vt/\w.cell? ⟨p,7,none⟩=some (.string (str D.sA))/\w.cell? ⟨p,8,none⟩=some (.string (str D.sB))/\w.cell? ⟨p,9,none⟩=some vc:=
 ⟨h.box.cell (i:=0) rfl,h.box.cell (i:=1) rfl,h.box.cell (i:=2) rfl,h.box.cell (i:=3) rfl,h.box.cell (i:=4) rfl,h.box.cell (i:=5) rfl,h.box.cell (i:=6) rfl,h.box.cell (i:=7) rfl,h.box.cell (i:=8) rfl,h.box.cell (i:=9) rfl⟩
theorem Ch.put(h:Ch X0 R0 (DX p vc EX Xm) (DR vt Rm) w0 w){vt' vc':Value}(ho:fB p w w')
 (hc:∀k,vc'.ownBlock=some k->X0 k\/w0.heap.size<=k)(ht:∀k,vt'.ownBlock=some k->R0 k\/w0.heap.size<=k):Ch X0 R0 (DX p vc' EX Xm) (DR vt' Rm) w0 w':=by
 have hk:=ho.block;have hs:=ho.size;refine⟨ho.os.trans h.os,ho.tape.trans h.tape,ho.output.trans h.output,by rw[hs];exact h.size,λb hb hx=>(hk b ?_).trans (h.block b hb hx),λb hb=>?_,λb hb=>?_⟩
 ·rintro rfl;exact(h.x b (.inl rfl)).elim hx (λh3=>by omega)
 ·rcases hb with hb|hb|hb|hb
  ·exact h.x b (.inl hb)
  ·exact h.x b (.inr (.inl hb))
  ·exact h.x b (.inr (.inr (.inl hb)))
  ·exact hc b hb
 ·rcases hb with hb|hb
  ·exact h.r b (.inl hb)
  ·exact ht b hb
end
structure Held (w:World) (v:Value) (l:List T.ax) (X:Nat->Prop):Prop where
 rd:bQ w v l
 lt:∀k,v.ownBlock=some k->k<w.heap.size
 ap:∀k,v.ownBlock=some k->¬ X k
theorem Held.keep{w w':World}{v:Value}{l:List T.ax}{X R X2 R2:Nat->Prop}(h:Held w v l X)(hc:Ch X R X2 R2 w w'):Held w' v l X2:=
 ⟨jZ h.rd λk hk=>hc.block k (h.lt k hk) (h.ap k hk),λk hk=>zL (h.lt k hk) hc.size,λk hk hx=>(hc.x k hx).elim (h.ap k hk) (λh3=>by have:=h.lt k hk;omega)⟩
structure Rp where
 key:Int
 aj:Int
 bl:List (List UInt8)
 cl:Int
 fin:Bool
 tr:List T.ax
def Rp.sense(key aj:Int):Rp:=⟨key,aj,[],0,false,[]⟩
def Rp.ok:Rp:=Rp.sense 0 0
def jg(r:Rp)(vb vt:Value):Value:=.agg #[.int .i64 r.key,.int .i64 r.aj,vb,.int .i64 r.cl,.bool r.fin,vt]
structure RpV (w:World) (n0:Nat) (X:Nat->Prop) (r:Rp) (v:Value):Prop where
 ex:∃vb vt,v=jg r vb vt/\fQ w vb r.bl/\bQ w vt r.tr/\(∀k,vb.ownBlock=some k->n0<=k/\¬ X k)/\∀k,vt.ownBlock=some k->n0<=k/\¬ X k
abbrev W6(w:World)(b:Nat)(u0 u1 u2 u3 u4 u5:Value):World:=(((((w.setCell ⟨b,0,none⟩ u0).setCell ⟨b,1,none⟩ u1).setCell ⟨b,2,none⟩ u2).setCell ⟨b,3,none⟩ u3).setCell ⟨b,4,none⟩ u4).setCell ⟨b,5,none⟩ u5
theorem amT{w:World}{b t:Nat}{a0 a1 a2 a3 a4 a5:Value}(h:Bx w b t [a0,a1,a2,a3,a4,a5])(u0 u1 u2 u3 u4 u5:Value):Bx (W6 w b u0 u1 u2 u3 u4 u5) b t [u0,u1,u2,u3,u4,u5]:=by have:=(((((h.set 0 u0).set 1 u1).set 2 u2).set 3 u3).set 4 u4).set 5 u5;simpa using this
theorem zC{B b:Nat}{a w:World}(h:Below B a w)(hb:B<=b)(u0 u1 u2 u3 u4 u5:Value):Below B a (W6 w b u0 u1 u2 u3 u4 u5):=
 (((((h.setCell hb u0).setCell hb u1).setCell hb u2).setCell hb u3).setCell hb u4).setCell hb u5
theorem rY(w:World)(b k:Nat)(u0 u1 u2 u3 u4 u5:Value)(h:k≠b):(W6 w b u0 u1 u2 u3 u4 u5).heap[k]? = w.heap[k]?:=by unfold W6;rw[zh _ _ _ _ h,zh _ _ _ _ h,zh _ _ _ _ h,zh _ _ _ _ h,zh _ _ _ _ h,zh _ _ _ _ h]
theorem ji{w:World}{p pm:Nat}{D:PD}{df:Option Addr}{vt vc:Value}{E:World->Prop}{EX Xm Rm:Nat->Prop}(h:iY w p D pm df vt vc E EX Xm Rm){b:Nat}(hb:∀k,DX p vc EX Xm k\/DR vt Rm k->k≠b)(u0 u1 u2 u3 u4 u5:Value):
 iY (W6 w b u0 u1 u2 u3 u4 u5) p D pm df vt vc E EX Xm Rm:=h.keep (by simp) λk hk=>rY w b k _ _ _ _ _ _ (hb k hk)
theorem lX{w w0:World}{X0 R0 X R:Nat->Prop}(h:Ch X0 R0 X R w0 w){b:Nat}(hb:w0.heap.size<=b)(u0 u1 u2 u3 u4 u5:Value):Ch X0 R0 X R w0 (W6 w b u0 u1 u2 u3 u4 u5):=by have hB:=zC (zB w0.heap.size w) hb u0 u1 u2 u3 u4 u5;exact⟨hB.os.trans h.os,hB.tape.trans h.tape,hB.output.trans h.output,zT h.size hB.size,λk hk hx=>(rY w b k _ _ _ _ _ _ (by omega)).trans (h.block k hk hx),h.x,h.r⟩
def aX:List Value:=[.int .i64 0,.int .i64 0,.slice none 0 0,.int .i64 0,.bool false,.slice none 0 0]
theorem pK(key aj:Int)(w:World):Calls prog 33 #[.int .i64 key,.int .i64 aj] w λe w'=>e=.returned (jg (Rp.sense key aj) (.slice none 0 0) (.slice none 0 0))/\Below w.heap.size w w':=by go_enter func33,ntmps33;go_wp2_with fail;refine zr (v:=jg (Rp.sense key aj) (.slice none 0 0) (.slice none 0 0)) (by simp[results,results33,go_sem,jg,Rp.sense]) rfl ⟨rfl,?_⟩;exact(zB _ _).alloc (zl _) _
def qZ(aj:Int)(good:Bool):Rp:=if good=true then Rp.ok else Rp.sense 2 aj
theorem V9(aj:Int)(good:Bool)(w:World):Calls prog 154 #[.int .i64 aj,.bool good] w λe w'=>e=.returned (jg (qZ aj good) (.slice none 0 0) (.slice none 0 0))/\Below w.heap.size w w':=by
 cases good with
 | true=>
   go_enter func154,ntmps154;go_wp2_with fail;refine zr (v:=jg (qZ aj true) (.slice none 0 0) (.slice none 0 0)) (by simp[results,results154,go_sem,jg,qZ,Rp.ok,Rp.sense]) rfl ⟨rfl,?_⟩;exact(zB _ _).alloc (zl _) _
 | false=>
   have HS:=zH (λW=>pK 2 aj W);have hA:=(zB w.heap.size w).alloc (zl _) (.cells #[.int .i64 0,.int .i64 0,.slice none 0 0,.int .i64 0,.bool false,.slice none 0 0] 58);have hx:Bx (w.alloc (.cells #[.int .i64 0,.int .i64 0,.slice none 0 0,.int .i64 0,.bool false,.slice none 0 0] 58)) w.heap.size 58 [.int .i64 0,.int .i64 0,.slice none 0 0,.int .i64 0,.bool false,.slice none 0 0]:=Bx.new w _ _;obtain⟨w1,hw1⟩:∃w1,w1=w.alloc (.cells #[.int .i64 0,.int .i64 0,.slice none 0 0,.int .i64 0,.bool false,.slice none 0 0] 58):=⟨_,rfl⟩;obtain⟨b,hb⟩:∃b,b=w.heap.size:=⟨_,rfl⟩;rw[<-hw1]at hA hx;rw[<-hb]at hx;have HX:=zH hx;have HA:=zH hA;have HW1:=zH hw1.symm;have HB:=zH hb;clear hA hx hw1 hb;go_enter func154,ntmps154;go_upto_region 1 with (fail)
   rw[HW1.out,<-HB.out];unfold jg at HS;go_wp2_with fail;refine(HS.out w1).mono ?_;rintro e w2 ⟨rfl,hb2⟩;have hx2:=HX.out.call hb2;have HA2:=zH (HA.out.trans (hb2.mono HA.out.size));have c0:=hx2.cell (i:=0) rfl;have c1:=hx2.cell (i:=1) rfl;have c2:=hx2.cell (i:=2) rfl;have c3:=hx2.cell (i:=3) rfl;have c4:=hx2.cell (i:=4) rfl;have c5:=hx2.cell (i:=5) rfl;have f:=λi=>hx2.free i
   clear hb2 hx2;go_wp2_with fail;refine zr (v:=jg (qZ aj false) (.slice none 0 0) (.slice none 0 0)) (by simp[results,results154,go_sem,jg,qZ,Rp.sense,c0,c1,c2,c3,c4,c5]) rfl ⟨rfl,?_⟩;exact zC HA2.out (YF HB.out.symm) _ _ _ _ _ _
theorem wY{p:Nat}{w:World}(hc:w.cell? ⟨p,3,none⟩=some (.pointer none))(x:Int):
 Calls prog 43 #[.pointer (some ⟨p,0,none⟩),.int .i64 x] w λe w'=>e=.returned (.int .i64 x)/\w=w':=by
 go_enter func43,ntmps43;go_wp2_with fail;go_ret;exact⟨rfl,rfl⟩
theorem Ej{p:Nat}{k:Int}{w:World}(hc:w.cell? ⟨p,0,none⟩=some (.int .i64 k)):
 Calls prog 152 #[.pointer (some ⟨p,0,none⟩)] w λe w'=>e=.returned (.bool (decide (k=1)))/\w=w':=by
 go_enter func152,ntmps152;go_wp2_with fail;go_ret;exact⟨iT (by by_cases h:k=1 <;> simp[h]),rfl⟩
def Zl(x:Int×List UInt8):Prop:=-150<=x.1/\x.1<=449849/\x.2.length=2048
def uy(M:aA)(x:Int×List UInt8):Int×aA:=M.record x.1 (T7.rec x.1 x.2)
theorem aez{w:World}{p pm N:Nat}{D:PD}{vt vc:Value}{E:World->Prop}{EX Xm Rm:Nat->Prop}(h:iY w p D pm none vt vc E EX Xm Rm)(ho:D.M.Ok N)(hN:N<=4611686018427387904)(x:Int×List UInt8)(hx:Zl x):
 Calls prog 239 #[.pointer (some ⟨p,0,none⟩),.agg #[.int .i64 x.1,.string (str x.2)]] w λe w'=>∃X2 R2,e=.returned (.bool (decide ((uy D.M x).1=0)))/\iY w' p {D with M:=(uy D.M x).2} pm none vt vc E EX X2 R2/\
  Ch (DX p vc EX Xm) (DR vt Rm) (DX p vc EX X2) (DR vt R2) w w':=by
 obtain⟨aj,d⟩:=x;obtain⟨h0,h1,hd⟩:=hx;dsimp only at h0 h1 hd ⊢;have hA:=(zB w.heap.size w).alloc (zl _) (.cells #[.int .i64 aj,.string (str d)] 131);have hbx:Bx (w.alloc (.cells #[.int .i64 aj,.string (str d)] 131)) w.heap.size 131 [.int .i64 aj,.string (str d)]:=Bx.new w _ _;obtain⟨w1,hw1⟩:∃w1,w1=w.alloc (.cells #[.int .i64 aj,.string (str d)] 131):=⟨_,rfl⟩;obtain⟨b,hb⟩:∃b,b=w.heap.size:=⟨_,rfl⟩;rw[<-hw1]at hA hbx;rw[<-hb]at hbx;have HX:=zH hbx;have HA:=zH hA;have HW1:=zH hw1.symm;have HB:=zH hb;have HD:=zH h;have HR:=zH (λW=>amM aj d W h0 h1 hd);have HRC:Hid (∀W,fF W pm D.M Xm Rm->Calls prog 304 #[.pointer (some ⟨pm,0,none⟩),.int .i64 aj,.string (str (T7.rec aj d))] W (Ho (uy D.M (aj,d)) pm Xm Rm W)):=zH λW hW=>aey hW ho hN aj (T7.rec aj d) (by rw[yS];omega)
 have x0:=hbx.cell (i:=0) rfl;have x1:=hbx.cell (i:=1) rfl;obtain⟨Z,hZ⟩:∃Z,Z=uy D.M (aj,d):=⟨_,rfl⟩;rw[<-hZ]at HRC ⊢;generalize str (T7.rec aj d)=RS at *;generalize str d=DS at *;clear hA hbx hw1 hb h h0 h1 hd hZ;go_enter func239,ntmps239;go_upto_region 1 with (fail)
 rw[HW1.out,<-HB.out];go_wp2_with fail;refine(HR.out w1).mono ?_;rintro e w2 ⟨rfl,hb2⟩;have HB2:=zH (HA.out.trans (hb2.mono HA.out.size));have hx2:=HX.out.call hb2;have y0:=hx2.cell (i:=0) rfl;have hd2:=HD.out.below HB2.out;have HD2:=zH hd2;obtain⟨c0,c1,c2,c3,_⟩:=hd2.cells;have G8:=zH (λ(W:World) (hc:W.cell? ⟨p,3,none⟩=some (.pointer none))=>wY hc aj);clear hb2 hx2 x0 x1 hd2;go_upto_region 2 with (fail)
 go_still_tail 9,(by kernel_rfl)
 still_call (Jn (G8.out _ (by assumption)))
 repeat still_step
 change wpList _ _ _ _ _ w2.drew;have hdr:=(zB w2.heap.size w2).drew;have hd3:=HD2.out.below hdr;have HD3:=zH hd3;have HB3:=zH (HB2.out.drew);have HC3:=zH (HRC.out w2.drew hd3.med);clear hdr hd3 y0;go_wp2_with fail;refine HC3.out.mono ?_;rintro e w4 ⟨rfl,X2,R2,hm4,hc4⟩;obtain⟨hd4,hc5⟩:=HD3.out.medium hm4 hc4;have HD4:=zH hd4;have HC5:=zH (Ch.trans (Ch.of (X:=DX p vc EX Xm) (R:=DR vt Rm) HB3.out) hc5);clear hm4 hc4 hc5 hd4 c0 c1 c2 c3;go_wp2_with fail
 go_loopw [6] (λv wr=>v=.int .i64 Z.1/\wr=w4) (λ_ _=>0)
 case atStart=>exact⟨rfl,rfl⟩
 case round=>
  obtain⟨rfl,rfl⟩:=hrel;obtain⟨c0,c1,c2,c3,_⟩:=HD4.out.cells;dsimp only at c0 c1 c2 c3;go_wp2_with fail;go_ret;exact⟨iT (by by_cases h:Z.1=0 <;> simp[h]),X2,R2,HD4.out,HC5.out⟩
def TV{σ:Type}(st:σ->Int×List UInt8->σ×Bool)(s:σ×Int×Bool)(x:Int×List UInt8):σ×Int×Bool:=
 if (st s.1 x).2=true then((st s.1 x).1,s.2) else((st s.1 x).1,if s.2.2=true\/x.1<s.2.1 then x.1 else s.2.1,false)
def TU{σ:Type}(st:σ->Int×List UInt8->σ×Bool)(s:σ)(l:List (Int×List UInt8)):σ×Int×Bool:=l.foldl (TV st) (s,0,true)
theorem acV{σ:Type}(st:σ->Int×List UInt8->σ×Bool)(s:σ)(l:List (Int×List UInt8)){k:Nat}(h:k<l.length):TU st s (l.take (k+1))=TV st (TU st s (l.take k)) (aJ N9 l k):=by unfold TU;rw[Yo h,List.foldl_append];simp[aJ,h]
def FlP{σ:Type}(P:σ->World->Prop)(r:σ×Int×Bool)(e:Ending)(w':World):Prop:=e=.returned (.tuple #[.int .i64 r.2.1,.bool r.2.2])/\P r.1 w'
theorem aab{σ:Type}(P:Nat->σ->World->Prop)(st:σ->Int×List UInt8->σ×Bool)(p:Nat)(v:Value)(l:List (Int×List UInt8))(s0:σ)(w:World)(hn:l.length<=1000000)
 (HP:∀k s W o,k<l.length->P k s W->Calls prog 239 #[.pointer (some ⟨p,0,none⟩),.agg #[.int .i64 (aJ N9 l k).1,.string (str (aJ N9 l k).2)]] (W.alloc o) λe w'=>e=.returned (.bool (st s (aJ N9 l k)).2)/\P (k+1) (st s (aJ N9 l k)).1 w'/\w'.heap[W.heap.size]? = some o)
 (HR:∀k s W,P k s W->dB N9 Bg 2 W v l)(h0:P 0 s0 w):
 Calls prog 155 #[.pointer (some ⟨p,0,none⟩),v] w (FlP (P l.length) (TU st s0 l)):=by
 obtain⟨a,c,rfl,hac⟩:=dB.form (HR _ _ _ h0);have HPP:=zH HP;have HRR:=zH HR;have H0:=zH h0;clear HP HR h0;obtain⟨n,hnl⟩:∃n,n=l.length:=⟨_,rfl⟩;rw[<-hnl]at hn HRR ⊢;have HN:=zH hnl;clear hnl;go_enter func155,ntmps155;go_wp2_with fail
 go_loopw [6,7,12] (λvl vg vi wr=>∃(k:Nat)(least:Int)(good:Bool),k<=n/\vi=.int .i64 k/\vl=.int .i64 least/\vg=.bool good/\Hid ((TU st s0 (l.take k)).2=(least,good))/\P k (TU st s0 (l.take k)).1 wr) (λ_ _ vi _=>n-(RowKit.intOf vi).toNat)
 case atStart=>exact⟨0,0,true,by omega,rfl,rfl,rfl,zH rfl,H0.out⟩
 case round=>
  obtain⟨k,least,good,hk,rfl,rfl,rfl,HL,hP⟩:=hrel;by_cases hlt:k<n
  ·have hkl:k<l.length:=by rw[<-HN.out];exact hlt
   obtain⟨b,o,kk⟩:=dB.at (HRR.out _ _ _ hP);obtain⟨ha,hrange⟩:=kk k hkl;have HT:=zH (acV st s0 l hkl);obtain⟨x,hx⟩:∃x,x=aJ N9 l k:=⟨_,rfl⟩;rw[<-hx]at hrange HT;obtain⟨S,hS⟩:∃S,S=TU st s0 (l.take k):=⟨_,rfl⟩;rw[<-hS]at HT HL;have hP:P k S.1 wr:=by rw[hS];exact hP
   have hix:=λw'=>aB underlying99 (by kernel_rfl:(prog.info? 131).map (·.size)=some 2) (cap:=c) (n:=n) ha hlt (k:Int) rfl w'
   have hc0:wr.cell? ⟨b,o+k*2,none⟩=some (.int .i64 x.1):=hrange 0 _ rfl;have hc1:wr.cell? ⟨b,o+k*2+1,none⟩=some (.string (str x.2)):=hrange 1 _ rfl;have hA:=(zB wr.heap.size wr).alloc (zl _) (.cells #[.int .i64 x.1,.string (str x.2)] 131);have hbx:Bx (wr.alloc (.cells #[.int .i64 x.1,.string (str x.2)] 131)) wr.heap.size 131 [.int .i64 x.1,.string (str x.2)]:=Bx.new wr _ _;obtain⟨w1,hw1⟩:∃w1,w1=wr.alloc (.cells #[.int .i64 x.1,.string (str x.2)] 131):=⟨_,rfl⟩;obtain⟨bx,hbb⟩:∃b,b=wr.heap.size:=⟨_,rfl⟩;rw[<-hw1]at hA hbx;rw[<-hbb]at hbx;have HRC:=zH (HPP.out k S.1 wr (.cells #[.int .i64 x.1,.string (str x.2)] 131) hkl hP);rw[<-hx,<-hw1,<-hbb]at HRC;have y0:=hbx.cell (i:=0) rfl;have y1:=hbx.cell (i:=1) rfl;have HX:=zH hbx;have HW1:=zH hw1.symm;have zX:=zH hbb;have Ha:=zH ha;obtain⟨Q,hQ⟩:∃Q,Q=st S.1 x:=⟨_,rfl⟩;have HG:Hid (TV st S x=if Q.2=true then(Q.1,S.2) else(Q.1,if S.2.2=true\/x.1<S.2.1 then x.1 else S.2.1,false)):=zH (by rw[hQ];rfl);rw[<-hQ]at HRC;obtain⟨Q1,q2⟩:=Q;dsimp only at HRC HG;obtain⟨aj,d⟩:=x;dsimp only at hc0 hc1 y0 y1 HRC HX HW1 HG;generalize str d=DS at *;clear hP hrange ha hA hbx hw1 hbb hx hS hQ kk;go_upto_region 5 with (fail)
   rw[HW1.out,<-zX.out];clear hc0 hc1;have HLL:Hid (S.2=(least,good)):=HL;go_wp2_with fail;refine HRC.out.mono ?_;rintro e w2 ⟨rfl,hp2,hxk⟩;have HP2:=zH hp2;have hxk:Bx w2 bx 131 [.int .i64 aj,.string DS]:=hxk;clear hp2 y0 y1;cases q2 with
   | true=>
     have HF:Hid (TU st s0 (l.take (k+1))=(Q1,S.2)):=zH (by rw[HT.out,HG.out,zj rfl]);go_wp2_with fail;go_roundw;case rel=>
      refine⟨k+1,least,good,by omega,by go_num,rfl,rfl,zH ?_,?_⟩
      ·rw[HF.out,HLL.out]
      ·rw[HF.out];exact HP2.out
     case measure=>simp[RowKit.intOf];omega
   | false=>
     have z0:=hxk.cell (i:=0) rfl;clear hxk;by_cases hg:good=true\/aj<least
     ·have HF:Hid (TU st s0 (l.take (k+1))=(Q1,aj,false)):=zH (by rw[HT.out,HG.out,zi (by decide),HLL.out];dsimp only;rw[zj hg]);have hgb:(good || decide (aj<least))=true:=by rcases hg with h|h <;> simp[h]
      clear hg;cases good with
      | true=>
        go_wp2_with fail;go_roundw;case rel=>
         refine⟨k+1,aj,false,by omega,by go_num,rfl,rfl,zH ?_,?_⟩
         ·rw[HF.out]
         ·rw[HF.out];exact HP2.out
        case measure=>simp[RowKit.intOf];omega
      | false=>
        have hd:decide (aj<least)=true:=by simpa using hgb
        clear hgb;go_wp2_with fail;go_roundw;case rel=>
         refine⟨k+1,aj,false,by omega,by go_num,rfl,rfl,zH ?_,?_⟩
         ·rw[HF.out]
         ·rw[HF.out];exact HP2.out
        case measure=>simp[RowKit.intOf];omega
     ·have HF:Hid (TU st s0 (l.take (k+1))=(Q1,least,false)):=zH (by rw[HT.out,HG.out,zi (by decide),HLL.out];dsimp only;rw[zi hg]);have hd:decide (aj<least)=false:=zf λh=>hg (.inr h)
      obtain rfl:good=false:=by cases good with
       |false=>rfl
       |true=>exact absurd (.inl rfl) hg
      clear hg;go_wp2_with fail;go_roundw;case rel=>
       refine⟨k+1,least,false,by omega,by go_num,rfl,rfl,zH ?_,?_⟩
       ·rw[HF.out]
       ·rw[HF.out];exact HP2.out
      case measure=>simp[RowKit.intOf];omega
  ·obtain rfl:k=n:=by omega
   have HF:Hid (TU st s0 (l.take k)=TU st s0 l):=zH (by rw[YE (by rw[<-HN.out];exact zl _)]);rw[HF.out]at HL hP;have HP9:=zH hP;clear hP;go_wp2_with fail;go_ret2;refine⟨?_,HP9.out⟩;rw[HL.out];rfl
def vM(D:PD):List UInt8×List UInt8:=if (E1.mi D.n D.sA D.sB D.cl D.fin D.tr).2=0 then(E1.mi D.n D.sA D.sB D.cl D.fin D.tr).1 else(D.sA,D.sB)
def qK(D:PD):PD:={D with sA:=(vM D).1,sB:=(vM D).2}
structure abV (D:PD):Prop where
 fine:E1.Fine D.tr
 cl:D.cl<=9223372036854775807
 a:D.sA.length<=20000
 b:D.sB.length<=20000
def ahB(p n0 n:Nat)(cl code:Int)(fin:Bool)(vt:Value)(SA SB A B:ByteArray)(i:Nat)(v:Value)(d:Nat->Value)(W:World):Prop:=match i with
 |0=>v=.pointer (some ⟨p,0,none⟩)
 |1=>v=.pointer (some ⟨p,0,none⟩)
 |2=>v=.pointer (some ⟨p,1,none⟩)
 |3=>v=.int .i64 n
 |4=>v=.pointer (some ⟨p,0,none⟩)
 |5=>v=.pointer (some ⟨p,0,none⟩)
 |6=>v=.pointer (some ⟨p,7,none⟩)
 |7=>v=.agg #[.string SA,.string SB]
 |8=>v=.pointer (some ⟨p,0,none⟩)
 |9=>v=.pointer (some ⟨p,0,none⟩)
 |10=>v=.pointer (some ⟨p,4,none⟩)
 |11=>v=.agg #[.int .i64 cl,.bool fin,vt]
 |12=>v=.tuple #[.agg #[.string A,.string B],.int .i64 code]
 |13=>v=.tuple #[.agg #[.string A,.string B],.int .i64 code]
 |14=>v=.agg #[.string A,.string B]
 |15=>v=.int .i64 code
 |16=>∃g,v=.pointer (some ⟨g,0,none⟩)/\n0<=g/\∃cs:List Value,cs.length=2/\Bx W g 39 cs
 |17=>∃g,d 16=.pointer (some ⟨g,0,none⟩)/\n0<=g/\∃cs:List Value,cs.length=2/\Bx W g 39 cs/\(λ_ cs=>cs = [.string A,.string B]) W cs
 |18=>v=.int .i64 code
 |_=>True
theorem aa9(p n0 n:Nat)(cl code:Int)(fin:Bool)(vt:Value)(SA SB A B:ByteArray)(i:Nat)(v:Value)(d:Nat->Value)(W W':World)(hR:(aU n0 39 2 (λ_ cs=>cs = [.string A,.string B])) W W')(h:ahB p n0 n cl code fin vt SA SB A B i v d W):ahB p n0 n cl code fin vt SA SB A B i v d W':=by
 by_cases h16:i=16
 ·subst h16;obtain⟨g,h1,h2,h3⟩:=h;exact⟨g,h1,h2,aU.some hR h3⟩
 by_cases h17:i=17
 ·subst h17;obtain⟨g,h1,h2,h3⟩:=h;exact⟨g,h1,h2,aU.full hR (λ_ h=>h) h3⟩
 unfold ahB at h ⊢;split at h <;> first|exact h|exact absurd rfl h16|exact absurd rfl h17
theorem Nv{w w0:World}{p pm:Nat}{D:PD}{df:Option Addr}{vt vc:Value}{E:World->Prop}{EX Xm Rm X0 R0:Nat->Prop}(h:iY w p D pm df vt vc E EX Xm Rm)(ht:abV D)(hc:Ch X0 R0 (DX p vc EX Xm) (DR vt Rm) w0 w):
 Calls prog 35 #[.pointer (some ⟨p,0,none⟩)] w λe w'=>e=.returned (.tuple #[])/\iY w' p (qK D) pm df vt vc E EX Xm Rm/\Ch X0 R0 (DX p vc EX Xm) (DR vt Rm) w0 w':=by
 have KG:Hid (∀W,Below w.heap.size w W->Calls prog 85 #[.int .i64 D.n,E1.sN D.sA D.sB,aN D.cl D.fin vt] W (E1.DT (E1.mi D.n D.sA D.sB D.cl D.fin D.tr) W)):=zH λW hW=>E1.aaO D.n D.sA D.sB D.cl D.fin _ D.tr W (bQ.keep h.tr hW) ht.fine ht.cl ht.a ht.b
 obtain⟨⟨⟨LA,LB⟩,code⟩,hZ⟩:∃Z,Z=E1.mi D.n D.sA D.sB D.cl D.fin D.tr:=⟨_,rfl⟩;have HZ:Hid (vM D=if code=0 then(LA,LB) else(D.sA,D.sB)):=zH (by unfold vM;rw[<-hZ]);rw[<-hZ]at KG;unfold E1.DT E1.sN at KG;dsimp only at KG;obtain⟨c0,c1,c2,c3,c4,c5,c6,c7,c8,c9⟩:=h.cells;have HD:=zH h;have HC:=zH hc;have G8:=zH h.box.lt;have rZ:Hid (∀W,Below w.heap.size w W->W.cell? ⟨p,1,none⟩=some (.int .i64 D.n)/\W.cell? ⟨p,4,none⟩=some (.int .i64 D.cl)/\W.cell? ⟨p,5,none⟩=some (.bool D.fin)/\W.cell? ⟨p,6,none⟩=some vt/\W.cell? ⟨p,7,none⟩=some (.string (str D.sA))/\W.cell? ⟨p,8,none⟩=some (.string (str D.sB))):=zH λW hW=>
  ⟨(hW.cell (p:=⟨p,1,none⟩) h.box.lt).trans c1,(hW.cell (p:=⟨p,4,none⟩) h.box.lt).trans c4,(hW.cell (p:=⟨p,5,none⟩) h.box.lt).trans c5,(hW.cell (p:=⟨p,6,none⟩) h.box.lt).trans c6,(hW.cell (p:=⟨p,7,none⟩) h.box.lt).trans c7,(hW.cell (p:=⟨p,8,none⟩) h.box.lt).trans c8⟩
 obtain⟨A,hA⟩:∃A,A=str LA:=⟨_,rfl⟩;obtain⟨B,hB⟩:∃B,B=str LB:=⟨_,rfl⟩;rw[<-hA,<-hB]at KG;have HA:=zH hA;have HB:=zH hB;obtain⟨SA,hSA⟩:∃S,S=str D.sA:=⟨_,rfl⟩;obtain⟨SB,Wn⟩:∃S,S=str D.sB:=⟨_,rfl⟩;rw[<-hSA,<-Wn]at rZ KG;have HSA:=zH hSA;have HSB:=zH Wn;obtain⟨n,hn⟩:∃n,n=D.n:=⟨_,rfl⟩;obtain⟨cl,hcl⟩:∃n,n=D.cl:=⟨_,rfl⟩;obtain⟨fin,hfin⟩:∃n,n=D.fin:=⟨_,rfl⟩;rw[<-hn,<-hcl,<-hfin]at rZ KG;obtain⟨n0,hn0⟩:∃n,n=w.heap.size:=⟨_,rfl⟩;have xx:=zH hn0;rw[<-hn0]at rZ KG;clear h ht hc hZ c0 c1 c2 c3 c4 c5 c6 c7 c8 c9 hA hB hSA Wn hn hcl hfin hn0;go_enter func35,ntmps35;go_upto_region 0 with (fail)
 refine fO (by kernel_rfl) (aU n0 39 2 (λ_ cs=>cs = [.string A,.string B])) (λW=>Below n0 w W) (ahB p n0 n cl code fin vt SA SB A B) (λ_=>false) (by kernel_rfl) (λW W' hR h=>h.trans hR.1) (aa9 p n0 n cl code fin vt SA SB A B) ((zB _ _).drew) ⟨?_,?_,?_,?s3,?_,?_,?_,?s7,?_,?_,?_,?s11,?s12,?_,?_,?_,?s16,?s17,?_,trivial⟩ ?_;all_goals first
  | (intro a W hc hsz hold ah
     have o0:a.tmps.getD 0 undef=.pointer (some ⟨p,0,none⟩):=hold 0 (by kernel_rfl);try have d0:=zV 5 (.pointer (some ⟨p,0,none⟩)) (ah 0 rfl rfl _ rfl)
     try have d1:=zV 6 (.pointer (some ⟨p,0,none⟩)) (ah 1 rfl rfl _ rfl)
     try have d4:=zV 9 (.pointer (some ⟨p,0,none⟩)) (ah 4 rfl rfl _ rfl)
     try have d5:=zV 10 (.pointer (some ⟨p,0,none⟩)) (ah 5 rfl rfl _ rfl)
     try have d8:=zV 13 (.pointer (some ⟨p,0,none⟩)) (ah 8 rfl rfl _ rfl)
     try have d9:=zV 14 (.pointer (some ⟨p,0,none⟩)) (ah 9 rfl rfl _ rfl)
     try have d12:=zV 17 (.tuple #[.agg #[.string A,.string B],.int .i64 code]) (ah 12 rfl rfl _ rfl)
     try have d13:=zV 4 (.tuple #[.agg #[.string A,.string B],.int .i64 code]) (ah 13 rfl rfl _ rfl)
     try have d15:=zV 19 (.int .i64 code) (ah 15 rfl rfl _ rfl)
     clear hsz hold ah;refine ai rfl (ag rfl) ?_;refine ay aU.refl rfl λK hK=>?_
     go_simp;exact hK)
  |skip
 try case s3=>
  intro a W hc hsz hold ah;have d2:=zV 7 (.pointer (some ⟨p,1,none⟩)) (ah 2 rfl rfl _ rfl);obtain⟨q1,q4,q5,q6,q7,q8⟩:=rZ.out W hc;clear hsz hold ah;refine ai rfl (ag rfl) ?_;refine ay (v:=.int .i64 n) aU.refl rfl λK hK=>?_
  go_simp;exact hK
 try case s7=>
  intro a W hc hsz hold ah;have d6:=zV 11 (.pointer (some ⟨p,7,none⟩)) (ah 6 rfl rfl _ rfl);obtain⟨q1,q4,q5,q6,q7,q8⟩:=rZ.out W hc;clear hsz hold ah;refine ai rfl (ag rfl) ?_;refine ay (v:=.agg #[.string SA,.string SB]) aU.refl rfl λK hK=>?_
  go_simp;exact hK
 try case s11=>
  intro a W hc hsz hold ah;have d10:=zV 15 (.pointer (some ⟨p,4,none⟩)) (ah 10 rfl rfl _ rfl);obtain⟨q1,q4,q5,q6,q7,q8⟩:=rZ.out W hc;clear hsz hold ah;refine ai rfl (ag rfl) ?_;refine ay (v:=.agg #[.int .i64 cl,.bool fin,vt]) aU.refl rfl λK hK=>?_
  go_simp;exact hK
 try case s12=>
  intro a W hc hsz hold ah;have d3:=zV 8 (.int .i64 n) (ah 3 rfl rfl _ rfl);have e3:=zq d3;have d7:=zV 12 (.agg #[.string SA,.string SB]) (ah 7 rfl rfl _ rfl);have e7:=zq d7;have d11:=zV 16 (.agg #[.int .i64 cl,.bool fin,vt]) (ah 11 rfl rfl _ rfl);have e11:=zq d11;clear hsz hold ah;refine ai rfl (ag rfl) ?_;refine rP (v:=.tuple #[.agg #[.string A,.string B],.int .i64 code]) (λW' hb=>aU.call (by rw[xx.out];exact hc.size) hb) (λ_=>rfl) λK hK=>?_
  go_simp;refine(KG.out W hc).mono ?_;rintro e w' ⟨rfl,hb'⟩;exact hK _ hb'
 try case s16=>
  intro a W hc hsz hold ah;clear hsz hold ah;refine ai rfl (ag rfl) ?_;refine dA (v:=.pointer (some ⟨W.heap.size,0,none⟩)) (aU.alloc (by rw[xx.out];exact hc.size) (.cells #[.string ⟨#[]⟩,.string ⟨#[]⟩] 39)) ⟨W.heap.size,rfl,(by rw[xx.out];exact hc.size),[.string ⟨#[]⟩,.string ⟨#[]⟩],rfl,Bx.new _ _ _⟩ λK hK=>?_
  go_simp;exact hK
 try case s17=>
  intro a W hc hsz hold ah;have x16:=ah 16 rfl rfl _ rfl;have d14:=zV 18 (.agg #[.string A,.string B]) (ah 14 rfl rfl _ rfl);clear hsz hold ah;refine ai rfl (ag rfl) ?_;obtain⟨g,hg,hgB,cs,hl,hB⟩:=x16;replace hg:a.tmps.getD 2 undef=.pointer (some ⟨g,0,none⟩):=hg;have hlt:=hB.lt;have hf:=hB.free;have z0:∃v,W.cell? ⟨g,0,none⟩=some v:=⟨_,hB.cell (Ye (by rw[hl];decide))⟩;obtain⟨u0,z0⟩:=z0;have z1:∃v,W.cell? ⟨g,1,none⟩=some v:=⟨_,hB.cell (Ye (by rw[hl];decide))⟩;obtain⟨u1,z1⟩:=z1;have hP:=(rfl:([.string A,.string B]:List Value) = [.string A,.string B]);refine dA (v:=undef) (aU.store (cs0:=[.string A,.string B]) hgB rfl ⟨cs,hl,hB⟩ hP) ⟨g,hg,hgB,[.string A,.string B],rfl,hB.full hl,hP⟩ λK hK=>?_
  clear hB hl;go_simp;exact hK
 ·intro a W hC hd hsz hold hval;obtain⟨g,hg,hgB,cs,hcl,hcx,hcs⟩:=hval 17 _ rfl rfl;have d2:a.tmps.getD 2 undef=.pointer (some ⟨g,0,none⟩):=hg;clear hg;replace hcs:cs = [.string A,.string B]:=hcs;subst hcs;have d3:a.tmps.getD 3 undef=.int .i64 code:=hval 18 _ rfl rfl;obtain⟨G,hG,ha⟩:=dK [2,3,4,5,6,7,8,9,10,11,12,13,14,15,16,17,18,19] (by kernel_rfl) hd hsz hold;simp only[hG]at d3 d2;rw[ha];clear ha hG hd hsz hold;simp only[cZ,Ym,List.set,d3,d2];clear d3 d2;have hC:Below w.heap.size w W:=by rw[<-xx.out];exact hC
  have hd:=HD.out.below hC;have DJ:=zH hd;have VC:=zH (HC.out.trans (Ch.of hC));have HGN:Hid (g≠p):=zH (by have:=G8.out;have:=xx.out;omega);obtain⟨e0,e1,e2,e3,e4,e5,e6,e7,e8,e9⟩:=hd.cells;have f7:=hd.box.free 7;have f8:=hd.box.free 8;have g0:=hcx.cell (i:=0) rfl;have g1:=hcx.cell (i:=1) rfl;have hpl:=hd.box.lt;clear hC hval hcx hcl hgB hd;by_cases hcode:code=0
  ·have HS2:Hid (vM D=(LA,LB)):=zH (by rw[HZ.out,zj hcode]);subst hcode;go_wp2_with fail;have HF:Hid (iY ((W.setCell ⟨p,7,none⟩ (.string A)).setCell ⟨p,8,none⟩ (.string B)) p (qK D) pm df vt vc E EX Xm Rm/\Ch X0 R0 (DX p vc EX Xm) (DR vt Rm) w0 ((W.setCell ⟨p,7,none⟩ (.string A)).setCell ⟨p,8,none⟩ (.string B))):=zH (by
    have hk:=((fB.refl p W).set 7 (.string A)).set 8 (.string B);have hbx:=(DJ.out.box.set 7 (.string A)).set 8 (.string B);have hh:=VC.out;have hlo:=DJ.out.lo;refine⟨DJ.out.put hk (D':=qK D) (vt':=vt) (vc':=vc) ?_ rfl DJ.out.tr DJ.out.tl DJ.out.ca DJ.out.ap,Ch.put hh hk (λk hk=>hh.x k (.inr (.inr (.inr hk)))) (λk hk=>hh.r k (.inr hk))⟩;unfold qK;rw[HS2.out];simp only;rw[<-HA.out,<-HB.out];exact hbx)
   go_end0;exact⟨rfl,HF.out⟩
  ·have HS2:Hid (qK D=D):=zH (by unfold qK;rw[HZ.out,zi hcode]);have hcb:(code == 0)=false:=Yc.2 hcode;clear hcode;go_wp2_with fail;go_end0;rw[HS2.out];exact⟨rfl,DJ.out,VC.out⟩
end T7
end Go.Proofs.YtfnehkmhcmkhjaaGreat
