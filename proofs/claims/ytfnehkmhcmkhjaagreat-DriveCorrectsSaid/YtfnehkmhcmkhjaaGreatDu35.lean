/- Parts -/
import Derived.Test.YtfnehkmhcmkhjaaGreatDu34
set_option maxRecDepth 100000
set_option maxHeartbeats 8000000
set_option linter.unusedVariables false
namespace Go.Proofs.YtfnehkmhcmkhjaaGreat
open Tryz
namespace T7
open Go Go.RowKit C9 wu
theorem aht{W W':World}{b:Nat}{v:Value}{l:List T.ax}(h:bQ W v l)(hb:Bx W b 58 aX)(hk:∀k,k≠b->W'.heap[k]? = W.heap[k]?):bQ W' v l:=by
 cases l with
 | nil=>
   obtain⟨a,c,rfl,_⟩:=dU.form h;exact dU.empty _ _ _ _ _
 | cons x r=>
   refine jZ h λk hv=>hk k ?_
   rintro rfl;obtain⟨a,c,b,off,rfl,hac,hcell⟩:=h;obtain⟨ha,hr⟩:=hcell 0 (by simp);subst ha;obtain rfl:b=k:=zs hv;have h6:W.cell? ⟨b,off+0*7+6,none⟩=some (.int .i64 x.pk):=hr 6 _ rfl;have hh:W.heap[b]? = some (.cells aX.toArray 58):=hb;have hi:aX.toArray[off+0*7+6]? = none:=by rw[Array.getElem?_eq_none_iff];show 6<=_;omega
   simp[World.cell?,hh,hi]at h6
def afU(b3:Nat)(k:Int)(FV:Value)(ok:Bool)(i:Nat)(v:Value)(d:Nat->Value)(W:World):Prop:=match i with
 |0=>∃b,v=.map (some b)/\MF 3 W b 9 KY
 |1=>v=.pointer (some ⟨b3,0,none⟩)
 |2=>v=.int .i64 k
 |3=>v=.tuple #[FV,.bool ok]
 |4=>v=.tuple #[FV,.bool ok]
 |5=>v=FV
 |6=>v=.bool ok
 |7=>v=FV
 |8=>v=.bool ok
 |_=>True
theorem ZR(b3:Nat)(k:Int)(FV:Value)(ok:Bool)(i:Nat)(v:Value)(d:Nat->Value)(W W':World)(hR:(λW W'=>Below W.heap.size W W') W W')(h:afU b3 k FV ok i v d W):afU b3 k FV ok i v d W':=by
 by_cases h0:i=0
 ·subst h0;obtain⟨b,h1,h2⟩:=h;exact⟨b,h1,h2.below hR⟩
 unfold afU at h ⊢;split at h <;> first|exact h|exact absurd rfl h0
theorem SX{w:World}{p:Nat}{cl:Int}{fin:Bool}{vt:Value}{l:List T.ax}(c4:w.cell? ⟨p,4,none⟩=some (.int .i64 cl))(Bf:w.cell? ⟨p,5,none⟩=some (.bool fin))(c6:w.cell? ⟨p,6,none⟩=some vt)(hr:bQ w vt l)(hl:l.length<=110)(k aj cnt bP pk:Int)(a5:Option Addr)(n5 c5:Nat):
 Calls prog 83 #[.pointer (some ⟨p,0,none⟩),jk k aj cnt bP pk (.slice a5 n5 c5)] w λe w'=>∃a c,e=.returned (jg ⟨0,0,[],cl,fin,l⟩ (.slice none 0 0) (.slice a l.length c))/\bQ w' (.slice a l.length c) l/\Below w.heap.size w w':=by
 obtain⟨wA,hwA⟩:∃w1,w1=(w.alloc (.cells #[.int .i64 k,.int .i64 aj,.int .i64 cnt,.int .i64 bP,.int .i64 pk,.slice a5 n5 c5] 49)).alloc (.cells aX.toArray 58):=⟨_,rfl⟩;obtain⟨b4,hb4⟩:∃b,b=w.heap.size+1:=⟨_,rfl⟩;have hpl:=zc w _ c4;have hA1:=(zB w.heap.size w).alloc (zl _) (.cells #[.int .i64 k,.int .i64 aj,.int .i64 cnt,.int .i64 bP,.int .i64 pk,.slice a5 n5 c5] 49);have hA:=hA1.alloc hA1.size (.cells aX.toArray 58);have hbx:=Bx.new (w.alloc (.cells #[.int .i64 k,.int .i64 aj,.int .i64 cnt,.int .i64 bP,.int .i64 pk,.slice a5 n5 c5] 49)) 58 aX;rw[<-hwA]at hA hbx;rw[Yl,<-hb4]at hbx;have d4:=(hA.cell (p:=⟨p,4,none⟩) hpl).trans c4;have d5:=(hA.cell (p:=⟨p,5,none⟩) hpl).trans Bf;have d6:=(hA.cell (p:=⟨p,6,none⟩) hpl).trans c6;have HC:=zH (Ed cl fin vt l wA (bQ.keep hr hA) hl);obtain⟨av,cv,hvt,_⟩:=dU.form hr;rw[hvt]at d6 HC;have HXW:=zH hbx;have HAA:=zH hA;have HB4:Hid (b4<wA.heap.size/\w.heap.size<=b4):=zH ⟨hbx.lt,by omega⟩;have HWA:Hid ((w.alloc (.cells #[.int .i64 k,.int .i64 aj,.int .i64 cnt,.int .i64 bP,.int .i64 pk,.slice a5 n5 c5] 49)).alloc (.cells #[.int .i64 0,.int .i64 0,.slice none 0 0,.int .i64 0,.bool false,.slice none 0 0] 58)=wA):=zH hwA.symm;have IX:=zH hb4;unfold afw aN at HC;clear hwA hb4 hA1 hA hbx hr c4 Bf c6 hpl;unfold jk;go_enter func83,ntmps83;go_upto_region 1 with (fail)
 rw[HWA.out,<-IX.out];go_wp2_with fail;refine HC.out.mono ?_;rintro e w2 ⟨v',rfl,hown,hb2⟩;obtain⟨a2,c2',rfl⟩:=aS hown;have hx2:=HXW.out.call hb2;have HOW:=zH hown;have HB2:=zH (HAA.out.trans (hb2.mono HAA.out.size));have HFR:Hid (∀k,(Value.slice a2 l.length c2').ownBlock=some k->wA.heap.size<=k):=zH λk hk=>bH hown k hk
 unfold aX at hx2;have t0:=hx2.cell (i:=0) rfl;have t1:=hx2.cell (i:=1) rfl;have t2:=hx2.cell (i:=2) rfl;have t3:=hx2.cell (i:=3) rfl;have t4:=hx2.cell (i:=4) rfl;have t5:=hx2.cell (i:=5) rfl;have tf:=λi=>hx2.free i
 clear hown hb2 hx2 d4 d5 d6;go_wp2_with fail;refine zr (v:=jg ⟨0,0,[],cl,fin,l⟩ (.slice none 0 0) (.slice a2 l.length c2')) (by simp[results,results83,go_sem,jg,t0,t1,t2,t3,t4,t5]) rfl ⟨a2,c2',rfl,?_,zC HB2.out HB4.out.2 _ _ _ _ _ _⟩;exact jZ (bQ.bg HOW.out) λk hk=>rY _ _ k _ _ _ _ _ _ (by have:=HFR.out k hk;have:=HB4.out.1;omega)
theorem ajl{w:World}{p:Nat}{cl:Int}{fin:Bool}{vt:Value}{l:List T.ax}(c4:w.cell? ⟨p,4,none⟩=some (.int .i64 cl))(Bf:w.cell? ⟨p,5,none⟩=some (.bool fin))(c6:w.cell? ⟨p,6,none⟩=some vt)(hr:bQ w vt l)(hl:l.length<=110)(aj cnt bP pk:Int)(a5:Option Addr)(n5 c5:Nat):
 Calls prog 13 #[.pointer (some ⟨p,0,none⟩),jk 7 aj cnt bP pk (.slice a5 n5 c5)] w λe w'=>∃a c,e=.returned (jg ⟨0,0,[],cl,fin,l⟩ (.slice none 0 0) (.slice a l.length c))/\bQ w' (.slice a l.length c) l/\Below w.heap.size w w':=by
 obtain⟨k,hk7⟩:∃k:Int,k=7:=⟨_,rfl⟩;rw[<-hk7];have hk:-9223372036854775808<=k/\k<=9223372036854775807:=by omega
 have hf:KY k=some (.func (.func 83) #[] #[]):=by rw[hk7];rfl
 have hfi:∀args W,(callFunc 83 args).run prog W=.ok (.enter 83 args) W:=λ_ _=>by kernel_rfl
 clear hk7;obtain⟨wA,hwA⟩:∃w1,w1=(w.alloc (.cells #[.int .i64 k,.int .i64 aj,.int .i64 cnt,.int .i64 bP,.int .i64 pk,.slice a5 n5 c5] 49)).alloc (.cells aX.toArray 58):=⟨_,rfl⟩;obtain⟨b3,hb3⟩:∃b,b=w.heap.size:=⟨_,rfl⟩;obtain⟨b4,hb4⟩:∃b,b=w.heap.size+1:=⟨_,rfl⟩;have hA1:=(zB w.heap.size w).alloc (zl _) (.cells #[.int .i64 k,.int .i64 aj,.int .i64 cnt,.int .i64 bP,.int .i64 pk,.slice a5 n5 c5] 49);have hA:=hA1.alloc hA1.size (.cells aX.toArray 58);have ig:Bx ((w.alloc (.cells #[.int .i64 k,.int .i64 aj,.int .i64 cnt,.int .i64 bP,.int .i64 pk,.slice a5 n5 c5] 49)).alloc (.cells aX.toArray 58)) w.heap.size 49 [.int .i64 k,.int .i64 aj,.int .i64 cnt,.int .i64 bP,.int .i64 pk,.slice a5 n5 c5]:=(Bx.new w 49 [.int .i64 k,.int .i64 aj,.int .i64 cnt,.int .i64 bP,.int .i64 pk,.slice a5 n5 c5]).alloc _;have hbx:=Bx.new (w.alloc (.cells #[.int .i64 k,.int .i64 aj,.int .i64 cnt,.int .i64 bP,.int .i64 pk,.slice a5 n5 c5] 49)) 58 aX;rw[<-hwA]at hA hbx ig;rw[Yl,<-hb4]at hbx;rw[<-hb3]at ig;have HTA:=zH hA;have G8:=zH (zc w _ c4);have Aa:=zH hbx;have Zu:=zH ig;have HB4:Hid (b4<wA.heap.size/\w.heap.size<=b4):=zH ⟨hbx.lt,by omega⟩;have HCC:=zH (And.intro c4 (And.intro Bf (And.intro c6 hr)));have HLL:=zH hl;have HWA:Hid ((w.alloc (.cells #[.int .i64 k,.int .i64 aj,.int .i64 cnt,.int .i64 bP,.int .i64 pk,.slice a5 n5 c5] 49)).alloc (.cells #[.int .i64 0,.int .i64 0,.slice none 0 0,.int .i64 0,.bool false,.slice none 0 0] 58)=wA):=zH hwA.symm;have IX:=zH hb4;have RU:=zH hb3;have HKB:=zH hk;have rZ:Hid (∀W,Below wA.heap.size wA W->W.cell? ⟨b3,0,none⟩=some (.int .i64 k)):=zH λW hW=>(Zu.out.call hW).cell (i:=0) rfl
 obtain⟨ZF,hZF⟩:∃z,∀W,(zeroValue 103).run prog W=.ok z W:=⟨Value.nilFunc,λW=>by kernel_rfl⟩;have HZF:=zH hZF;obtain⟨FV,hFV⟩:∃v,v=Value.func (.func 83) #[] #[]:=⟨_,rfl⟩;obtain⟨ok,hok⟩:∃b,b=true:=⟨_,rfl⟩;have HFV:Hid ((KY k).getD ZF=FV):=zH (by rw[hFV,hf];rfl);have aiR:Hid ((KY k).isSome=ok):=zH (by rw[hok,hf];rfl);have HFE:=zH hFV;have HOE:=zH hok;clear hwA hb3 hb4 hA1 hA ig hbx hk hf hZF hFV hok c4 Bf c6 hr hl;unfold jk;go_enter func13,ntmps13;go_upto_region 1 with (fail)
 rw[HWA.out,<-IX.out,<-RU.out];refine fO (by kernel_rfl) (λW W'=>Below W.heap.size W W') (λW=>Below wA.heap.size wA W) (afU b3 k FV ok) (λ_=>false) (by kernel_rfl) (λW W' hR h=>h.trans (hR.mono h.size)) (ZR b3 k FV ok) ((zB _ _).drew) ⟨?s0,?_,?s2,?s3,?_,?_,?_,?_,?_,trivial⟩ ?_;all_goals first
  | (intro a W hc hsz hold ah
     have o3:a.tmps.getD 3 undef=.pointer (some ⟨b3,0,none⟩):=hold 3 (by kernel_rfl);try have d3:=zV 11 (.tuple #[FV,.bool ok]) (ah 3 rfl rfl _ rfl)
     try have d4:=zV 7 (.tuple #[FV,.bool ok]) (ah 4 rfl rfl _ rfl)
     try have d5:=zV 12 FV (ah 5 rfl rfl _ rfl)
     try have d6:=zV 13 (.bool ok) (ah 6 rfl rfl _ rfl)
     clear hsz hold ah;refine ai rfl (ag rfl) ?_;refine ay (zB _ _) rfl λK hK=>?_
     go_simp;exact hK)
  |skip
 try case s0=>
  intro a W hc hsz hold ah;clear hsz hold ah;refine ai rfl (ag rfl) ?_;refine mZ λK hK=>?_
  go_simp;refine(Jb W).mono ?_;rintro e w' ⟨rfl,hm,hb'⟩;exact hK _ _ hb' ⟨_,rfl,hm⟩
 try case s2=>
  intro a W hc hsz hold ah;have d1:=zV 9 (.pointer (some ⟨b3,0,none⟩)) (ah 1 rfl rfl _ rfl);have z0:=rZ.out W hc;clear hsz hold ah;refine ai rfl (ag rfl) ?_;refine ay (v:=.int .i64 k) (zB _ _) rfl λK hK=>?_
  go_simp;exact hK
 try case s3=>
  intro a W hc hsz hold ah;have x0:=ah 0 rfl rfl _ rfl;have d2:=zV 10 (.int .i64 k) (ah 2 rfl rfl _ rfl);clear hsz hold ah;refine ai rfl (ag rfl) ?_;obtain⟨b,hb,hm⟩:=x0;replace hb:a.tmps.getD 8 undef=.map (some b):=hb;have hlk:=(hm.look underlying3 underlying105 (z:=ZF) (HZF.out W) k HKB.out.1 HKB.out.2);rw[HFV.out,aiR.out]at hlk;refine ay (v:=.tuple #[FV,.bool ok]) (zB _ _) rfl λK hK=>?_
  go_simp;exact hK
 ·intro a W hC hd hsz hold hval;have d5:a.tmps.getD 5 undef=FV:=hval 7 _ rfl rfl;have d6:a.tmps.getD 6 undef=.bool ok:=hval 8 _ rfl rfl;obtain⟨G,hG,ha⟩:=dK [5,6,7,8,9,10,11,12,13] (by kernel_rfl) hd hsz hold;simp only[hG]at d5 d6;rw[ha];clear ha hG hd hsz hold;simp only[cZ,Ym,List.set,d5,d6];clear d5 d6;obtain rfl:=HFE.out;obtain rfl:=HOE.out;have hC:Below wA.heap.size wA W:=hC;have hBW:=HTA.out.trans (hC.mono HTA.out.size);have qp:=Zu.out.call hC;have afu:=zH (Aa.out.call hC);have afq:Hid (b4<W.heap.size):=zH (by have:=hC.size;have:=HB4.out.1;omega);have RX:=zH (SX ((hBW.cell (p:=⟨p,4,none⟩) G8.out).trans HCC.out.1) ((hBW.cell (p:=⟨p,5,none⟩) G8.out).trans HCC.out.2.1) ((hBW.cell (p:=⟨p,6,none⟩) G8.out).trans HCC.out.2.2.1) (bQ.keep HCC.out.2.2.2 hBW) HLL.out k aj cnt bP pk a5 n5 c5);have HBW:=zH hBW;have s0:=qp.cell (i:=0) rfl;have s1:=qp.cell (i:=1) rfl;have s2:=qp.cell (i:=2) rfl;have s3:=qp.cell (i:=3) rfl;have s4:=qp.cell (i:=4) rfl;have s5:=qp.cell (i:=5) rfl;unfold jk at RX;clear hval hC qp hBW;go_upto_region 4 with (fail)
  go_wp2_with fail;refine RX.out.mono ?_;rintro e w2 ⟨a8,c8,rfl,hrt,hb2⟩;have hx2:=afu.out.call hb2;have HRT:=zH hrt;have HB2:=zH (HBW.out.trans (hb2.mono HBW.out.size));unfold aX at hx2;have t0:=hx2.cell (i:=0) rfl;have t1:=hx2.cell (i:=1) rfl;have t2:=hx2.cell (i:=2) rfl;have t3:=hx2.cell (i:=3) rfl;have t4:=hx2.cell (i:=4) rfl;have t5:=hx2.cell (i:=5) rfl;have tf:=λi=>hx2.free i
  unfold jg;have HXK:=zH (afu.out.call hb2);obtain⟨g8,hg8⟩:∃P:World->Prop,P=λW'=>bQ W' (.slice a8 l.length c8) l:=⟨_,rfl⟩
  clear hrt hb2 hx2 s0 s1 s2 s3 s4 s5;go_wp2_with fail;refine zr (v:=jg ⟨0,0,[],cl,fin,l⟩ (.slice none 0 0) (.slice a8 l.length c8)) (by simp[results,results13,go_sem,jg,t0,t1,t2,t3,t4,t5]) rfl ⟨a8,c8,rfl,?_,zC HB2.out HB4.out.2 _ _ _ _ _ _⟩;exact aht HRT.out HXK.out λk hk=>rY _ _ k _ _ _ _ _ _ hk
theorem adI{W:World}{b:Nat}{L:List (List UInt8)}(h:Bx W b 9 (L.map λx=>Value.string (str x))):fQ W (.slice (some ⟨b,0,none⟩) L.length L.length) L:=by
 refine⟨some ⟨b,0,none⟩,L.length,b,0,rfl,zl _,λi hi=>⟨rfl,λj u hu=>?_⟩⟩;have hj:j=0:=by have:=(Yr.1 hu).1;simpa[uY]using this
 subst hj;have e:u=.string (str (aJ [] L i)):=by simpa[uY]using hu.symm
 rw[e];have:=h.cell (i:=i) (u:=.string (str (aJ [] L i))) (by simp[aJ,hi]);simpa using this
theorem aU.amF{B:Nat}{t e:TypeId}{m:Nat}{Φ:World->List Value->Prop}{w W:World}(hR:aU B t m Φ w W)(he:e≠t){base sz n:Nat}{v:Value}{xs:List Value}(h:w.ownsRow base e sz v n xs):W.ownsRow base e sz v n xs:=by
 refine⟨h.1,?_⟩;rcases h.2 with h1|⟨g,cap,cur,rfl,hb,hh,rest⟩
 ·exact .inl h1
 ·refine .inr ⟨g,cap,cur,rfl,hb,(hR.2.1 g (Yd.1 hh).1 λcs _ hx=>?_).trans hh,rest⟩;have hx':w.heap[g]? = some (.cells cs.toArray t):=hx;rw[hh]at hx';simp only[YA,Obj.cells.injEq]at hx';exact he hx'.2.1
def TL:List (List UInt8):=[bF 97,bF 98,bF 99,[33],[]]
theorem an1.at{w:World}{a:Option Addr}{n c:Nat}{l:List T.ax}(h:bQ w (.slice a n c) l):∃b off,∀i,i<l.length->a=some ⟨b,off,none⟩/\w.rangeAt b (off+i*7) (kK (T.tr l i)):=by obtain⟨a',c',b,off,hv,hac,hcell⟩:=h;simp only[YT]at hv;obtain⟨rfl,_,_⟩:=hv;exact⟨b,off,hcell⟩
theorem KW{L:List (List UInt8)}(x:List UInt8)(h:x∈L)(hL:∀y∈L,y.length=2048:=by simp[iH]):x.length=2048:=hL x h
theorem Ce.lit{w W:World}{p pm:Nat}{D:PD}{Q:Nat->Prop}(h:Ce w p pm D Q W)(L:List (List UInt8)):
 Ce w p pm D (λb=>Q b\/(W.heap.size<=b/\b<(W.alloc (.cells (L.map λx=>Value.string (str x)).toArray 9)).heap.size)) (W.alloc (.cells (L.map λx=>Value.string (str x)).toArray 9))/\fQ (W.alloc (.cells (L.map λx=>Value.string (str x)).toArray 9)) (.slice (some ⟨W.heap.size,0,none⟩) L.length L.length) L:=
 ⟨h.push ((zB W.heap.size W).alloc (zl _) _),adI (Bx.new W _ _)⟩
def afC(p n0:Nat)(cl:Int)(fin:Bool)(tl:List T.ax)(IM:List (List UInt8))(i:Nat)(v:Value)(d:Nat->Value)(W:World):Prop:=match i with
 |0=>v=.pointer (some ⟨p,0,none⟩)
 |1=>∃g,v=.slice (some ⟨g,0,none⟩) 100 100/\W.ownsRow n0 9 1 v 100 (fH uY IM)
 |2=>v=.pointer (some ⟨p,0,none⟩)
 |3=>v=.agg #[.int .i64 7,.int .i64 0,.int .i64 0,.int .i64 0,.int .i64 0,.slice none 0 0]
 |4=>∃(a:Option Addr)(c:Nat),v=.agg #[.int .i64 0,.int .i64 0,.slice none 0 0,.int .i64 cl,.bool fin,.slice a tl.length c]/\bQ W (.slice a tl.length c) tl
 |5=>∃(a:Option Addr)(c:Nat),v=.agg #[.int .i64 cl,.bool fin,.slice a tl.length c]/\bQ W (.slice a tl.length c) tl
 |6=>∃g,v=.pointer (some ⟨g,0,none⟩)/\n0<=g/\∃cs:List Value,cs.length=3/\Bx W g 37 cs
 |7=>∃g,v=.slice (some ⟨g,0,none⟩) 100 100/\W.ownsRow n0 9 1 v 100 (fH uY IM)
 |8=>∃g,d 6=.pointer (some ⟨g,0,none⟩)/\n0<=g/\∃cs:List Value,cs.length=3/\Bx W g 37 cs/\(λW cs=>∃(a:Option Addr)(c:Nat),cs = [.int .i64 cl,.bool fin,.slice a tl.length c]/\bQ W (.slice a tl.length c) tl) W cs
 |_=>True
theorem Zx(p n0:Nat)(cl:Int)(fin:Bool)(tl:List T.ax)(IM:List (List UInt8))(i:Nat)(v:Value)(d:Nat->Value)(W W':World)(hR:(aU n0 37 3 (λW cs=>∃(a:Option Addr)(c:Nat),cs = [.int .i64 cl,.bool fin,.slice a tl.length c]/\bQ W (.slice a tl.length c) tl)) W W')(h:afC p n0 cl fin tl IM i v d W):afC p n0 cl fin tl IM i v d W':=by
 by_cases h1:i=1
 ·subst h1;obtain⟨g,h1,h2⟩:=h;exact⟨g,h1,aU.amF hR (by decide) h2⟩
 by_cases h4:i=4
 ·subst h4;obtain⟨a,c,h1,h2⟩:=h;exact⟨a,c,h1,hR.kD (by decide) h2⟩
 by_cases h5:i=5
 ·subst h5;obtain⟨a,c,h1,h2⟩:=h;exact⟨a,c,h1,hR.kD (by decide) h2⟩
 by_cases h6:i=6
 ·subst h6;obtain⟨g,h1,h2,h3⟩:=h;exact⟨g,h1,h2,aU.some hR h3⟩
 by_cases h7:i=7
 ·subst h7;obtain⟨g,h1,h2⟩:=h;exact⟨g,h1,aU.amF hR (by decide) h2⟩
 by_cases h8:i=8
 ·subst h8;obtain⟨g,h1,h2,h3⟩:=h;exact⟨g,h1,h2,aU.full hR (λcs h=>(by obtain⟨a,c,h1,h2⟩:=h;exact⟨a,c,h1,hR.kD (by decide) h2⟩)) h3⟩
 unfold afC at h ⊢;split at h <;> first|exact h|exact absurd rfl h1|exact absurd rfl h4|exact absurd rfl h5|exact absurd rfl h6|exact absurd rfl h7|exact absurd rfl h8
def afD(gi gt bt ot c2:Nat)(v5:Value)(i:Nat)(v:Value)(W:World):Prop:=match i with
 |0=>v=.slice (some ⟨gi,0,none⟩) 100 100
 |1=>v=.int .i64 100
 |2=>v=.bool true
 |3=>v=.bool true
 |4=>v=.slice (some ⟨gi,0,none⟩) 100 100
 |5=>v=v5
 |6=>v=.string (str (bF 97))
 |7=>v=.string (str (bF 98))
 |8=>v=.string (str (bF 99))
 |9=>∃b,v=.slice (some ⟨b,0,none⟩) 5 5/\Bx W b 9 (TL.map λx=>Value.string (str x))
 |10=>v=.bool true
 |11=>v=.bool true
 |12=>v=.bool true
 |13=>v=.pointer (some ⟨gt,2,none⟩)
 |14=>v=.slice (some ⟨bt,ot,none⟩) 1 c2
 |15=>v=.int .i64 1
 |16=>v=.bool true
 |17=>v=.bool true
 |18=>v=.bool true
 |19=>v=.pointer (some ⟨gt,2,none⟩)
 |20=>v=.slice (some ⟨bt,ot,none⟩) 1 c2
 |21=>v=.pointer (some ⟨bt,ot,none⟩)
 |22=>v=.pointer (some ⟨bt,ot+4,none⟩)
 |23=>v=.int .i64 4
 |24=>v=.bool true
 |25=>v=.bool true
 |26=>v=.bool true
 |_=>True
theorem Zy(gi gt bt ot c2:Nat)(v5:Value)(i:Nat)(v:Value)(W W':World)(hR:(λW W'=>Below W.heap.size W W') W W')(h:afD gi gt bt ot c2 v5 i v W):afD gi gt bt ot c2 v5 i v W':=by
 by_cases h9:i=9
 ·subst h9;obtain⟨b,h1,h2⟩:=h;exact⟨b,h1,h2.call hR⟩
 unfold afD at h ⊢;split at h <;> first|exact h|exact absurd rfl h9
section
variable {w w0:World} {p pm N:Nat} {D:PD} {vt vc:Value} {E:World->Prop} {EX Xm Rm X0 R0:Nat->Prop}
theorem alv(h:iY w p D pm none vt vc E EX Xm Rm)(hc:Ch X0 R0 (DX p vc EX Xm) (DR vt Rm) w0 w)(ho:kF D N)(hN:N<=4611686018427380000)
 (k aj cnt bP pk:Int)(ik:In64 k)(hK:k=1\/k=2\/k=3\/k=8)(il:In64 aj)(ic:In64 cnt)(a5:Option Addr)(c5:Nat)(L:List (List UInt8))(hL:fQ w (.slice a5 L.length c5) L)(hLx:1<=L.length->∀b,(Value.slice a5 L.length c5).ownBlock=some b->b<w.heap.size/\¬ DX p vc EX Xm b)(hn:L.length<=9223372036854775807)(hz:∀x∈L,x.length<=9223372036854775807):
 Calls prog 13 #[.pointer (some ⟨p,0,none⟩),jk k aj cnt bP pk (.slice a5 L.length c5)] w (RP w0 X0 R0 p pm none E EX (N+65) (nI k aj cnt bP pk L D).1 (nI k aj cnt bP pk L D).2):=by
 have hk:-9223372036854775808<=k/\k<=9223372036854775807:=ik;have hR:=λW=>Ch.refl (w:=W) (X:=DX p vc EX Xm) (R:=DR vt Rm)
 by_cases k1:k=1
 ·subst k1;have e:nI 1 aj cnt bP pk L D=RI aj L (aW D.n D.cl D.fin D.tr aj L.length) D:=by unfold nI;rw[zi (by decide),zj rfl]
  rw[e];refine Lm h hc 1 aj cnt bP pk hk a5 L.length c5 77 (λ_ _=>by kernel_rfl) rfl λW hW hd=>?_
  exact(ah5 hd (hR W) ho.ok hN 1 aj cnt bP pk il a5 c5 L (dB.keep hL hW) (λh1 b hb=>⟨zL (hLx h1 b hb).1 hW.size,(hLx h1 b hb).2⟩) hn hz _ rfl).mono λe w' hf=>(hf.toV (aff _ _ _).1 (aff _ _ _).2).up (by omega)
 by_cases k2:k=2
 ·subst k2;have e:nI 2 aj cnt bP pk L D=(zy D,vO D):=by unfold nI;rw[zi (by decide),zi (by decide),zj rfl]
  rw[e];refine Lm h hc 2 aj cnt bP pk hk a5 L.length c5 78 (λ_ _=>by kernel_rfl) rfl λW hW hd=>?_
  refine(aeZ hd (hR W) ho.ok.kind ho.ok.fit hN 2 aj cnt bP pk a5 L.length c5).mono λe w' hf=>?_
  obtain⟨X2,R2,he,hd2,hc2,ho2⟩:=hf;exact(zW.toV ⟨vt,_,X2,R2,he,hd2,hc2,ho2.mono (by omega)⟩ (LH _ _).1 (LH _ _).2)
 by_cases k3:k=3
 ·subst k3;have e:nI 3 aj cnt bP pk L D=Qv agP (bZ D.n D.cl D.fin D.tr cnt pk) D:=by unfold nI;rw[zi (by decide),zi (by decide),zi (by decide),zj rfl]
  rw[e];refine Lm h hc 3 aj cnt bP pk hk a5 L.length c5 79 (λ_ _=>by kernel_rfl) rfl λW hW hd=>?_
  exact(ajn hd (hR W) ho.ok hN 3 aj cnt bP pk ic a5 L.length c5 agP _ rfl (ag6 ho cnt pk)).mono λe w' hf=>(hf.toV (ad2 _ _).1 (ad2 _ _).2).up (by omega)
 by_cases k8:k=8
 ·subst k8;have e:nI 8 aj cnt bP pk L D=UW cnt D:=by unfold nI;rw[zi (by decide),zi (by decide),zi (by decide),zi (by decide),zi (by decide),zi (by decide),zi (by decide),zi (by decide),zj rfl]
  rw[e];refine Lm h hc 8 aj cnt bP pk hk a5 L.length c5 84 (λ_ _=>by kernel_rfl) rfl λW hW hd=>?_
  by_cases hb:cnt<0
  ·exact(aaM hd (hR W) ho hN 8 aj cnt bP pk ic a5 L.length c5 hb).mono λe w' hf=>hf.toV (Nh _).1 (Nh _).2
  ·exact(aeh hd (hR W) ho hN 8 aj cnt bP pk ic a5 L.length c5 (by omega)).mono λe w' hf=>hf.toV (Nh _).1 (Nh _).2
 exact(by omega:False).elim
end
section
variable {w W W':World} {p pm N:Nat} {D:PD} {Q:Nat->Prop}
theorem VV(h:Ce w p pm D Q W)(ho:kF D N)(hN:N<=4611686018427380000)(k aj cnt bP pk:Int)(ik:In64 k)(hK:k=1\/k=2\/k=3\/k=8)(il:In64 aj)(ic:In64 cnt)(a5:Option Addr)(c5:Nat)(L:List (List UInt8))(hL:fQ W (.slice a5 L.length c5) L)(hLx:∀b,(Value.slice a5 L.length c5).ownBlock=some b->b<W.heap.size/\(Q b\/b<w.heap.size))(hn:L.length<=9223372036854775807)(hz:∀x∈L,x.length<=9223372036854775807):
 Calls prog 13 #[.pointer (some ⟨p,0,none⟩),jk k aj cnt bP pk (.slice a5 L.length c5)] W (DoP w p pm (nI k aj cnt bP pk L D).2 Q (nI k aj cnt bP pk L D).1 W):=by
 obtain⟨⟨vt,vc,X,R,hd,ha⟩,hbl,hq⟩:=h;refine(alv hd (Ch.refl (X:=DX p vc (λ_=>False) X) (R:=DR vt R)) ho hN k aj cnt bP pk ik hK il ic a5 c5 L hL (λh1 b hb=>⟨(hLx b hb).1,λhx=>?_⟩) hn hz).mono λe W' hf=>?_
 ·rcases(hLx b hb).2 with h1|h1
  ·exact(ha b (.inl hx)).2 h1
  ·have:=(ha b (.inl hx)).1;omega
 ·obtain⟨v,vt2,vc2,X2,R2,he,⟨vb,vt3,hv,hrb,hrt,hb1,hb2⟩,hd2,hc2,_⟩:=hf;have hk:∀b,Q b->W'.heap[b]? = W.heap[b]?:=λb hb=>hc2.block b (hq b hb) λhx=>(ha b (.inl hx)).2 hb
  refine⟨⟨vb,vt3,by rw[he,hv],hrb,hrt,λk hk=>(hb2 k hk).1⟩,⟨⟨vt2,vc2,X2,R2,hd2,λb hb=>?_⟩,hbl.trans (OM hc2 hbl.size λb hb=>(ha b (.inl hb)).1),λb hb=>zL (hq b hb) hc2.size⟩,hk,hc2.size⟩;rcases hb with hb|hb
  ·rcases hc2.x b hb with h1|h1
   ·exact ha b (.inl h1)
   ·exact⟨zT hbl.size h1,λh2=>by have:=hq b h2;omega⟩
  ·rcases hc2.r b hb with h1|h1
   ·exact ha b (.inr h1)
   ·exact⟨zT hbl.size h1,λh2=>by have:=hq b h2;omega⟩
theorem DZ{q:Nat}(h:Ce w p pm D Q W)(ho:kF D N)(hN:N<=4611686018427380000)(hq:Q q)(hqc:W.cell? ⟨q,0,none⟩=some (.pointer (some ⟨p,0,none⟩)))(k aj cnt bP pk:Int)(ik:In64 k)(hK:k=1\/k=2\/k=3\/k=8)(il:In64 aj)(ic:In64 cnt)(a5:Option Addr)(c5:Nat)(L:List (List UInt8))(hL:fQ W (.slice a5 L.length c5) L)(hLx:∀b,(Value.slice a5 L.length c5).ownBlock=some b->b<W.heap.size/\(Q b\/b<w.heap.size))(hn:L.length<=9223372036854775807)(hz:∀x∈L,x.length<=9223372036854775807){D2:PD}(hd:(nI k aj cnt bP pk L D).1=Rp.ok)(hd2:(nI k aj cnt bP pk L D).2=D2):
 Calls prog 28 #[jk k aj cnt bP pk (.slice a5 L.length c5),.pointer (some ⟨q,0,none⟩)] W λe W'=>e=.returned (.bool true)/\Ce w p pm D2 Q W'/\(∀b,Q b->W'.heap[b]? = W.heap[b]?)/\W.heap.size<=W'.heap.size:=by
 obtain⟨w1,hw1⟩:∃w1,w1=W.alloc (.cells #[.int .i64 k,.int .i64 aj,.int .i64 cnt,.int .i64 bP,.int .i64 pk,.slice a5 L.length c5] 49):=⟨_,rfl⟩;obtain⟨b2,hb2⟩:∃b,b=W.heap.size:=⟨_,rfl⟩;have hA:=(zB W.heap.size W).alloc (zl _) (.cells #[.int .i64 k,.int .i64 aj,.int .i64 cnt,.int .i64 bP,.int .i64 pk,.slice a5 L.length c5] 49);have hbx:=Bx.new W 49 [.int .i64 k,.int .i64 aj,.int .i64 cnt,.int .i64 bP,.int .i64 pk,.slice a5 L.length c5];rw[<-hw1]at hA hbx;rw[<-hb2]at hbx;have HD:=zH (VV (h.below hA) ho hN k aj cnt bP pk ik hK il ic a5 c5 L (dB.keep hL hA) (λb hb=>⟨zL (hLx b hb).1 hA.size,(hLx b hb).2⟩) hn hz);rw[hd,hd2]at HD;have s0:=hbx.cell (i:=0) rfl;have s1:=hbx.cell (i:=1) rfl;have s2:=hbx.cell (i:=2) rfl;have s3:=hbx.cell (i:=3) rfl;have s4:=hbx.cell (i:=4) rfl;have s5:=hbx.cell (i:=5) rfl;have q1:=(hA.cell (p:=⟨q,0,none⟩) (h.q q hq)).trans hqc;have HQ:=zH h.q;have HA:=zH hA;have HW1:Hid (W.alloc (.cells #[.int .i64 k,.int .i64 aj,.int .i64 cnt,.int .i64 bP,.int .i64 pk,.slice a5 L.length c5] 49)=w1):=zH hw1.symm;have HB2:=zH hb2;unfold jk at HD ⊢;clear h hK hbx hw1 hb2 hA hL hLx hz hqc hd hd2 ho;go_enter func28,ntmps28;go_upto_region 1 with (fail)
 rw[HW1.out,<-HB2.out];go_wp2_with fail;refine HD.out.mono ?_;rintro e w2 ⟨⟨vb,vt,rfl,hrb,hrt,_⟩,hd2,hk,hs⟩;obtain⟨ab,cb,rfl,_⟩:=dB.form hrb;obtain⟨at_,ct,rfl,_⟩:=dU.form hrt;have HR:=zH (show Ce w p pm D2 Q w2/\(∀b,Q b->w2.heap[b]? = W.heap[b]?)/\W.heap.size<=w2.heap.size from⟨hd2,λb hb=>(hk b hb).trans (HA.out.block b (HQ.out b hb)),zT HA.out.size hs⟩);unfold jg Rp.ok Rp.sense;dsimp only[YC];have hfd:=λW=>JP 0 0 0 false ab at_ 0 cb 0 ct W
 clear hd2 hk hs hrb hrt s0 s1 s2 s3 s4 s5 q1;go_wp2_with fail;go_ret;exact⟨rfl,HR.out⟩
end
theorem D5(w:World):Calls prog 9 #[] w λe w'=>e=.returned (.bool true)/\Below w.heap.size w w':=by
 have HN:Hid (Calls prog 16 #[.int .i64 1,.int .i64 100,.int .i64 0,.int .i64 1] w (afv 100 w)):=zH (ajk 100 (by decide) (by decide) w);obtain⟨s0,s1,s2,s3,s5,s6,hAW⟩:=aja;have Cf:=zH hAW;have hE0:=hAW.e0;clear hAW;go_enter func9,ntmps9;go_upto_region 2 with (go_at_call 16;refine HN.out.mono ?_;rintro e w1 hNew;obtain⟨p,pm,rfl,hd⟩:=hNew.dra)
 obtain⟨q,hq⟩:∃q,q=w1.heap.size:=⟨_,rfl⟩;obtain⟨w2,hw2⟩:∃w2,w2=w1.alloc (.cells #[.pointer (some ⟨p,0,none⟩)] 25):=⟨_,rfl⟩;have hal:=(zB w1.heap.size w1).alloc (zl _) (.cells #[.pointer (some ⟨p,0,none⟩)] 25);have hbq:=Bx.new w1 25 [.pointer (some ⟨p,0,none⟩)];rw[<-hw2]at hal hbq;rw[<-hq]at hbq;rw[<-hE0]at hd;have anm:=zH ((hd.push hal).sub (Q2:=λb=>b=q) (λb hb=>.inr ⟨by rw[hb,hq];exact zl _,by rw[hb];exact hbq.lt⟩));have anb:=zH hbq;have akF:=anb;have HQW:Hid (w.heap.size<=q):=zH (by rw[hq];exact hd.bl.size);have HW2:=zH hw2.symm;have HQE:=zH hq;have HO1:=zH (DZ anm.out Cf.out.o0 (by decide) rfl (akF.out.cell (i:=0) rfl) 3 0 50 0 0 (by unfold In64;decide) (by decide) (by unfold In64;decide) (by unfold In64;decide) none 0 [] (dB.nil _) (λb hb=>by cases hb) (by decide) (λx hx=>by cases hx) (Yp Prod.fst Cf.out.r1) (Yp Prod.snd Cf.out.r1));unfold jk at HO1;clear hw2 hq hal hbq hd hE0;go_upto_region 5 with (fail)
 rw[HW2.out,<-HQE.out];go_wp2_with fail;refine HO1.out.mono ?_;rintro e w3 ⟨rfl,hd,hk,hs⟩;have ann:=zH (hd.sub (Q2:=λb=>b=q) (λb hb=>hb));have anc:=zH (show Bx w3 q 25 [.pointer (some ⟨p,0,none⟩)] from(hk q rfl).trans akF.out);clear hd hk hs;go_wp2_with fail;refine(oK 97 w3).mono ?_;rintro e aoS ⟨rfl,hb⟩;have aiL:=zH (ann.out.below hb);have aiH:=zH (anc.out.call hb);clear hb;go_wp2_with fail;refine(oK 98 aoS).mono ?_;rintro e Ro ⟨rfl,hb⟩;have aiM:=zH (aiL.out.below hb);have aiI:=zH (aiH.out.call hb);clear hb;obtain⟨hx,hr⟩:=aiM.out.lit [bF 97,bF 98];have HL2:Hid (fQ (Ro.alloc (.cells #[.string (str (bF 97)),.string (str (bF 98))] 9)) (.slice (some ⟨Ro.heap.size,0,none⟩) 2 2) [bF 97,bF 98]):=zH hr;have CX:Hid (Ce w p pm _ (λb=>b=q\/(Ro.heap.size<=b/\b<(Ro.alloc (.cells #[.string (str (bF 97)),.string (str (bF 98))] 9)).heap.size)) (Ro.alloc (.cells #[.string (str (bF 97)),.string (str (bF 98))] 9))):=zH hx;have akG:=zH (aiI.out.call ((zB Ro.heap.size Ro).alloc (zl _) (.cells #[.string (str (bF 97)),.string (str (bF 98))] 9)));clear hx hr;have HO2:=zH (DZ CX.out Cf.out.o1 (by decide) (.inl rfl) (akG.out.cell (i:=0) rfl) 1 0 0 0 0 (by unfold In64;decide) (by decide) (by unfold In64;decide) (by unfold In64;decide) (some ⟨Ro.heap.size,0,none⟩) 2 [bF 97,bF 98] HL2.out (λb hb=>by obtain rfl:=zs hb;exact⟨by simp,.inl (.inr ⟨zl _,by simp⟩)⟩) (by simp) (λx hx=>zT (YF (KW x hx)) (by decide)) (Yp Prod.fst Cf.out.r2) (Yp Prod.snd Cf.out.r2));unfold jk at HO2;go_wp2_with fail;refine HO2.out.mono ?_;rintro e w4 ⟨rfl,hd,hk,hs⟩;have ano:=zH (hd.sub (Q2:=λb=>b=q) (λb hb=>.inl hb));have ane:=zH (show Bx w4 q 25 [.pointer (some ⟨p,0,none⟩)] from(hk q (.inl rfl)).trans akG.out);clear hd hk hs;have akH:=ane;have HO3:=zH (DZ ano.out Cf.out.o2 (by decide) rfl (akH.out.cell (i:=0) rfl) 2 0 0 0 0 (by unfold In64;decide) (by decide) (by unfold In64;decide) (by unfold In64;decide) none 0 [] (dB.nil _) (λb hb=>by cases hb) (by decide) (λx hx=>by cases hx) (Yp Prod.fst Cf.out.r3) (Yp Prod.snd Cf.out.r3));unfold jk at HO3;go_wp2_with fail;refine HO3.out.mono ?_;rintro e w5 ⟨rfl,hd,hk,hs⟩;have anp:=zH (hd.sub (Q2:=λb=>b=q) (λb hb=>hb));have akM:=zH (show Bx w5 q 25 [.pointer (some ⟨p,0,none⟩)] from(hk q rfl).trans akH.out);clear hd hk hs;go_upto_region 7 with (fail)
 have hdr:=(zB w5.heap.size w5).drew;have anl:=zH (anp.out.below hdr);have akL:=zH (akM.out.call hdr);have qd:=akL.out.cell (i:=0) rfl;have qw:=akM.out.cell (i:=0) rfl;clear hdr
 go_cut [43] from 36 to 42 (λv43 wx=>v43=.bool false/\Hid (Ce w p pm s3 (λb=>b=q) wx)/\Hid (Bx wx q 25 [.pointer (some ⟨p,0,none⟩)]))
 case first=>
  go_region_with (first
   | (go_at_call 29
      refine(oK 99 w5.drew).mono ?_;rintro e wb ⟨rfl,hb⟩;have HDb:=zH (anl.out.below hb);have HBb:=zH (akL.out.call hb);have qb:=HBb.out.cell (i:=0) rfl;have ql:=HBb.out.lt;obtain⟨hx,hr⟩:=HDb.out.lit [bF 99];have HDO:=zH (VV hx Cf.out.o3 (by decide) 1 1 0 0 0 (by unfold In64;decide) (by decide) (by unfold In64;decide) (by unfold In64;decide) (some ⟨wb.heap.size,0,none⟩) 1 [bF 99] hr (λb hb=>by obtain rfl:=zs hb;exact⟨by simp,.inl (.inr ⟨zl _,by simp⟩)⟩) (by simp) (λx hx=>zT (YF (KW x hx)) (by decide)));rw[Cf.out.r4]at HDO;have HBl:=zH (HBb.out.call ((zB wb.heap.size wb).alloc (zl _) (.cells ([bF 99].map λx=>Value.string (str x)).toArray 9)));unfold jk at HDO;clear hb hx hr)
   | (go_at_call 13
      refine HDO.out.mono ?_;rintro e wd ⟨⟨vb,vt,rfl,hrb,hrt,_⟩,hd,hk,hs⟩;obtain⟨ab,cb,rfl,_⟩:=dB.form hrb;obtain⟨at_,ct,rfl,_⟩:=dU.form hrt;have HDe:=zH (hd.sub (Q2:=λb=>b=q) (λb hb=>.inl hb));have HBe:=zH (show Bx wd q 25 [.pointer (some ⟨p,0,none⟩)] from(hk q (.inl rfl)).trans HBl.out);unfold jg Rp.sense;dsimp only[YC];have hfd:=λW=>JP 6 1 0 false ab at_ 0 cb 0 ct W
      clear hd hk hs hrb hrt)
   |fail)
  all_goals
   go_wp2_with fail;go_meet;exact⟨rfl,HDe,HBe⟩
 case rest=>
  obtain⟨rfl,anr,ang⟩:=hcut;go_upto_region 9 with (fail)
  go_wp2_with fail;refine(oK 99 wc).mono ?_;rintro e aoT ⟨rfl,hb⟩;have aiN:=zH (anr.out.below hb);have aiJ:=zH (ang.out.call hb);clear hb;go_wp2_with fail;refine(oK 100 aoT).mono ?_;rintro e Rt ⟨rfl,hb⟩;have aiO:=zH (aiN.out.below hb);have aiK:=zH (aiJ.out.call hb);clear hb;obtain⟨hx,hr⟩:=aiO.out.lit [bF 99,bF 100];have HL4:Hid (fQ (Rt.alloc (.cells #[.string (str (bF 99)),.string (str (bF 100))] 9)) (.slice (some ⟨Rt.heap.size,0,none⟩) 2 2) [bF 99,bF 100]):=zH hr;have Aa:Hid (Ce w p pm _ (λb=>b=q\/(Rt.heap.size<=b/\b<(Rt.alloc (.cells #[.string (str (bF 99)),.string (str (bF 100))] 9)).heap.size)) (Rt.alloc (.cells #[.string (str (bF 99)),.string (str (bF 100))] 9))):=zH hx;have akI:=zH (aiK.out.call ((zB Rt.heap.size Rt).alloc (zl _) (.cells #[.string (str (bF 99)),.string (str (bF 100))] 9)));clear hx hr;have HO4:=zH (DZ Aa.out Cf.out.o3 (by decide) (.inl rfl) (akI.out.cell (i:=0) rfl) 1 2 0 0 0 (by unfold In64;decide) (by decide) (by unfold In64;decide) (by unfold In64;decide) (some ⟨Rt.heap.size,0,none⟩) 2 [bF 99,bF 100] HL4.out (λb hb=>by obtain rfl:=zs hb;exact⟨by simp,.inl (.inr ⟨zl _,by simp⟩)⟩) (by simp) (λx hx=>zT (YF (KW x hx)) (by decide)) (Yp Prod.fst Cf.out.r5) (Yp Prod.snd Cf.out.r5));unfold jk at HO4;go_wp2_with fail;refine HO4.out.mono ?_;rintro e w7 ⟨rfl,hd,hk,hs⟩;have anq:=zH (hd.sub (Q2:=λb=>b=q) (λb hb=>.inl hb));have anf:=zH (show Bx w7 q 25 [.pointer (some ⟨p,0,none⟩)] from(hk q (.inl rfl)).trans akI.out);clear hd hk hs;have akJ:=anf;have HO5:=zH (DZ anq.out Cf.out.o5 (by decide) rfl (akJ.out.cell (i:=0) rfl) 8 0 1 0 0 (by unfold In64;decide) (by decide) (by unfold In64;decide) (by unfold In64;decide) none 0 [] (dB.nil _) (λb hb=>by cases hb) (by decide) (λx hx=>by cases hx) (Yp Prod.fst Cf.out.r6) (Yp Prod.snd Cf.out.r6));unfold jk at HO5;go_wp2_with fail;refine HO5.out.mono ?_;rintro e w8 ⟨rfl,hd,hk,hs⟩;have akS:=zH (hd.sub (Q2:=λb=>b=q) (λb hb=>hb));have akN:=zH (show Bx w8 q 25 [.pointer (some ⟨p,0,none⟩)] from(hk q rfl).trans akJ.out);clear hd hk hs;go_upto_region 11 with (fail)
  obtain⟨⟨vt8,vc8,X8,R8,hd8,_⟩,alM,_⟩:=akS.out;have hcs:=hd8.cells;obtain⟨n0,hn0⟩:∃n,n=w8.heap.size:=⟨_,rfl⟩;have xx:=zH hn0;have akE:=zH alM;have HIM:Hid (∀W,Below n0 w8 W->Calls prog 12 #[.pointer (some ⟨p,0,none⟩)] W λe w'=>∃g,e=.returned (.slice (some ⟨g,0,none⟩) 100 100)/\w'.ownsRow W.heap.size 9 1 (.slice (some ⟨g,0,none⟩) 100 100) 100 (fH uY (Ai (Jq s6.M) 100))/\Below W.heap.size W w'):=zH λW hW=>by have:=ZV (akS.out.below (by rw[hn0]at hW;exact hW)) Cf.out.o6;rw[Cf.out.n]at this;exact this
  obtain⟨tl,htl⟩:∃l,l = [ta2]:=⟨_,rfl⟩;have HTL:=zH htl;obtain⟨cl,hcl⟩:∃c,c=s6.cl:=⟨_,rfl⟩;obtain⟨fin,hfin⟩:∃c,c=s6.fin:=⟨_,rfl⟩;have HTC:Hid (∀W,Below n0 w8 W->Calls prog 13 #[.pointer (some ⟨p,0,none⟩),jk 7 0 0 0 0 (.slice none 0 0)] W λe w'=>∃a c,e=.returned (jg ⟨0,0,[],cl,fin,tl⟩ (.slice none 0 0) (.slice a tl.length c))/\bQ w' (.slice a tl.length c) tl/\Below W.heap.size W w'):=zH λW hW=>by
   have hW':Below w8.heap.size w8 W:=by rw[hn0]at hW;exact hW
   have htr:bQ w8 vt8 tl:=by rw[htl,<-Cf.out.tr];exact hd8.tr
   rw[hcl,hfin];exact ajl ((hW'.cell (p:=⟨p,4,none⟩) hd8.box.lt).trans hcs.2.2.2.2.1) ((hW'.cell (p:=⟨p,5,none⟩) hd8.box.lt).trans hcs.2.2.2.2.2.1) ((hW'.cell (p:=⟨p,6,none⟩) hd8.box.lt).trans hcs.2.2.2.2.2.2.1) (bQ.keep htr hW') (by rw[htl];decide) 0 0 0 0 none 0 0
  have hqc:=akN.out.cell (i:=0) rfl;have hql:=akN.out.lt;have rZ:Hid (∀W,Below n0 w8 W->W.cell? ⟨q,0,none⟩=some (.pointer (some ⟨p,0,none⟩))):=zH λW hW=>(hW.cell (p:=⟨q,0,none⟩) (by rw[hn0];exact hql)).trans hqc
  obtain⟨IM,hIM⟩:∃l,l=Ai (Jq s6.M) 100:=⟨_,rfl⟩;rw[<-hIM]at HIM;have HIE:=zH hIM;unfold jk jg at HTC;clear hd8 alM hcs hn0 htl hcl hfin hqc hql hIM;refine fO (by kernel_rfl) (aU n0 37 3 (λW cs=>∃(a:Option Addr)(c:Nat),cs = [.int .i64 cl,.bool fin,.slice a tl.length c]/\bQ W (.slice a tl.length c) tl)) (λW=>Below n0 w8 W) (afC p n0 cl fin tl IM) (λ_=>false) (by kernel_rfl) (λW W' hR h=>h.trans hR.1) (Zx p n0 cl fin tl IM) ((zB _ _).drew) ⟨?s0,?s1,?s2,?s3,?s4,?s5,?s6,?s7,?s8,trivial⟩ ?_;all_goals first
   | (intro a W hc hsz hold ah
      clear hsz hold ah;refine ai rfl (ag rfl) ?_;refine ay aU.refl rfl λK hK=>?_
      go_simp;exact hK)
   |skip
  try case s0=>
   intro a W hc hsz hold ah;have o1:a.tmps.getD 1 undef=.pointer (some ⟨q,0,none⟩):=hold 1 (by kernel_rfl);have z0:=rZ.out W hc;clear hsz hold ah;refine ai rfl (ag rfl) ?_;refine ay (v:=.pointer (some ⟨p,0,none⟩)) aU.refl rfl λK hK=>?_
   go_simp;exact hK
  try case s1=>
   intro a W hc hsz hold ah;have d0:=zV 57 (.pointer (some ⟨p,0,none⟩)) (ah 0 rfl rfl _ rfl);have e0:=zq d0;clear hsz hold ah;refine ai rfl (ag rfl) ?_;refine mZ λK hK=>?_
   go_simp;refine(HIM.out W hc).mono ?_;rintro e w' ⟨g,rfl,ho,hb'⟩;exact hK _ _ (aU.call (by rw[xx.out];exact hc.size) hb') ⟨g,rfl,iQ ho (by rw[xx.out];exact hc.size)⟩
  try case s2=>
   intro a W hc hsz hold ah;have o1:a.tmps.getD 1 undef=.pointer (some ⟨q,0,none⟩):=hold 1 (by kernel_rfl);have z0:=rZ.out W hc;clear hsz hold ah;refine ai rfl (ag rfl) ?_;refine ay (v:=.pointer (some ⟨p,0,none⟩)) aU.refl rfl λK hK=>?_
   go_simp;exact hK
  try case s3=>
   intro a W hc hsz hold ah;clear hsz hold ah;refine ai rfl (ag rfl) ?_;refine ay (v:=.agg #[.int .i64 7,.int .i64 0,.int .i64 0,.int .i64 0,.int .i64 0,.slice none 0 0]) aU.refl rfl λK hK=>?_
   go_simp;exact hK
  try case s4=>
   intro a W hc hsz hold ah;have d2:=zV 59 (.pointer (some ⟨p,0,none⟩)) (ah 2 rfl rfl _ rfl);have e2:=zq d2;have d3:=zV 60 (.agg #[.int .i64 7,.int .i64 0,.int .i64 0,.int .i64 0,.int .i64 0,.slice none 0 0]) (ah 3 rfl rfl _ rfl);have e3:=zq d3;clear hsz hold ah;refine ai rfl (ag rfl) ?_;refine mZ λK hK=>?_
   go_simp;refine(HTC.out W hc).mono ?_;rintro e w' ⟨a,c,rfl,hr,hb'⟩;exact hK _ _ (aU.call (by rw[xx.out];exact hc.size) hb') ⟨a,c,rfl,hr⟩
  try case s5=>
   intro a W hc hsz hold ah;have x4:=ah 4 rfl rfl _ rfl;clear hsz hold ah;refine ai rfl (ag rfl) ?_;obtain⟨a2,c2,hv,hF⟩:=x4;replace hv:a.tmps.getD 61 undef=.agg #[.int .i64 0,.int .i64 0,.slice none 0 0,.int .i64 cl,.bool fin,.slice a2 tl.length c2]:=hv;have hfd:=λW=>ahw 0 0 cl fin none a2 0 0 tl.length c2 W
   refine ay (v:=.agg #[.int .i64 cl,.bool fin,.slice a2 tl.length c2]) aU.refl ⟨a2,c2,rfl,hF⟩ λK hK=>?_
   go_simp;exact hK
  try case s6=>
   intro a W hc hsz hold ah;clear hsz hold ah;refine ai rfl (ag rfl) ?_;refine dA (v:=.pointer (some ⟨W.heap.size,0,none⟩)) (aU.alloc (by rw[xx.out];exact hc.size) (.cells #[.int .i64 0,.bool false,.slice none 0 0] 37)) ⟨W.heap.size,rfl,(by rw[xx.out];exact hc.size),[.int .i64 0,.bool false,.slice none 0 0],rfl,Bx.new _ _ _⟩ λK hK=>?_
   go_simp;exact hK
  try case s7=>
   intro a W hc hsz hold ah;have x1:=ah 1 rfl rfl _ rfl;clear hsz hold ah;refine ai rfl (ag rfl) ?_;obtain⟨g,hv,hF⟩:=x1;replace hv:a.tmps.getD 58 undef=.slice (some ⟨g,0,none⟩) 100 100:=hv;replace hF:W.ownsRow n0 9 1 (a.tmps.getD 58 undef) 100 (fH uY IM):=hF;rw[hv]at hF;refine ay (v:=.slice (some ⟨g,0,none⟩) 100 100) aU.refl ⟨g,rfl,hF⟩ λK hK=>?_
   go_simp;exact hK
  try case s8=>
   intro a W hc hsz hold ah;have x6:=ah 6 rfl rfl _ rfl;have x5:=ah 5 rfl rfl _ rfl;clear hsz hold ah;refine ai rfl (ag rfl) ?_;obtain⟨g,hg,hgB,cs,hl,hB⟩:=x6;replace hg:a.tmps.getD 5 undef=.pointer (some ⟨g,0,none⟩):=hg;have hlt:=hB.lt;have hf:=hB.free;have z0:∃v,W.cell? ⟨g,0,none⟩=some v:=⟨_,hB.cell (Ye (by rw[hl];decide))⟩;obtain⟨u0,z0⟩:=z0;have z1:∃v,W.cell? ⟨g,1,none⟩=some v:=⟨_,hB.cell (Ye (by rw[hl];decide))⟩;obtain⟨u1,z1⟩:=z1;have z2:∃v,W.cell? ⟨g,2,none⟩=some v:=⟨_,hB.cell (Ye (by rw[hl];decide))⟩;obtain⟨u2,z2⟩:=z2;obtain⟨a2,c2,hv,hF⟩:=x5;replace hv:a.tmps.getD 62 undef=.agg #[.int .i64 cl,.bool fin,.slice a2 tl.length c2]:=hv;have hP:=(⟨a2,c2,rfl,aU.kD (aU.store (Φ:=λ_ _=>True) (t:=37) (B:=n0) (m:=3) (cs0:=[.int .i64 cl,.bool fin,.slice a2 tl.length c2]) hgB rfl ⟨cs,hl,hB⟩ trivial) (by decide) hF⟩:∃(a:Option Addr)(c:Nat),([.int .i64 cl,.bool fin,.slice a2 tl.length c2]:List Value) = [.int .i64 cl,.bool fin,.slice a tl.length c]/\bQ (bK W g 0 [.int .i64 cl,.bool fin,.slice a2 tl.length c2]) (.slice a tl.length c) tl);refine dA (v:=undef) (aU.store (cs0:=[.int .i64 cl,.bool fin,.slice a2 tl.length c2]) hgB rfl ⟨cs,hl,hB⟩ hP) ⟨g,hg,hgB,[.int .i64 cl,.bool fin,.slice a2 tl.length c2],rfl,hB.full hl,hP⟩ λK hK=>?_
   clear hB hl;go_simp;exact hK
  ·intro a W hC hd hsz hold hval;obtain⟨gi,hgi,hIO⟩:=hval 7 _ rfl rfl;replace hgi:a.tmps.getD 4 undef=.slice (some ⟨gi,0,none⟩) 100 100:=hgi;have d4:a.tmps.getD 4 undef=.slice (some ⟨gi,0,none⟩) 100 100:=hgi;have alE:W.ownsRow n0 9 1 (.slice (some ⟨gi,0,none⟩) 100 100) 100 (fH uY IM):=by rw[<-hgi];exact hIO
   obtain⟨gt,hgt,hgB,cs,hcl,hcx,a2,c2,hcs,hF⟩:=hval 8 _ rfl rfl;have d5:a.tmps.getD 5 undef=.pointer (some ⟨gt,0,none⟩):=hgt;clear hgi hgt hIO;subst hcs;obtain⟨G,hG,ha⟩:=dK [4,5,57,58,59,60,61,62] (by kernel_rfl) hd hsz hold;simp only[hG]at d4 d5;rw[ha];clear ha hG hd hsz hold;simp only[cZ,Ym,List.set,d4,d5];clear d4 d5;have hC:Below n0 w8 W:=hC;obtain rfl:=HTL.out;obtain⟨wz,rfl⟩:∃v,v=W:=⟨_,rfl⟩;obtain⟨bt,ot,kt⟩:=an1.at hF;obtain⟨ha2,hrt⟩:=kt 0 (by decide);subst ha2;have hix0:=λw'=>aB (P:=prog) underlying35 sizeTrack (a:=some ⟨bt,ot,none⟩) (n:=1) (cap:=c2) (k:=0) (b:=bt) (off:=ot) rfl (by decide) 0 rfl w'
   have HIX:Hid (∀W',(Instr.indexAt 35 (.slice (some ⟨bt,ot,none⟩) 1 c2) (.int .i64 0)).run prog W'=.ok (.pointer (some ⟨bt,ot,none⟩)) W'):=zH λW'=>(hix0 W').trans (by simp)
   have ht4:wz.cell? ⟨bt,ot+4,none⟩=some (.int .i64 4):=hrt 4 _ rfl;have hg2:=hcx.cell (i:=2) rfl;have rZ:Hid (∀W,Below wz.heap.size wz W->W.cell? ⟨gt,2,none⟩=some (.slice (some ⟨bt,ot,none⟩) 1 c2)/\W.cell? ⟨bt,ot+4,none⟩=some (.int .i64 4)):=zH λW hW=>⟨(hW.cell (p:=⟨gt,2,none⟩) hcx.lt).trans hg2,(hW.cell (p:=⟨bt,ot+4,none⟩) (zc wz _ ht4)).trans ht4⟩
   have hlI:IM.length=100:=by rw[HIE.out,PW]
   obtain⟨v5,h5,e5⟩:=ae0 (P:=prog) underlying46 (by kernel_rfl:(prog.info? 9).map (·.size)=some 1) (dB.bg (d:=[]) (l:=IM) jb (by rw[hlI];exact alE)) 5 (by rw[hlI];decide);have KE:Hid (∀W',(Instr.slice 46 (.slice (some ⟨gi,0,none⟩) 100 100) none (some (.int .i64 5)) none).run prog W'=.ok v5 W'):=zH λW'=>e5 5 W' rfl
   have h5':fQ wz v5 TL:=dU.congr h5 λi hi=>by
    have hi:i<5:=hi;have:aJ [] TL i=aJ [] IM i:=by
     rw[HIE.out];have hi':i<100:=by omega
     have e1:aJ [] (Ai (Jq s6.M) 100) i=Jq s6.M i:=by simp[Ai,aJ,hi']
     rw[e1,Cf.out.im i hi']
     match i,hi with
     |0,_=>rfl
     |1,_=>rfl
     |2,_=>rfl
     |3,_=>rfl
     |4,_=>rfl
    show uY (aJ [] TL i)=uY (aJ [] IM i);rw[this]
   have HST:Hid (∀W b,Below wz.heap.size wz W->Bx W b 9 (TL.map λx=>Value.string (str x))->Calls prog 14 #[v5,.slice (some ⟨b,0,none⟩) 5 5] W λe w'=>e=.returned (.bool true)/\Below W.heap.size W w'):=zH λW b hW hB=>zx v5 (.slice (some ⟨b,0,none⟩) 5 5) TL W (dB.keep h5' hW) (adI hB) (by decide)
   have KD:=zH (akE.out.trans ((by rw[xx.out]at hC;exact hC:Below w8.heap.size w8 wz).mono akE.out.size));clear kt hrt hix0 ht4 hg2 hlI h5 e5 h5' hC alE hF hcl hcx hval;go_upto_region 12 with (fail)
   refine fP (by kernel_rfl) (λW W'=>Below W.heap.size W W') (λW=>Below wz.heap.size wz W) (afD gi gt bt ot c2 v5) (λ_=>false) (by kernel_rfl) (λW W' hR h=>h.trans (hR.mono h.size)) (Zy gi gt bt ot c2 v5) ((zB _ _).drew) ⟨?_,?s1,?_,?_,?s4,?s5,?s6,?s7,?s8,?s9,?s10,?_,?_,?s13,?s14,?s15,?s16,?_,?_,?s19,?s20,?s21,?s22,?s23,?s24,?_,?_,trivial⟩ ?_;all_goals first
    | (intro a W hc hsz hold ah
       have o4:a.tmps.getD 4 undef=.slice (some ⟨gi,0,none⟩) 100 100:=hold 4 (by kernel_rfl);try have d1:=zV 64 (.int .i64 100) (ah 1 rfl rfl _ rfl)
       try have d2:=zV 65 (.bool true) (ah 2 rfl rfl _ rfl)
       try have d3:=zV 66 (.bool true) (ah 3 rfl rfl _ rfl)
       try have d10:=zV 73 (.bool true) (ah 10 rfl rfl _ rfl)
       try have d11:=zV 74 (.bool true) (ah 11 rfl rfl _ rfl)
       try have d12:=zV 75 (.bool true) (ah 12 rfl rfl _ rfl)
       try have d16:=zV 79 (.bool true) (ah 16 rfl rfl _ rfl)
       try have d17:=zV 80 (.bool true) (ah 17 rfl rfl _ rfl)
       try have d18:=zV 81 (.bool true) (ah 18 rfl rfl _ rfl)
       try have d24:=zV 87 (.bool true) (ah 24 rfl rfl _ rfl)
       try have d25:=zV 88 (.bool true) (ah 25 rfl rfl _ rfl)
       clear hsz hold ah;refine ai rfl (ag rfl) ?_;refine ak (zB _ _) rfl λK hK=>?_
       go_simp;exact hK)
    |skip
   try case s1=>
    intro a W hc hsz hold ah;have d0:=zV 63 (.slice (some ⟨gi,0,none⟩) 100 100) (ah 0 rfl rfl _ rfl);have e0:=zq d0;clear hsz hold ah;refine ai rfl (ag rfl) ?_;refine ak (v:=.int .i64 100) (zB _ _) rfl λK hK=>?_
    go_simp;exact hK
   try case s4=>
    intro a W hc hsz hold ah;have o4:a.tmps.getD 4 undef=.slice (some ⟨gi,0,none⟩) 100 100:=hold 4 (by kernel_rfl);have g4:=zV 66 (.bool true) (ah 3 rfl rfl _ rfl);clear hsz hold ah;refine ai rfl ((aP (want:=true) rfl rfl g4).trans rfl) ?_;clear g4;refine ak (v:=.slice (some ⟨gi,0,none⟩) 100 100) (zB _ _) rfl λK hK=>?_
    go_simp;exact hK
   try case s5=>
    intro a W hc hsz hold ah;have d4:=zV 67 (.slice (some ⟨gi,0,none⟩) 100 100) (ah 4 rfl rfl _ rfl);have g5:=zV 66 (.bool true) (ah 3 rfl rfl _ rfl);have hs5:=KE.out;clear hsz hold ah;refine ai rfl ((aP (want:=true) rfl rfl g5).trans rfl) ?_;clear g5;refine ak (v:=v5) (zB _ _) rfl λK hK=>?_
    go_simp;exact hK
   try case s6=>
    intro a W hc hsz hold ah;have g6:=zV 66 (.bool true) (ah 3 rfl rfl _ rfl);clear hsz hold ah;refine ai rfl ((aP (want:=true) rfl rfl g6).trans rfl) ?_;clear g6;refine eG (v:=.string (str (bF 97))) (λW' hb=>hb) (λ_=>rfl) λK hK=>?_
    go_simp;refine(oK 97 W).mono ?_;rintro e w' ⟨rfl,hb'⟩;exact hK _ hb'
   try case s7=>
    intro a W hc hsz hold ah;have g7:=zV 66 (.bool true) (ah 3 rfl rfl _ rfl);clear hsz hold ah;refine ai rfl ((aP (want:=true) rfl rfl g7).trans rfl) ?_;clear g7;refine eG (v:=.string (str (bF 98))) (λW' hb=>hb) (λ_=>rfl) λK hK=>?_
    go_simp;refine(oK 98 W).mono ?_;rintro e w' ⟨rfl,hb'⟩;exact hK _ hb'
   try case s8=>
    intro a W hc hsz hold ah;have g8:=zV 66 (.bool true) (ah 3 rfl rfl _ rfl);clear hsz hold ah;refine ai rfl ((aP (want:=true) rfl rfl g8).trans rfl) ?_;clear g8;refine eG (v:=.string (str (bF 99))) (λW' hb=>hb) (λ_=>rfl) λK hK=>?_
    go_simp;refine(oK 99 W).mono ?_;rintro e w' ⟨rfl,hb'⟩;exact hK _ hb'
   try case s9=>
    intro a W hc hsz hold ah;have d6:=zV 69 (.string (str (bF 97))) (ah 6 rfl rfl _ rfl);have e6:=zq d6;have d7:=zV 70 (.string (str (bF 98))) (ah 7 rfl rfl _ rfl);have e7:=zq d7;have d8:=zV 71 (.string (str (bF 99))) (ah 8 rfl rfl _ rfl);have e8:=zq d8;have g9:=zV 66 (.bool true) (ah 3 rfl rfl _ rfl);clear hsz hold ah;refine ai rfl ((aP (want:=true) rfl rfl g9).trans rfl) ?_;refine Gi (v:=.slice (some ⟨W.heap.size,0,none⟩) 5 5) ((zB W.heap.size W).alloc (zl _) (.cells (TL.map λx=>Value.string (str x)).toArray 9)) ⟨W.heap.size,rfl,Bx.new W _ _⟩ λK hK=>?_
    go_simp;exact hK
   try case s10=>
    intro a W hc hsz hold ah;have d5:=zV 68 v5 (ah 5 rfl rfl _ rfl);have e5:=zq d5;have x9:=ah 9 rfl rfl _ rfl;have g10:=zV 66 (.bool true) (ah 3 rfl rfl _ rfl);clear hsz hold ah;refine ai rfl ((aP (want:=true) rfl rfl g10).trans rfl) ?_;obtain⟨b,hv,hB⟩:=x9;replace hv:a.tmps.getD 72 undef=.slice (some ⟨b,0,none⟩) 5 5:=hv;have hw:=zq hv;refine Gh λK hK=>?_
    go_simp;refine(HST.out W b hc hB).mono ?_;rintro e w' ⟨rfl,hb'⟩;exact hK _ _ hb' rfl
   try case s13=>
    intro a W hc hsz hold ah;have o5:a.tmps.getD 5 undef=.pointer (some ⟨gt,0,none⟩):=hold 5 (by kernel_rfl);have g13:=zV 75 (.bool true) (ah 12 rfl rfl _ rfl);clear hsz hold ah;refine ai rfl ((aP (want:=true) rfl rfl g13).trans rfl) ?_;clear g13;refine ak (v:=.pointer (some ⟨gt,2,none⟩)) (zB _ _) rfl λK hK=>?_
    go_simp;exact hK
   try case s14=>
    intro a W hc hsz hold ah;have d13:=zV 76 (.pointer (some ⟨gt,2,none⟩)) (ah 13 rfl rfl _ rfl);have g14:=zV 75 (.bool true) (ah 12 rfl rfl _ rfl);have z0:=(rZ.out W hc).1;clear hsz hold ah;refine ai rfl ((aP (want:=true) rfl rfl g14).trans rfl) ?_;clear g14;refine ak (v:=.slice (some ⟨bt,ot,none⟩) 1 c2) (zB _ _) rfl λK hK=>?_
    go_simp;exact hK
   try case s15=>
    intro a W hc hsz hold ah;have d14:=zV 77 (.slice (some ⟨bt,ot,none⟩) 1 c2) (ah 14 rfl rfl _ rfl);have e14:=zq d14;have g15:=zV 75 (.bool true) (ah 12 rfl rfl _ rfl);clear hsz hold ah;refine ai rfl ((aP (want:=true) rfl rfl g15).trans rfl) ?_;clear g15;refine ak (v:=.int .i64 1) (zB _ _) rfl λK hK=>?_
    go_simp;exact hK
   try case s16=>
    intro a W hc hsz hold ah;have d15:=zV 78 (.int .i64 1) (ah 15 rfl rfl _ rfl);have g16:=zV 75 (.bool true) (ah 12 rfl rfl _ rfl);clear hsz hold ah;refine ai rfl ((aP (want:=true) rfl rfl g16).trans rfl) ?_;clear g16;refine ak (v:=.bool true) (zB _ _) rfl λK hK=>?_
    go_simp;exact hK
   try case s19=>
    intro a W hc hsz hold ah;have o5:a.tmps.getD 5 undef=.pointer (some ⟨gt,0,none⟩):=hold 5 (by kernel_rfl);have g19:=zV 81 (.bool true) (ah 18 rfl rfl _ rfl);clear hsz hold ah;refine ai rfl ((aP (want:=true) rfl rfl g19).trans rfl) ?_;clear g19;refine ak (v:=.pointer (some ⟨gt,2,none⟩)) (zB _ _) rfl λK hK=>?_
    go_simp;exact hK
   try case s20=>
    intro a W hc hsz hold ah;have d19:=zV 82 (.pointer (some ⟨gt,2,none⟩)) (ah 19 rfl rfl _ rfl);have g20:=zV 81 (.bool true) (ah 18 rfl rfl _ rfl);have z0:=(rZ.out W hc).1;clear hsz hold ah;refine ai rfl ((aP (want:=true) rfl rfl g20).trans rfl) ?_;clear g20;refine ak (v:=.slice (some ⟨bt,ot,none⟩) 1 c2) (zB _ _) rfl λK hK=>?_
    go_simp;exact hK
   try case s21=>
    intro a W hc hsz hold ah;have d20:=zV 83 (.slice (some ⟨bt,ot,none⟩) 1 c2) (ah 20 rfl rfl _ rfl);have g21:=zV 81 (.bool true) (ah 18 rfl rfl _ rfl);have hix:=HIX.out;clear hsz hold ah;refine ai rfl ((aP (want:=true) rfl rfl g21).trans rfl) ?_;clear g21;refine ak (v:=.pointer (some ⟨bt,ot,none⟩)) (zB _ _) rfl λK hK=>?_
    go_simp;exact hK
   try case s22=>
    intro a W hc hsz hold ah;have d21:=zV 84 (.pointer (some ⟨bt,ot,none⟩)) (ah 21 rfl rfl _ rfl);have g22:=zV 81 (.bool true) (ah 18 rfl rfl _ rfl);clear hsz hold ah;refine ai rfl ((aP (want:=true) rfl rfl g22).trans rfl) ?_;clear g22;refine ak (v:=.pointer (some ⟨bt,ot+4,none⟩)) (zB _ _) rfl λK hK=>?_
    go_simp;exact hK
   try case s23=>
    intro a W hc hsz hold ah;have d22:=zV 85 (.pointer (some ⟨bt,ot+4,none⟩)) (ah 22 rfl rfl _ rfl);have g23:=zV 81 (.bool true) (ah 18 rfl rfl _ rfl);have z0:=(rZ.out W hc).2;clear hsz hold ah;refine ai rfl ((aP (want:=true) rfl rfl g23).trans rfl) ?_;clear g23;refine ak (v:=.int .i64 4) (zB _ _) rfl λK hK=>?_
    go_simp;exact hK
   try case s24=>
    intro a W hc hsz hold ah;have d23:=zV 86 (.int .i64 4) (ah 23 rfl rfl _ rfl);have g24:=zV 81 (.bool true) (ah 18 rfl rfl _ rfl);clear hsz hold ah;refine ai rfl ((aP (want:=true) rfl rfl g24).trans rfl) ?_;clear g24;refine ak (v:=.bool true) (zB _ _) rfl λK hK=>?_
    go_simp;exact hK
   ·intro a W hC hd hsz hold hval;have d0:a.tmps.getD 0 undef=.bool true:=hval 26 _ rfl rfl;obtain⟨G,hG,ha⟩:=dK [0,63,64,65,66,67,68,69,70,71,72,73,74,75,76,77,78,79,80,81,82,83,84,85,86,87,88] (by kernel_rfl) hd hsz hold;simp only[hG]at d0;rw[ha];clear ha hG hd hsz hold;simp only[cZ,Ym,List.set,d0];clear d0;have hC:Below wz.heap.size wz W:=hC;have HE:=zH (KD.out.trans (hC.mono KD.out.size));clear hC hval;go_wp2_with fail;go_ret;exact⟨rfl,HE.out⟩
def Fq(W:World)(g:Nat):World:={W with heap:=W.heap.mapIdx λi o=>if i=g then o else .map #[] 0}
theorem Fv(W:World)(g:Nat):(Fq W g).heap[g]? = W.heap[g]?:=by simp only[Fq,Array.getElem?_mapIdx,if_true];cases W.heap[g]? <;> rfl
theorem UE{W:World}{g:Nat}{a:Addr}{u:Value}(h:(Fq W g).cell? a=some u):a.block=g/\W.cell? a=some u:=by
 by_cases e:a.block=g
 ·refine⟨e,?_⟩;unfold World.cell? at h ⊢;rw[e]at h ⊢;rwa[Fv]at h
 ·unfold World.cell? at h;simp only[Fq,Array.getElem?_mapIdx]at h;cases hh:W.heap[a.block]? with
  |none=>rw[hh]at h;cases h
  |some o=>rw[hh]at h;simp only[Option.map_some,zi e]at h;cases h
theorem ach{W W':World}{a:Addr}(h:W'.heap[a.block]? = W.heap[a.block]?):W'.cell? a=W.cell? a:=by unfold World.cell?;rw[h]
theorem ZW{p pm N:Nat}{w:World}{M:aA}{X R:Nat->Prop}(hm:fF w pm M X R)(ho:M.Ok N)(hc2:w.cell? ⟨p,2,none⟩=some (.pointer (some ⟨pm,0,none⟩)))(vl:Value)(l:List Sc)(hl:jw w vl l)(hl2:l.length<=1000000):
 Calls prog 21 #[.pointer (some ⟨p,0,none⟩),vl] w (Ho (M.scratch l) pm X R w):=by
 have HS:=zH (abh hm ho vl l hl hl2);unfold Ho at HS;obtain⟨a,c,rfl,_⟩:=dB.form hl.1;generalize M.scratch l=Z at *;clear hm ho hl hl2;go_enter func21,ntmps21;go_wp2_with fail;refine HS.out.mono ?_;intro e w' hh;obtain⟨rfl,hh⟩:=hh;have HH:=zH hh;clear hh;go_wp2_with fail;go_ret;exact⟨rfl,HH.out⟩
structure Kv (L:List (List UInt8)) (w:World) (p pm mb:Nat) (vt:Value) (k m:Nat) (S:Int->Bool) (M:aA) (X R:Nat->Prop) (W:World):Prop where
 set:sU W mb m S
 le:m<=k
 box:Bx W p 101 (kG 0 L.length pm none 1 true vt ⟨#[]⟩ ⟨#[]⟩ (.slice none 0 0))
 med:fF W pm M X R
 pr:PrM L M S
 new:∀b,X b\/R b->w.heap.size<=b/\b≠p/\b≠mb
 ne:p≠mb
 hp:w.heap.size<=p
 hm:w.heap.size<=mb
 bl:Below w.heap.size w W
section
variable {L:List (List UInt8)} {w:World} {p pm mb:Nat} {vt:Value} {k m:Nat} {S:Int->Bool} {M:aA} {X R:Nat->Prop} {W W':World}
theorem Kv.below(h:Kv L w p pm mb vt k m S M X R W)(hb:Below W.heap.size W W'):Kv L w p pm mb vt k m S M X R W':=
 ⟨h.set.below hb,h.le,h.box.call hb,h.med.below hb,h.pr,h.new,h.ne,h.hp,h.hm,h.bl.trans (hb.mono h.bl.size)⟩
theorem Kv.next(h:Kv L w p pm mb vt k m S M X R W):Kv L w p pm mb vt (k+1) m S M X R W:=⟨h.set,by have:=h.le;omega,h.box,h.med,h.pr,h.new,h.ne,h.hp,h.hm,h.bl⟩
theorem Kv.grown(h:Kv L w p pm mb vt k m S M X R W){m2:Nat}{S2:Int->Bool}(hs:sU W' mb m2 S2)(hg:W.grownBy W' (some mb))(hp:PrM L M S2)(hm:m2<=k+1):Kv L w p pm mb vt (k+1) m2 S2 M X R W':=by
 have hk:∀b,b<W.heap.size->b≠mb->W'.heap[b]? = W.heap[b]?:=λb hb hn=>hg.block b hb (λe=>hn (zs e))
 obtain⟨Ly,Iw⟩:=h.med;exact⟨hs,hm,(hk p h.box.lt h.ne).trans h.box,⟨Ly,Iw.keep hg.size λb hb=>hk b (Iw.lt b hb) (h.new b hb).2.2⟩,hp,h.new,h.ne,h.hp,h.hm,h.bl.grown hg h.bl.size (λq hq=>by have:=zs hq;have:=h.hm;omega)⟩
theorem Kv.dam(h:Kv L w p pm mb vt k m S M X R W){M2:aA}{X2 R2:Nat->Prop}(hm:fF W' pm M2 X2 R2)(hc:Ch X R X2 R2 W W')(hp:PrM L M2 S):Kv L w p pm mb vt k m S M2 X2 R2 W':=by
 have hX:∀b,X b->w.heap.size<=b:=λb hb=>(h.new b (.inl hb)).1
 refine⟨h.set.kept (hc.block mb h.set.lt λhx=>(h.new mb (.inl hx)).2.2 rfl),h.le,(hc.block p h.box.lt λhx=>(h.new p (.inl hx)).2.1 rfl).trans h.box,hm,hp,λb hb=>?_,h.ne,h.hp,h.hm,h.bl.trans (hc.below _ h.bl.size hX)⟩;have hw:=h.bl.size;have hpl:=h.box.lt;have hml:=h.set.lt;rcases hb with hb|hb
 ·rcases hc.x b hb with h1|h1
  ·exact h.new b (.inl h1)
  ·exact⟨by omega,by omega,by omega⟩
 ·rcases hc.r b hb with h1|h1
  ·exact h.new b (.inr h1)
  ·exact⟨by omega,by omega,by omega⟩
theorem Kv.dmg{i n:Nat}{f:Int}{v:Value}{B:Nat}(h:Kv L w p pm mb vt k m (Q7 S (i:Nat) true) M X R W)(hP:PrM L M S)(hS:S (i:Nat)=false)(hi:i<L.length)(hL:L.length<=10)(h0:0<=f)(h1:1<=n)(hn:n<=172)(hf:f+n<=2352)(hB:∀b,X b->b<B)(hv:W.ownsRow B 3 1 v n (W8.is (Hq f n))):
 Calls prog 20 #[.pointer (some ⟨p,0,none⟩),.agg #[.int .i64 (i:Nat),v,.slice none 0 0]] W λe W'=>e=.returned (.int .i64 0)/\∃M2 X2 R2,Kv L w p pm mb vt k m (Q7 S (i:Nat) true) M2 X2 R2 W':=by
 obtain⟨g,c,rfl,hBg,hlt⟩:=kQ hv h1;have hne:¬ X g:=λhx=>by have:=hB g hx;omega
 have hv':(Fq W g).ownsRow B 3 1 (.slice (some ⟨g,0,none⟩) n c) n (W8.is (Hq f n)):=yL hv λk hk=>by obtain rfl:=zs hk;exact Fv W g
 have hi64:In64 ((i:Nat):Int):=by unfold In64;omega
 have hd:RJ (Fq W g) (.slice (some ⟨g,0,none⟩) n c) (.slice none 0 0) ⟨(i:Nat),Hq f n,[]⟩:=⟨W8.lh hv' (afG f n) (by omega) (λx hx=>by have:=CZ hx;omega),dB.nil _,hi64,by simp,λj hj=>by simp at hj⟩;have hcl:∀W' X2 R2,Ch X R X2 R2 W W'->∀a u,(Fq W g).cell? a=some u->W'.cell? a=some u:=λW' X2 R2 hc a u hu=>by obtain⟨e,h2⟩:=UE hu;rw[ach (hc.block a.block (by rw[e];exact hlt) (by rw[e];exact hne))];exact h2
 have hDM:=ZP (n:=M.n) (at_:=(i:Nat)) h.med h.pr.ok (by rw[h.pr.n];exact h.box.cell (i:=1) rfl) (h.box.cell (i:=2) rfl) (.slice (some ⟨g,0,none⟩) n c) (.slice none 0 0) ⟨(i:Nat),Hq f n,[]⟩ (λW' hW=>JA ((h.box.call hW).cell (i:=3) rfl) (i:Nat)) hd hcl hi64;have e1:Pm M M.n (i:Nat) ⟨(i:Nat),Hq f n,[]⟩=M.gU ⟨(i:Nat),Hq f n,[]⟩:=acw M ⟨(i:Nat),Hq f n,[]⟩;rw[e1]at hDM;unfold ZO at hDM;refine hDM.mono λe W' hh=>?_
 obtain⟨he,X2,R2,hm2,hc2⟩:=hh;exact⟨by rw[he,afS (by rw[h.pr.n];exact hi) h0 hf],_,X2,R2,h.dam hm2 hc2 (hP.dam ⟨(i:Nat),Hq f n,[]⟩ rfl hS (aaF hn hf))⟩
theorem Kv.scr(h:Kv L w p pm mb vt k m S M X R W){f c:Int}{v:Value}(h0:0<=f)(h1:1<=c)(hc:c<=16)(h2:f+c<=98*(L.length:Int)+108)(hL:L.length<=10)(hl:∀i,i<L.length->(aJ [] L i).length=2048)(hv:jw W v [⟨f,c⟩]):
 Calls prog 21 #[.pointer (some ⟨p,0,none⟩),v] W λe W'=>e=.returned (.int .i64 0)/\Below w.heap.size w W'/\
  Calls prog 12 #[.pointer (some ⟨p,0,none⟩)] W' λe w'=>∃g,e=.returned (.slice (some ⟨g,0,none⟩) L.length L.length)/\fQ w' (.slice (some ⟨g,0,none⟩) L.length L.length) L/\Below W'.heap.size W' w':=by
 have e1:M.scratch [⟨f,c⟩]=(0,{M with scr:=[⟨f,c⟩]}):=ahG h.pr.scr h0 h1 (by rw[h.pr.n];exact h2);have hs:=ZW h.med h.pr.ok (h.box.cell (i:=2) rfl) v [⟨f,c⟩] hv (by simp);have hok:=h.pr.ok.scratch [⟨f,c⟩];rw[e1]at hs hok;refine hs.mono λe W' hh=>?_
 obtain⟨he,X2,R2,hm2,hc2⟩:=hh;have hX:∀b,X b->w.heap.size<=b:=λb hb=>(h.new b (.inl hb)).1
 have hbox:Bx W' p 101 (kG 0 L.length pm none 1 true vt ⟨#[]⟩ ⟨#[]⟩ (.slice none 0 0)):=(hc2.block p h.box.lt λhx=>(h.new p (.inl hx)).2.1 rfl).trans h.box;refine⟨he,h.bl.trans (hc2.below _ h.bl.size hX),?_⟩;refine(adt (p:=p) (n:=L.length) (w:=W') (λi=>aJ [] L i) (by omega) (hbox.cell (i:=1) rfl) (λi hi W2 hW=>
  OH (hm2.below hW) hok ((hbox.call hW).cell (i:=2) rfl) (JA ((hbox.call hW).cell (i:=3) rfl) _) (h.pr.an5 hl (by omega) hc hi))).mono λe2 w' hh2=>?_
 obtain⟨g,he2,hg,hb⟩:=hh2;have hil:Ai (λi=>aJ [] L i) L.length=L:=by
  apply Xt
  ·rw[PW]
  ·intro i g1 g2;simp[Ai,aJ,g2]
 rw[hil]at hg;exact⟨g,he2,dB.bg jb hg,hb⟩
end
theorem O0(w:World)(v1:Value)(L:List (List UInt8))(hL:CW w v1 L)(v2:Value)(D:List Sc)(hD:jw w v2 D)(fi:Nat)(hfi:fi<65536)(ct:Nat)(hct:ct<256)(h1:1<=L.length)(h2:L.length<=10)(h3:D.length<=10)(hl:∀i,i<L.length->(aJ [] L i).length=2048):
 Calls prog 7 #[v1,v2,.int .u16 (fi:Nat),.int .u8 (ct:Nat)] w λe w'=>e=.returned (.bool true)/\Below w.heap.size w w':=by
 have HC:=zH (D5 w);have HP:=zH (λW (hW:Below w.heap.size w W)=>afZ v1 L W (dB.keep hL.1 hW) h1 (by omega) hl);have HL:=zH hl;have HRL:=zH hL.1;obtain⟨a1,c1,rfl,_⟩:=dB.form hL.1;obtain⟨a2,c2,rfl,_⟩:=dB.form hD.1;obtain⟨bd,od,kd⟩:=dB.at hD.1;have HKD:=zH kd;have HCD:=zH hD.2.1;obtain⟨n1,hn1⟩:∃n,n=L.length:=⟨_,rfl⟩;obtain⟨n2,hn2⟩:∃n,n=D.length:=⟨_,rfl⟩;have HN1:=zH hn1;have Zr:=zH hn2;rw[<-hn1]at h1 h2;rw[<-hn2]at h3;have HFC:=zH (And.intro hfi hct);have d0:((n1:Int) == 0)=false:=Yc.2 (by omega);have d1:decide (10<(n1:Int))=false:=zf (by omega);have d2:decide (10<(n2:Int))=false:=zf (by omega);have hmm:=@run_makeMap prog;rw[<-hn1]at HP HRL ⊢;rw[<-hn2];clear hL hD hl kd hn1 hn2 hfi hct;go_enter func7,ntmps7;go_wp2_with fail;refine HC.out.mono ?_;rintro e w1 ⟨rfl,hb1⟩;have HB1:=zH hb1;have HP1:=zH (HP.out w1 hb1);clear hb1;go_wp2_with fail;refine HP1.out.mono ?_;rintro e w2 ⟨p,pm,X,R,rfl,hq⟩;obtain⟨⟨vt,hbox⟩,Iw,hnew,hp,hb2⟩:=hq;have hset:=sU.made w2;have hal:=(zB w2.heap.size w2).alloc (zl _) (.map #[] 0);have HI0:Hid (Kv L w p pm w2.heap.size vt 0 0 (λ_=>false) (dH (recs L L.length)) X R (w2.alloc (.map #[] 0))):=zH (by
  obtain⟨Ly,Iw⟩:=Iw;refine⟨hset,zl _,hbox.call hal,fF.below ⟨Ly,Iw⟩ hal,PrM.start (by rw[<-HN1.out];exact h1) (by rw[<-HN1.out];omega),λb hb=>?_,Nat.ne_of_lt hbox.lt,zT HB1.out.size hp,zT HB1.out.size hb2.size,HB1.out.trans ((hb2.trans (hal.mono hb2.size)).mono HB1.out.size)⟩;have:=Iw.lt b hb;obtain⟨h5,h6⟩:=hnew b hb;have:=HB1.out.size;exact⟨by omega,h6,by omega⟩)
 clear hbox Iw hnew hp hb2 hset hal HP1;obtain⟨mb,hmb⟩:∃mb,mb=w2.heap.size:=⟨_,rfl⟩;rw[<-hmb]at HI0;have HMB:=zH hmb;clear hmb;go_wp2_with fail;rw[<-HMB.out]
 go_loopw [46] (λvi wr=>∃k:Nat,k<=n2/\vi=.int .i64 k/\∃m S M X R,Kv L w p pm mb vt k m S M X R wr) (λvi _=>n2-(RowKit.intOf vi).toNat)
 case atStart=>exact⟨0,by omega,rfl,0,_,_,X,R,HI0.out⟩
 case round=>
  clear X R HI0;obtain⟨k,hk,rfl,m,S,M,X,R,hI⟩:=hrel;have HMS:Hid (w.heap.size<=wr.heap.size):=zH hI.bl.size;by_cases hlt:k<n2
  ·have hkD:k<D.length:=by rw[<-Zr.out];exact hlt
   obtain⟨ha,hrange⟩:=HKD.out k hkD;have hcd:=HCD.out k hkD;change w.rangeAt bd (od+k*2) (scc (Q3 D k)) at hrange;generalize Q3 D k=x at hrange hcd;obtain⟨f,c⟩:=x;obtain⟨⟨hf1,hf2⟩,hc1,hc2⟩:=hcd;dsimp only at hf1 hf2 hc1 hc2;have hix:=λw'=>aB underlying27 (by kernel_rfl:(prog.info? 78).map (·.size)=some 2) (cap:=c2) (n:=n2) ha hlt (k:Int) rfl w'
   have hr0:wr.cell? ⟨bd,od+k*2,none⟩=some (.int .i64 f):=by have:=hrange 0 _ rfl;exact(hI.bl.cell (p:=⟨bd,od+k*2+0,none⟩) (zc w _ this)).trans this
   have hr1:wr.cell? ⟨bd,od+k*2+1,none⟩=some (.int .i64 c):=by have:=hrange 1 _ rfl;exact(hI.bl.cell (p:=⟨bd,od+k*2+1,none⟩) (zc w _ this)).trans this
   obtain⟨wx,hwx⟩:∃wx,wx=wr.alloc (.cells #[.int .i64 f,.int .i64 c] 78):=⟨_,rfl⟩;obtain⟨bx,hbx⟩:∃b,b=wr.heap.size:=⟨_,rfl⟩;have hal:=(zB wr.heap.size wr).alloc (zl _) (.cells #[.int .i64 f,.int .i64 c] 78);rw[<-hwx]at hal;have hI1:=hI.below hal;have hxb:Bx wx bx 78 [.int .i64 f,.int .i64 c]:=by rw[hwx,hbx];exact Bx.new wr _ _
   obtain⟨j,hj⟩:∃j,j=k%n1:=⟨_,rfl⟩;have hjn:j<n1:=by rw[hj];exact Nat.mod_lt _ (by omega)
   have HJ:Hid ((k:Int)%(n1:Int)=(j:Nat)):=zH (by rw[hj];rfl);have hlook:=hI1.set.run (j:Nat) (by omega) (by omega);have HI1:=zH hI1;have HXB:=zH hxb;have ana:=zH hbx;have ny:Hid (bx<wx.heap.size/\bx≠mb/\w.heap.size<=bx):=zH (by
    have h8:=hI.set.lt;have h9:=HMS.out;exact⟨hxb.lt,by omega,by omega⟩)
   have HWX:Hid (wr.alloc (.cells #[.int .i64 f,.int .i64 c] 78)=wx):=zH hwx.symm;have HA:=zH ha;have x0:=hxb.cell (i:=0) rfl;have x1:=hxb.cell (i:=1) rfl;obtain⟨q,hq⟩:∃q,q=S (j:Nat):=⟨_,rfl⟩;rw[<-hq]at hlook;have HQ:=zH hq;have hn0:((n1:Int) == 0)=false:=d0;clear hI hI1 hxb hbx hwx hrange hal ha hq hj;go_upto_region 12 with (fail)
   rw[HWX.out,<-ana.out];clear hr0 hr1;go_upto_region 13 with (fail)
   have HJN:=zH hjn;rw[HJ.out];cases q
   ·by_cases g1:f<0
    ·have b1:decide (f<0)=true:=zt g1;clear g1;go_wp2_with fail;go_roundw;case rel=>exact⟨k+1,by omega,by go_num,m,S,M,X,R,HI1.out.next⟩
     case measure=>simp[RowKit.intOf];omega
    ·have b1:decide (f<0)=false:=zf g1;by_cases g2:c<1
     ·have b2:decide (c<1)=true:=zt g2;clear g1 g2;go_wp2_with fail;go_roundw;case rel=>exact⟨k+1,by omega,by go_num,m,S,M,X,R,HI1.out.next⟩
      case measure=>simp[RowKit.intOf];omega
     ·have b2:decide (c<1)=false:=zf g2;by_cases g3:172<c
      ·have b3:decide (172<c)=true:=zt g3;clear g1 g2 g3;go_wp2_with fail;go_roundw;case rel=>exact⟨k+1,by omega,by go_num,m,S,M,X,R,HI1.out.next⟩
       case measure=>simp[RowKit.intOf];omega
      ·have b3:decide (172<c)=false:=zf g3;have hw:wrap64 (2352-c)=2352-c:=by unfold wrap64;omega
       by_cases g4:2352-c<f
       ·have b4:decide (2352-c<f)=true:=zt g4;clear g1 g2 g3 g4;go_wp2_with fail;go_roundw;case rel=>exact⟨k+1,by omega,by go_num,m,S,M,X,R,HI1.out.next⟩
        case measure=>simp[RowKit.intOf];omega
       ·have b4:decide (2352-c<f)=false:=zf g4;obtain⟨cn,rfl⟩:∃n:Nat,c=n:=⟨c.toNat,by omega⟩;obtain⟨fn,rfl⟩:∃n:Nat,f=n:=⟨f.toNat,by omega⟩;have HG:Hid (1<=cn/\cn<=172/\fn+cn<=2352):=zH ⟨by omega,by omega,by omega⟩;have hset:=HI1.out.set;have al4:m<1000000:=by have:=HI1.out.le;omega
        clear g1 g2 g3 g4;go_upto_region 15 with (first
         | (at_mapUpdate
            refine Ry rfl _ _ _ rfl hset rfl rfl rfl (by have:=HJN.out;omega) (by have:=HJN.out;omega) al4 ?_;intro w5 aip hgr5)
         |fail)
        have HI5:=zH (HI1.out.grown aip hgr5 (HI1.out.pr.set (j:Nat)) (by have:=HI1.out.le;omega));have HP5:Hid (PrM L M S):=zH HI1.out.pr;have VG:Hid (Bx w5 bx 78 [.int .i64 (fn:Nat),.int .i64 (cn:Nat)]):=zH ((hgr5.block bx ny.out.1 (λe=>ny.out.2.1 (zs e))).trans HXB.out);have y1:=VG.out.cell (i:=1) rfl;clear hset al4 aip hgr5 x0 x1 b1 b2 b3 b4 hw hlook;go_wp2_with fail
        go_loopw [85,15] (λv85 v15 wr=>∃t:Nat,t<=cn/\v85=.int .i64 t/\Hid (Below w5.heap.size w5 wr)/\Hid (wr.ownsRow w5.heap.size 3 1 v15 t (W8.is (Hq (fn:Nat) t)))) (λv85 _ _=>cn-(RowKit.intOf v85).toNat)
        case atStart=>exact⟨0,by omega,rfl,zH (zB _ _),zH (W8.ownsRow_nil w5 _ _)⟩
        case round=>
         clear y1;obtain⟨t,ht,rfl,HBt,HOt⟩:=hrel;obtain⟨a15,c15,rfl⟩:=aS HOt.out;by_cases htl:t<cn
         ·have y0:=(VG.out.call HBt.out).cell (i:=0) rfl;have Uc:=(zB wr.heap.size wr).alloc (zl _) (.cells #[.int .i64 ((fn:Int)+(t:Int))] 3);have BC:=W8.ja HOt.out Uc;have ER:=W8.qJ wr [(fn:Int)+(t:Int)] 3 (by simp);have hb6:=HBt.out.alloc HBt.out.size (.cells #[.int .i64 ((fn:Int)+(t:Int))] 3);have yj:=hb6.size;have uG:=zH hb6;have HO6:=zH BC;have hw7:wrap64 ((fn:Int)+(t:Int))=(fn:Int)+(t:Int):=by unfold wrap64;have:=HG.out;omega
          have ht7:t<=1000:=by have:=HG.out;omega
          clear Uc hb6;go_wp2_with (at_builtin;refine W8.jH rfl _ _ rfl underlying31 infoInt9 BC rfl ER rfl (by simp only[XL];omega) yj ?_;intro v7 w7 jl lH);have hb7:=uG.out.grown lH yj (W8.dW HO6.out);have qj:w7.ownsRow w5.heap.size 3 1 v7 (t+1) (W8.is (Hq (fn:Nat) (t+1))):=by rw[acf];exact jl
          go_roundw;case rel=>exact⟨t+1,by omega,by go_num,zH hb7,zH qj⟩
          case measure=>simp[RowKit.intOf];omega
         ·obtain rfl:t=cn:=by omega
          have HI6:=zH (HI5.out.below HBt.out);have HDM:=zH (HI6.out.dmg HP5.out HQ.out.symm (by rw[<-HN1.out];exact HJN.out) (by rw[<-HN1.out];exact h2) (by omega) HG.out.1 HG.out.2.1 (by have:=HG.out.2.2;omega) (λb hb=>by obtain⟨Ly,Iw⟩:=HI5.out.med;exact Iw.lt b (.inl hb)) HOt.out);go_wp2_with fail;refine HDM.out.mono ?_;rintro e w10 ⟨rfl,M2,X2,R2,alD⟩;have aiP:=zH alD;clear alD;go_wp2_with fail;go_roundw;case rel=>exact⟨k+1,by omega,by go_num,m+1,_,M2,X2,R2,aiP.out⟩
          case measure=>simp[RowKit.intOf];omega
   ·go_wp2_with fail;go_roundw;case rel=>exact⟨k+1,by omega,by go_num,m,S,M,X,R,HI1.out.next⟩
    case measure=>simp[RowKit.intOf];omega
  ·obtain rfl:k=n2:=by omega
   have HI:=zH hI;clear hI;have HW1:Hid (98*(n1:Int)+108=((98*n1+108:Nat):Int)):=zH (by omega);have HW2:Hid (wrap64 (1+(wrap64 (ct:Int)).tmod 16)=((1+ct%16:Nat):Int)):=zH (by
    have e1:wrap64 (ct:Int)=ct:=by unfold wrap64;have:=HFC.out.2;omega
    rw[e1];have e:(ct:Int).tmod 16=((ct%16:Nat):Int):=by rw[XG (by omega)];omega
    rw[e];unfold wrap64;omega)
   obtain⟨fr,hfr⟩:∃z,z=98*n1+108:=⟨_,rfl⟩;obtain⟨nn,hnn⟩:∃z,z=1+ct%16:=⟨_,rfl⟩;rw[<-hfr]at HW1;rw[<-hnn]at HW2;have hb1:1<=nn/\nn<=16:=by omega
   have hb2:206<=fr/\fr<=1100:=by omega
   have e1:wrap64 (fi:Int)=fi:=by unfold wrap64;have:=HFC.out.1;omega
   have e2:wrap64 ((fr:Int)-(nn:Int))=((fr-nn:Nat):Int):=by unfold wrap64;omega
   obtain⟨ff,hff⟩:∃z,z=fi%(fr-nn):=⟨_,rfl⟩;have hf2:ff<fr-nn:=by rw[hff];exact Nat.mod_lt _ (by omega)
   have HW3:Hid ((wrap64 (fi:Int)).tmod ((fr:Int)-(nn:Int))=(ff:Nat)):=zH (by
    have e3:(fr:Int)-(nn:Int)=((fr-nn:Nat):Int):=by omega
    rw[e1,e3,XG (by omega),hff];rfl)
   have hdz:(wrap64 ((fr:Int)-(nn:Int)) == 0)=false:=by rw[e2];exact Yc.2 (by omega)
   have hal:=(zB wr.heap.size wr).alloc (zl _) (.cells #[.int .i64 (ff:Nat),.int .i64 (nn:Nat)] 78);have HSC:=zH ((HI.out.below hal).scr (f:=(ff:Nat)) (c:=(nn:Nat)) (by omega) (by omega) (by omega) (by rw[<-HN1.out];omega) (by rw[<-HN1.out];exact h2) HL.out (SK ⟨(ff:Nat),(nn:Nat)⟩ ⟨by(constructor <;> (show _<=_) <;> dsimp only <;> omega),by(constructor <;> (show _<=_) <;> dsimp only <;> omega)⟩ (Bx.new wr 78 [.int .i64 (ff:Nat),.int .i64 (nn:Nat)])));have HSM:=zH (λva W (hW:Below w.heap.size w W) (ho:fQ W va L)=>zx va (.slice a1 n1 c1) L W ho (dB.keep HRL.out hW) (by rw[<-HN1.out];omega));clear hfr hnn e1 e2 hff hf2 hal;go_upto_region 25 with (fail)
   rw[HW1.out];go_upto_region 26 with (fail)
   rw[HW2.out];go_wp2_with fail;rw[HW3.out];refine HSC.out.mono ?_;rintro e w8 ⟨rfl,hb8,him⟩;have NZ:=zH hb8;have HIM:=zH him;clear hb8 him;go_wp2_with fail;refine HIM.out.mono ?_;rw[<-HN1.out];rintro e w3 ⟨g,rfl,hrd,hb3⟩;have hb4:=NZ.out.trans (hb3.mono NZ.out.size);have HB4:=zH hb4;have xE:=zH (HSM.out _ w3 hb4 hrd);clear hrd hb3 hb4;go_wp2_with fail;refine xE.out.mono ?_;rintro e w5 ⟨rfl,hb5⟩;have KC:=zH (HB4.out.trans (hb5.mono HB4.out.size));clear hb5;go_wp2_with fail;go_ret;exact⟨rfl,KC.out⟩
theorem Io(w:World)(a1:Option Addr)(n1 c1:Nat)(a2:Option Addr)(n2 c2:Nat)(h1:n1<=9223372036854775807)(h2:n2<=9223372036854775807)(h:n1=0\/10<n1\/10<n2)(x y:Value):
 Calls prog 7 #[.slice a1 n1 c1,.slice a2 n2 c2,x,y] w λe w'=>e=.returned (.bool true)/\Below w.heap.size w w':=by
 have HC:=zH (D5 w);by_cases h0:n1=0
 ·have d0:((n1:Int) == 0)=true:=YG.2 (by omega);clear h h0;go_enter func7,ntmps7;go_wp2_with fail;refine HC.out.mono ?_;rintro e w1 ⟨rfl,hb1⟩;have HB1:=zH hb1;clear hb1;go_wp2_with fail;go_ret;exact⟨rfl,HB1.out⟩
 ·have d0:((n1:Int) == 0)=false:=Yc.2 (by omega);by_cases h3:10<n1
  ·have d1:decide (10<(n1:Int))=true:=zt (by omega);clear h h0 h3;go_enter func7,ntmps7;go_wp2_with fail;refine HC.out.mono ?_;rintro e w1 ⟨rfl,hb1⟩;have HB1:=zH hb1;clear hb1;go_wp2_with fail;go_ret;exact⟨rfl,HB1.out⟩
  ·have d1:decide (10<(n1:Int))=false:=zf (by omega);have d2:decide (10<(n2:Int))=true:=zt (by omega);clear h h0 h3;go_enter func7,ntmps7;go_wp2_with fail;refine HC.out.mono ?_;rintro e w1 ⟨rfl,hb1⟩;have HB1:=zH hb1;clear hb1;go_wp2_with fail;go_ret;exact⟨rfl,HB1.out⟩
theorem Ld(w:World)(v1:Value)(L:List (List UInt8))(hL:CW w v1 L)(a2:Option Addr)(n2 c2:Nat)(x y:Value)(h1:1<=L.length)(h2:L.length<=10)(h3:n2<=10)(hbad:anyS (nT 2048) L=true):
 Calls prog 7 #[v1,.slice a2 n2 c2,x,y] w λe w'=>e=.returned (.bool true)/\Below w.heap.size w w':=by
 have HC:=zH (D5 w);have HP:=zH (λW (hW:Below w.heap.size w W)=>Pn v1 L W (dB.keep hL.1 hW) h1 (by omega) (λx hx=>by
  obtain⟨i,hi,rfl⟩:=YL hx;have:=hL.2.2 i hi;simpa[aJ,hi]using this) hbad)
 obtain⟨a1,c1,rfl,_⟩:=dB.form hL.1;obtain⟨n1,hn1⟩:∃n,n=L.length:=⟨_,rfl⟩;rw[<-hn1]at h1 h2 HP ⊢;have d0:((n1:Int) == 0)=false:=Yc.2 (by omega);have d1:decide (10<(n1:Int))=false:=zf (by omega);have d2:decide (10<(n2:Int))=false:=zf (by omega);clear hL hn1;go_enter func7,ntmps7;go_wp2_with fail;refine HC.out.mono ?_;rintro e w1 ⟨rfl,hb1⟩;have HB1:=zH hb1;have HP1:=zH (HP.out w1 hb1);clear hb1;go_wp2_with fail;refine HP1.out.mono ?_;rintro e w2 ⟨rfl,hw2⟩;rw[<-hw2];clear hw2;go_wp2_with fail;go_ret;exact⟨rfl,HB1.out⟩
theorem SY(w:World)(v1:Value)(L:List (List UInt8))(hL:CW w v1 L)(v2:Value)(D:List Sc)(hD:jw w v2 D)(fi:Int)(wf:(Lit.int .u16 fi).wf=true)(ct:Int)(wc:(Lit.int .u8 ct).wf=true):
 Calls prog 7 #[v1,v2,.int .u16 fi,.int .u8 ct] w λe w'=>e=.returned (.bool true)/\Below w.heap.size w w':=by
 obtain⟨fi,rfl,hfi⟩:∃n:Nat,fi=n/\n<65536:=by
  have h:0<=fi/\fi<=65535:=by simpa[Lit.wf,IntKind.min,IntKind.max,IntKind.signed,IntKind.bits]using wf
  exact⟨fi.toNat,by omega,by omega⟩
 obtain⟨ct,rfl,hct⟩:=aka wc;obtain⟨a1,c1,e1,_⟩:=dB.form hL.1;obtain⟨a2,c2,e2,_⟩:=dB.form hD.1;by_cases h:L.length=0\/10<L.length\/10<D.length
 ·rw[e1,e2];exact Io w a1 _ c1 a2 _ c2 hL.2.1 hD.2.2 h _ _
 ·by_cases hl:∀i,i<L.length->(aJ [] L i).length=2048
  ·exact O0 w _ L hL _ D hD fi hfi ct hct (by omega) (by omega) (by omega) hl
  ·rw[e2];refine Ld w _ L hL a2 _ c2 _ _ (by omega) (by omega) (by omega) ?_;simp only[Classical.not_forall]at hl;obtain⟨i,hi,hne⟩:=hl;exact KP hi (zt hne)
end T7
end Go.Proofs.YtfnehkmhcmkhjaaGreat
