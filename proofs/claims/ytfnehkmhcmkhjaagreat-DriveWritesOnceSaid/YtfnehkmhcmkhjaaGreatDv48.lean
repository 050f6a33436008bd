/- Parts:XLg -/
import Derived.Test.YtfnehkmhcmkhjaaGreatDvAl
import Derived.Test.YtfnehkmhcmkhjaaGreatDv46
set_option maxRecDepth 100000
set_option maxHeartbeats 8000000
set_option linter.unusedVariables false
set_option linter.unusedSimpArgs false
namespace Go.Proofs.YtfnehkmhcmkhjaaGreat
open Tryz
namespace T7
open Go Go.RowKit C9 oH
theorem TW{W:World}{b:Nat}{L:List (List UInt8)}(h:Bx W b 9 (L.map fun x=>Value.string (str x))):gU W (.slice (some ⟨b,0,none⟩) L.length L.length) L:=by
 refine⟨some ⟨b,0,none⟩,L.length,b,0,rfl,zl _,fun i hi=>⟨rfl,fun j u hu=>?_⟩⟩;have hj:j=0:=by have:=(List.getElem?_eq_some_iff.1 hu).1;simpa[wU]using this
 subst hj;have e:u=.string (str (bF [] L i)):=by simpa[wU]using hu.symm
 rw[e];have:=h.cell (i:=i) (u:=.string (str (bF [] L i))) (by simp[bF,hi]);simpa using this
theorem aI.adE{B:Nat}{t e:TypeId}{m:Nat}{Φ:World->List Value->Prop}{w W:World}(hR:aI B t m Φ w W)(he:e≠t){base sz n:Nat}{v:Value}{xs:List Value}(h:w.ownsRow base e sz v n xs):W.ownsRow base e sz v n xs:=by
 refine⟨h.1,?_⟩;rcases h.2 with h1 | ⟨g,cap,cur,rfl,hb,hh,rest⟩
 ·exact .inl h1
 ·refine .inr ⟨g,cap,cur,rfl,hb,(hR.2.1 g (Array.getElem?_eq_some_iff.1 hh).1 fun cs _ hx=>?_).trans hh,rest⟩;have hx':w.heap[g]? = some (.cells cs.toArray t):=hx;rw[hh]at hx';simp only[Option.some.injEq,Obj.cells.injEq]at hx';exact he hx'.2.1
def Jw:List (List UInt8):=[bC 97,bC 98,bC 99,[33],[]]
theorem aeU.at{w:World}{a:Option Addr}{n c:Nat}{l:List T.az}(h:aW w (.slice a n c) l):∃b off,∀i,i<l.length->a=some ⟨b,off,none⟩/\w.rangeAt b (off+i * 7) (jy (T.tr l i)):=by obtain⟨a',c',b,off,hv,hac,hcell⟩:=h;simp only[Value.slice.injEq]at hv;obtain⟨rfl,_,_⟩:=hv;exact⟨b,off,hcell⟩
theorem CZ{L:List (List UInt8)}(x:List UInt8)(h:x ∈ L)(hL:∀y ∈ L,y.length=2048:=by simp[gp]):x.length=2048:=hL x h
theorem qP.lit{w W:World}{p pm:Nat}{D:PD}{Q:Nat->Prop}(h:qP w p pm D Q W)(L:List (List UInt8)):
 qP w p pm D (fun b=>Q b\/(W.heap.size<=b/\b<(W.alloc (.cells (L.map fun x=>Value.string (str x)).toArray 9)).heap.size)) (W.alloc (.cells (L.map fun x=>Value.string (str x)).toArray 9))/\gU (W.alloc (.cells (L.map fun x=>Value.string (str x)).toArray 9)) (.slice (some ⟨W.heap.size,0,none⟩) L.length L.length) L:=
 ⟨h.push ((zB W.heap.size W).alloc (zl _) _),TW (Bx.new W _ _)⟩
def Wp(p n0:Nat)(cl:Int)(fin:Bool)(tl:List T.az)(IM:List (List UInt8))(i:Nat)(v:Value)(d:Nat->Value)(W:World):Prop:=match i with
 | 0=>v=.pointer (some ⟨p,0,none⟩)
 | 1=>∃g,v=.slice (some ⟨g,0,none⟩) 100 100/\W.ownsRow n0 9 1 v 100 (fK wU IM)
 | 2=>v=.pointer (some ⟨p,0,none⟩)
 | 3=>v=.agg #[.int .i64 7,.int .i64 0,.int .i64 0,.int .i64 0,.int .i64 0,.slice none 0 0]
 | 4=>∃(a:Option Addr)(c:Nat),v=.agg #[.int .i64 0,.int .i64 0,.slice none 0 0,.int .i64 cl,.bool fin,.slice a tl.length c]/\aW W (.slice a tl.length c) tl
 | 5=>∃(a:Option Addr)(c:Nat),v=.agg #[.int .i64 cl,.bool fin,.slice a tl.length c]/\aW W (.slice a tl.length c) tl
 | 6=>∃g,v=.pointer (some ⟨g,0,none⟩)/\n0<=g/\∃cs:List Value,cs.length=3/\Bx W g 37 cs
 | 7=>∃g,v=.slice (some ⟨g,0,none⟩) 100 100/\W.ownsRow n0 9 1 v 100 (fK wU IM)
 | 8=>∃g,d 6=.pointer (some ⟨g,0,none⟩)/\n0<=g/\∃cs:List Value,cs.length=3/\Bx W g 37 cs/\(fun W cs=>∃(a:Option Addr)(c:Nat),cs = [.int .i64 cl,.bool fin,.slice a tl.length c]/\aW W (.slice a tl.length c) tl) W cs
 | _=>True
theorem N8(p n0:Nat)(cl:Int)(fin:Bool)(tl:List T.az)(IM:List (List UInt8))(i:Nat)(v:Value)(d:Nat->Value)(W W':World)(hR:(aI n0 37 3 (fun W cs=>∃(a:Option Addr)(c:Nat),cs = [.int .i64 cl,.bool fin,.slice a tl.length c]/\aW W (.slice a tl.length c) tl)) W W')(h:Wp p n0 cl fin tl IM i v d W):Wp p n0 cl fin tl IM i v d W':=by
 by_cases h1:i=1
 ·subst h1;obtain⟨g,h1,h2⟩:=h;exact⟨g,h1,aI.adE hR (by decide) h2⟩
 by_cases h4:i=4
 ·subst h4;obtain⟨a,c,h1,h2⟩:=h;exact⟨a,c,h1,hR.dW (by decide) h2⟩
 by_cases h5:i=5
 ·subst h5;obtain⟨a,c,h1,h2⟩:=h;exact⟨a,c,h1,hR.dW (by decide) h2⟩
 by_cases h6:i=6
 ·subst h6;obtain⟨g,h1,h2,h3⟩:=h;exact⟨g,h1,h2,aI.some hR h3⟩
 by_cases h7:i=7
 ·subst h7;obtain⟨g,h1,h2⟩:=h;exact⟨g,h1,aI.adE hR (by decide) h2⟩
 by_cases h8:i=8
 ·subst h8;obtain⟨g,h1,h2,h3⟩:=h;exact⟨g,h1,h2,aI.full hR (fun cs h=>(by obtain⟨a,c,h1,h2⟩:=h; exact⟨a,c,h1,hR.dW (by decide) h2⟩)) h3⟩
 unfold Wp at h ⊢;split at h <;> first | exact h | exact absurd rfl h1 | exact absurd rfl h4 | exact absurd rfl h5 | exact absurd rfl h6 | exact absurd rfl h7 | exact absurd rfl h8
def Wq(gi gt bt ot c2:Nat)(v5:Value)(i:Nat)(v:Value)(W:World):Prop:=match i with
 | 0=>v=.slice (some ⟨gi,0,none⟩) 100 100
 | 1=>v=.int .i64 100
 | 2=>v=.bool true
 | 3=>v=.bool true
 | 4=>v=.slice (some ⟨gi,0,none⟩) 100 100
 | 5=>v=v5
 | 6=>v=.string (str (bC 97))
 | 7=>v=.string (str (bC 98))
 | 8=>v=.string (str (bC 99))
 | 9=>∃b,v=.slice (some ⟨b,0,none⟩) 5 5/\Bx W b 9 (Jw.map fun x=>Value.string (str x))
 | 10=>v=.bool true
 | 11=>v=.bool true
 | 12=>v=.bool true
 | 13=>v=.pointer (some ⟨gt,2,none⟩)
 | 14=>v=.slice (some ⟨bt,ot,none⟩) 1 c2
 | 15=>v=.int .i64 1
 | 16=>v=.bool true
 | 17=>v=.bool true
 | 18=>v=.bool true
 | 19=>v=.pointer (some ⟨gt,2,none⟩)
 | 20=>v=.slice (some ⟨bt,ot,none⟩) 1 c2
 | 21=>v=.pointer (some ⟨bt,ot,none⟩)
 | 22=>v=.pointer (some ⟨bt,ot+4,none⟩)
 | 23=>v=.int .i64 4
 | 24=>v=.bool true
 | 25=>v=.bool true
 | 26=>v=.bool true
 | _=>True
theorem N9(gi gt bt ot c2:Nat)(v5:Value)(i:Nat)(v:Value)(W W':World)(hR:(fun W W'=>Below W.heap.size W W') W W')(h:Wq gi gt bt ot c2 v5 i v W):Wq gi gt bt ot c2 v5 i v W':=by
 by_cases h9:i=9
 ·subst h9;obtain⟨b,h1,h2⟩:=h;exact⟨b,h1,h2.call hR⟩
 unfold Wq at h ⊢;split at h <;> first | exact h | exact absurd rfl h9
theorem Wn(w:World):Calls prog 9 #[] w fun e w'=>e=.returned (.bool true)/\Below w.heap.size w w':=by
 have HN:Hid (Calls prog 16 #[.int .i64 1,.int .i64 100,.int .i64 0,.int .i64 1] w (Q8 100 w)):=zH (RY 100 (by decide) (by decide) w);obtain⟨s0,s1,s2,s3,s5,s6,hAW⟩:=aaq;have uN:=zH hAW;have hE0:=hAW.e0;clear hAW;go_enter func9,ntmps9;go_upto_region 2 with (go_at_call 16; refine HN.out.mono ?_; rintro e w1 hNew; obtain⟨p,pm,rfl,hd⟩:=hNew.dra)
 obtain⟨q,hq⟩:∃q,q=w1.heap.size:=⟨_,rfl⟩;obtain⟨w2,hw2⟩:∃w2,w2=w1.alloc (.cells #[.pointer (some ⟨p,0,none⟩)] 25):=⟨_,rfl⟩;have hal:=(zB w1.heap.size w1).alloc (zl _) (.cells #[.pointer (some ⟨p,0,none⟩)] 25);have hbq:=Bx.new w1 25 [.pointer (some ⟨p,0,none⟩)];rw[<-hw2]at hal hbq;rw[<-hq]at hbq;rw[<-hE0]at hd;have aef:=zH ((hd.push hal).sub (Q2:=fun b=>b=q) (fun b hb=>.inr ⟨by rw[hb,hq]; exact zl _,by rw[hb]; exact hbq.lt⟩));have ad6:=zH hbq;have ab1:=ad6;have HQW:Hid (w.heap.size<=q):=zH (by rw[hq]; exact hd.bl.size);have HW2:=zH hw2.symm;have HQE:=zH hq;have ZZ:=zH (EW aef.out uN.out.o0 (by decide) rfl (ab1.out.cell (i:=0) rfl) 3 0 50 0 0 (by unfold In64; decide) (by unfold In64; decide) (by unfold In64; decide) none 0 [] (dX.nil _) (fun b hb=>by cases hb) (by decide) (fun x hx=>by cases hx) (congrArg Prod.fst uN.out.r1) (congrArg Prod.snd uN.out.r1));unfold dR at ZZ;clear hw2 hq hal hbq hd hE0;go_upto_region 5 with (fail)
 rw[HW2.out,<-HQE.out];go_wp2_with fail;refine ZZ.out.mono ?_;rintro e w3 ⟨rfl,hd,hk,hs⟩;have aeg:=zH (hd.sub (Q2:=fun b=>b=q) (fun b hb=>hb));have ad7:=zH (show Bx w3 q 25 [.pointer (some ⟨p,0,none⟩)] from(hk q rfl).trans ab1.out);clear hd hk hs;go_wp2_with fail;refine(lJ 97 w3).mono ?_;rintro e afn ⟨rfl,hb⟩;have ZP:=zH (aeg.out.below hb);have ZJ:=zH (ad7.out.call hb);clear hb;go_wp2_with fail;refine(lJ 98 afn).mono ?_;rintro e Ig ⟨rfl,hb⟩;have ZQ:=zH (ZP.out.below hb);have ZK:=zH (ZJ.out.call hb);clear hb;obtain⟨hx,hr⟩:=ZQ.out.lit [bC 97,bC 98];have HL2:Hid (gU (Ig.alloc (.cells #[.string (str (bC 97)),.string (str (bC 98))] 9)) (.slice (some ⟨Ig.heap.size,0,none⟩) 2 2) [bC 97,bC 98]):=zH hr;have LG:Hid (qP w p pm _ (fun b=>b=q\/(Ig.heap.size<=b/\b<(Ig.alloc (.cells #[.string (str (bC 97)),.string (str (bC 98))] 9)).heap.size)) (Ig.alloc (.cells #[.string (str (bC 97)),.string (str (bC 98))] 9))):=zH hx;have ab2:=zH (ZK.out.call ((zB Ig.heap.size Ig).alloc (zl _) (.cells #[.string (str (bC 97)),.string (str (bC 98))] 9)));clear hx hr;have HO2:=zH (EW LG.out uN.out.o1 (by decide) (.inl rfl) (ab2.out.cell (i:=0) rfl) 1 0 0 0 0 (by unfold In64; decide) (by unfold In64; decide) (by unfold In64; decide) (some ⟨Ig.heap.size,0,none⟩) 2 [bC 97,bC 98] HL2.out (fun b hb=>by obtain rfl:=zs hb; exact⟨by simp,.inl (.inr ⟨zl _,by simp⟩)⟩) (by simp) (fun x hx=>zT (Nat.le_of_eq (CZ x hx)) (by decide)) (congrArg Prod.fst uN.out.r2) (congrArg Prod.snd uN.out.r2));unfold dR at HO2;go_wp2_with fail;refine HO2.out.mono ?_;rintro e w4 ⟨rfl,hd,hk,hs⟩;have aeh:=zH (hd.sub (Q2:=fun b=>b=q) (fun b hb=>.inl hb));have ad8:=zH (show Bx w4 q 25 [.pointer (some ⟨p,0,none⟩)] from(hk q (.inl rfl)).trans ab2.out);clear hd hk hs;have ab3:=ad8;have EP:=zH (EW aeh.out uN.out.o2 (by decide) rfl (ab3.out.cell (i:=0) rfl) 2 0 0 0 0 (by unfold In64; decide) (by unfold In64; decide) (by unfold In64; decide) none 0 [] (dX.nil _) (fun b hb=>by cases hb) (by decide) (fun x hx=>by cases hx) (congrArg Prod.fst uN.out.r3) (congrArg Prod.snd uN.out.r3));unfold dR at EP;go_wp2_with fail;refine EP.out.mono ?_;rintro e w5 ⟨rfl,hd,hk,hs⟩;have aei:=zH (hd.sub (Q2:=fun b=>b=q) (fun b hb=>hb));have ab8:=zH (show Bx w5 q 25 [.pointer (some ⟨p,0,none⟩)] from(hk q rfl).trans ab3.out);clear hd hk hs;go_upto_region 7 with (fail)
 have hdr:=(zB w5.heap.size w5).drew;have aee:=zH (aei.out.below hdr);have ab7:=zH (ab8.out.call hdr);have qd:=ab7.out.cell (i:=0) rfl;have qw:=ab8.out.cell (i:=0) rfl;clear hdr
 go_cut [43] from 36 to 42 (fun v43 wx=>v43=.bool false/\Hid (qP w p pm s3 (fun b=>b=q) wx)/\Hid (Bx wx q 25 [.pointer (some ⟨p,0,none⟩)]))
 case first=>
  go_region_with (first
   | (go_at_call 29
      refine(lJ 99 w5.drew).mono ?_;rintro e wb ⟨rfl,hb⟩;have HDb:=zH (aee.out.below hb);have HBb:=zH (ab7.out.call hb);have qb:=HBb.out.cell (i:=0) rfl;have ql:=HBb.out.lt;obtain⟨hx,hr⟩:=HDb.out.lit [bC 99];have ZO:=zH (Sl hx uN.out.o3 (by decide) 1 1 0 0 0 (by unfold In64; decide) (by unfold In64; decide) (by unfold In64; decide) (some ⟨wb.heap.size,0,none⟩) 1 [bC 99] hr (fun b hb=>by obtain rfl:=zs hb; exact⟨by simp,.inl (.inr ⟨zl _,by simp⟩)⟩) (by simp) (fun x hx=>zT (Nat.le_of_eq (CZ x hx)) (by decide)));rw[uN.out.r4]at ZO;have HBl:=zH (HBb.out.call ((zB wb.heap.size wb).alloc (zl _) (.cells ([bC 99].map fun x=>Value.string (str x)).toArray 9)));unfold dR at ZO;clear hb hx hr)
   | (go_at_call 13
      refine ZO.out.mono ?_;rintro e wd ⟨⟨vb,vt,rfl,hrb,hrt,_⟩,hd,hk,hs⟩;obtain⟨ab,cb,rfl,_⟩:=dX.form hrb;obtain⟨at_,ct,rfl,_⟩:=bK.form hrt;have HDe:=zH (hd.sub (Q2:=fun b=>b=q) (fun b hb=>.inl hb));have HBe:=zH (show Bx wd q 25 [.pointer (some ⟨p,0,none⟩)] from(hk q (.inl rfl)).trans HBl.out);unfold dL Rp.sense;dsimp only[List.length_nil];have hfd:=fun W=>BP 6 1 0 false ab at_ 0 cb 0 ct W
      clear hd hk hs hrb hrt)
   | fail)
  all_goals
   go_wp2_with fail;go_meet;exact⟨rfl,HDe,HBe⟩
 case rest=>
  obtain⟨rfl,aek,aea⟩:=hcut;go_upto_region 9 with (fail)
  go_wp2_with fail;refine(lJ 99 wc).mono ?_;rintro e afo ⟨rfl,hb⟩;have ZR:=zH (aek.out.below hb);have ZL:=zH (aea.out.call hb);clear hb;go_wp2_with fail;refine(lJ 100 afo).mono ?_;rintro e Ii ⟨rfl,hb⟩;have ZT:=zH (ZR.out.below hb);have ZM:=zH (ZL.out.call hb);clear hb;obtain⟨hx,hr⟩:=ZT.out.lit [bC 99,bC 100];have HL4:Hid (gU (Ii.alloc (.cells #[.string (str (bC 99)),.string (str (bC 100))] 9)) (.slice (some ⟨Ii.heap.size,0,none⟩) 2 2) [bC 99,bC 100]):=zH hr;have ny:Hid (qP w p pm _ (fun b=>b=q\/(Ii.heap.size<=b/\b<(Ii.alloc (.cells #[.string (str (bC 99)),.string (str (bC 100))] 9)).heap.size)) (Ii.alloc (.cells #[.string (str (bC 99)),.string (str (bC 100))] 9))):=zH hx;have ab4:=zH (ZM.out.call ((zB Ii.heap.size Ii).alloc (zl _) (.cells #[.string (str (bC 99)),.string (str (bC 100))] 9)));clear hx hr;have HO4:=zH (EW ny.out uN.out.o3 (by decide) (.inl rfl) (ab4.out.cell (i:=0) rfl) 1 2 0 0 0 (by unfold In64; decide) (by unfold In64; decide) (by unfold In64; decide) (some ⟨Ii.heap.size,0,none⟩) 2 [bC 99,bC 100] HL4.out (fun b hb=>by obtain rfl:=zs hb; exact⟨by simp,.inl (.inr ⟨zl _,by simp⟩)⟩) (by simp) (fun x hx=>zT (Nat.le_of_eq (CZ x hx)) (by decide)) (congrArg Prod.fst uN.out.r5) (congrArg Prod.snd uN.out.r5));unfold dR at HO4;go_wp2_with fail;refine HO4.out.mono ?_;rintro e w7 ⟨rfl,hd,hk,hs⟩;have aej:=zH (hd.sub (Q2:=fun b=>b=q) (fun b hb=>.inl hb));have ad9:=zH (show Bx w7 q 25 [.pointer (some ⟨p,0,none⟩)] from(hk q (.inl rfl)).trans ab4.out);clear hd hk hs;have ab5:=ad9;have QY:=zH (EW aej.out uN.out.o5 (by decide) rfl (ab5.out.cell (i:=0) rfl) 8 0 1 0 0 (by unfold In64; decide) (by unfold In64; decide) (by unfold In64; decide) none 0 [] (dX.nil _) (fun b hb=>by cases hb) (by decide) (fun x hx=>by cases hx) (congrArg Prod.fst uN.out.r6) (congrArg Prod.snd uN.out.r6));unfold dR at QY;go_wp2_with fail;refine QY.out.mono ?_;rintro e w8 ⟨rfl,hd,hk,hs⟩;have acb:=zH (hd.sub (Q2:=fun b=>b=q) (fun b hb=>hb));have ab9:=zH (show Bx w8 q 25 [.pointer (some ⟨p,0,none⟩)] from(hk q rfl).trans ab5.out);clear hd hk hs;go_upto_region 11 with (fail)
  obtain⟨⟨vt8,vc8,X8,R8,hd8,_⟩,ac1,_⟩:=acb.out;have hcs:=hd8.cells;obtain⟨n0,hn0⟩:∃n,n=w8.heap.size:=⟨_,rfl⟩;have lD:=zH hn0;have abZ:=zH ac1;have HIM:Hid (∀W,Below n0 w8 W->Calls prog 12 #[.pointer (some ⟨p,0,none⟩)] W fun e w'=>∃g,e=.returned (.slice (some ⟨g,0,none⟩) 100 100)/\w'.ownsRow W.heap.size 9 1 (.slice (some ⟨g,0,none⟩) 100 100) 100 (fK wU (qV (lW s6.M) 100))/\Below W.heap.size W w'):=zH fun W hW=>by have:=Bh (acb.out.below (by rw[hn0]at hW; exact hW)) uN.out.o6;rw[uN.out.n]at this;exact this
  obtain⟨tl,htl⟩:∃l,l = [ta2]:=⟨_,rfl⟩;have HTL:=zH htl;obtain⟨cl,hcl⟩:∃c,c=s6.cl:=⟨_,rfl⟩;obtain⟨fin,hfin⟩:∃c,c=s6.fin:=⟨_,rfl⟩;have HTC:Hid (∀W,Below n0 w8 W->Calls prog 13 #[.pointer (some ⟨p,0,none⟩),dR 7 0 0 0 0 (.slice none 0 0)] W fun e w'=>∃a c,e=.returned (dL ⟨0,0,[],cl,fin,tl⟩ (.slice none 0 0) (.slice a tl.length c))/\aW w' (.slice a tl.length c) tl/\Below W.heap.size W w'):=zH fun W hW=>by
   have hW':Below w8.heap.size w8 W:=by rw[hn0]at hW; exact hW
   have htr:aW w8 vt8 tl:=by rw[htl,<-uN.out.tr]; exact hd8.tr
   rw[hcl,hfin];exact RZ ((hW'.cell (p:=⟨p,4,none⟩) hd8.box.lt).trans hcs.2.2.2.2.1) ((hW'.cell (p:=⟨p,5,none⟩) hd8.box.lt).trans hcs.2.2.2.2.2.1) ((hW'.cell (p:=⟨p,6,none⟩) hd8.box.lt).trans hcs.2.2.2.2.2.2.1) (aW.keep htr hW') (by rw[htl]; decide) 0 0 0 0 none 0 0
  have hqc:=ab9.out.cell (i:=0) rfl;have hql:=ab9.out.lt;have jD:Hid (∀W,Below n0 w8 W->W.cell? ⟨q,0,none⟩=some (.pointer (some ⟨p,0,none⟩))):=zH fun W hW=>(hW.cell (p:=⟨q,0,none⟩) (by rw[hn0]; exact hql)).trans hqc
  obtain⟨IM,hIM⟩:∃l,l=qV (lW s6.M) 100:=⟨_,rfl⟩;rw[<-hIM]at HIM;have HIE:=zH hIM;unfold dR dL at HTC;clear hd8 ac1 hcs hn0 htl hcl hfin hqc hql hIM;refine dw (by kernel_rfl) (aI n0 37 3 (fun W cs=>∃(a:Option Addr)(c:Nat),cs = [.int .i64 cl,.bool fin,.slice a tl.length c]/\aW W (.slice a tl.length c) tl)) (fun W=>Below n0 w8 W) (Wp p n0 cl fin tl IM) (fun _=>false) (by kernel_rfl) (fun W W' hR h=>h.trans hR.1) (N8 p n0 cl fin tl IM) ((zB _ _).drew) ⟨?s0,?s1,?s2,?s3,?s4,?s5,?s6,?s7,?s8,trivial⟩ ?_;all_goals first
   | (intro a W hc hsz hold ah
      clear hsz hold ah;refine ai rfl (ag rfl) ?_;refine aA aI.refl rfl fun K hK=>?_
      go_simp;exact hK)
   | skip
  try case s0=>
   intro a W hc hsz hold ah;have o1:a.tmps.getD 1 undef=.pointer (some ⟨q,0,none⟩):=hold 1 (by kernel_rfl);have z0:=jD.out W hc;clear hsz hold ah;refine ai rfl (ag rfl) ?_;refine aA (v:=.pointer (some ⟨p,0,none⟩)) aI.refl rfl fun K hK=>?_
   go_simp;exact hK
  try case s1=>
   intro a W hc hsz hold ah;have d0:=zV 57 (.pointer (some ⟨p,0,none⟩)) (ah 0 (by kernel_rfl) rfl _ rfl);have e0:=zq d0;clear hsz hold ah;refine ai rfl (ag rfl) ?_;refine gI fun K hK=>?_
   go_simp;refine(HIM.out W hc).mono ?_;rintro e w' ⟨g,rfl,ho,hb'⟩;exact hK _ _ (aI.call (by rw[lD.out]; exact hc.size) hb') ⟨g,rfl,jb ho (by rw[lD.out]; exact hc.size)⟩
  try case s2=>
   intro a W hc hsz hold ah;have o1:a.tmps.getD 1 undef=.pointer (some ⟨q,0,none⟩):=hold 1 (by kernel_rfl);have z0:=jD.out W hc;clear hsz hold ah;refine ai rfl (ag rfl) ?_;refine aA (v:=.pointer (some ⟨p,0,none⟩)) aI.refl rfl fun K hK=>?_
   go_simp;exact hK
  try case s3=>
   intro a W hc hsz hold ah;clear hsz hold ah;refine ai rfl (ag rfl) ?_;refine aA (v:=.agg #[.int .i64 7,.int .i64 0,.int .i64 0,.int .i64 0,.int .i64 0,.slice none 0 0]) aI.refl rfl fun K hK=>?_
   go_simp;exact hK
  try case s4=>
   intro a W hc hsz hold ah;have d2:=zV 59 (.pointer (some ⟨p,0,none⟩)) (ah 2 (by kernel_rfl) rfl _ rfl);have e2:=zq d2;have d3:=zV 60 (.agg #[.int .i64 7,.int .i64 0,.int .i64 0,.int .i64 0,.int .i64 0,.slice none 0 0]) (ah 3 (by kernel_rfl) rfl _ rfl);have e3:=zq d3;clear hsz hold ah;refine ai rfl (ag rfl) ?_;refine gI fun K hK=>?_
   go_simp;refine(HTC.out W hc).mono ?_;rintro e w' ⟨a,c,rfl,hr,hb'⟩;exact hK _ _ (aI.call (by rw[lD.out]; exact hc.size) hb') ⟨a,c,rfl,hr⟩
  try case s5=>
   intro a W hc hsz hold ah;have x4:=ah 4 (by kernel_rfl) rfl _ rfl;clear hsz hold ah;refine ai rfl (ag rfl) ?_;obtain⟨a2,c2,hv,hF⟩:=x4;replace hv:a.tmps.getD 61 undef=.agg #[.int .i64 0,.int .i64 0,.slice none 0 0,.int .i64 cl,.bool fin,.slice a2 tl.length c2]:=hv;have hfd:=fun W=>Nw 0 0 cl fin none a2 0 0 tl.length c2 W
   refine aA (v:=.agg #[.int .i64 cl,.bool fin,.slice a2 tl.length c2]) aI.refl ⟨a2,c2,rfl,hF⟩ fun K hK=>?_
   go_simp;exact hK
  try case s6=>
   intro a W hc hsz hold ah;clear hsz hold ah;refine ai rfl (ag rfl) ?_;refine bf (v:=.pointer (some ⟨W.heap.size,0,none⟩)) (aI.alloc (by rw[lD.out]; exact hc.size) (.cells #[.int .i64 0,.bool false,.slice none 0 0] 37)) ⟨W.heap.size,rfl,(by rw[lD.out]; exact hc.size),[.int .i64 0,.bool false,.slice none 0 0],rfl,Bx.new _ _ _⟩ fun K hK=>?_
   go_simp;exact hK
  try case s7=>
   intro a W hc hsz hold ah;have x1:=ah 1 (by kernel_rfl) rfl _ rfl;clear hsz hold ah;refine ai rfl (ag rfl) ?_;obtain⟨g,hv,hF⟩:=x1;replace hv:a.tmps.getD 58 undef=.slice (some ⟨g,0,none⟩) 100 100:=hv;replace hF:W.ownsRow n0 9 1 (a.tmps.getD 58 undef) 100 (fK wU IM):=hF;rw[hv]at hF;refine aA (v:=.slice (some ⟨g,0,none⟩) 100 100) aI.refl ⟨g,rfl,hF⟩ fun K hK=>?_
   go_simp;exact hK
  try case s8=>
   intro a W hc hsz hold ah;have x6:=ah 6 (by kernel_rfl) rfl _ rfl;have x5:=ah 5 (by kernel_rfl) rfl _ rfl;clear hsz hold ah;refine ai rfl (ag rfl) ?_;obtain⟨g,hg,hgB,cs,hl,hB⟩:=x6;replace hg:a.tmps.getD 5 undef=.pointer (some ⟨g,0,none⟩):=hg;have hlt:=hB.lt;have hf:=hB.free;have z0:∃v,W.cell? ⟨g,0,none⟩=some v:=⟨_,hB.cell (List.getElem?_eq_getElem (by rw[hl]; decide))⟩;obtain⟨u0,z0⟩:=z0;have z1:∃v,W.cell? ⟨g,1,none⟩=some v:=⟨_,hB.cell (List.getElem?_eq_getElem (by rw[hl]; decide))⟩;obtain⟨u1,z1⟩:=z1;have z2:∃v,W.cell? ⟨g,2,none⟩=some v:=⟨_,hB.cell (List.getElem?_eq_getElem (by rw[hl]; decide))⟩;obtain⟨u2,z2⟩:=z2;obtain⟨a2,c2,hv,hF⟩:=x5;replace hv:a.tmps.getD 62 undef=.agg #[.int .i64 cl,.bool fin,.slice a2 tl.length c2]:=hv;have hP:=(⟨a2,c2,rfl,aI.dW (aI.store (Φ:=fun _ _=>True) (t:=37) (B:=n0) (m:=3) (cs0:=[.int .i64 cl,.bool fin,.slice a2 tl.length c2]) hgB rfl ⟨cs,hl,hB⟩ trivial) (by decide) hF⟩:∃(a:Option Addr)(c:Nat),([.int .i64 cl,.bool fin,.slice a2 tl.length c2]:List Value) = [.int .i64 cl,.bool fin,.slice a tl.length c]/\aW (bg W g 0 [.int .i64 cl,.bool fin,.slice a2 tl.length c2]) (.slice a tl.length c) tl);refine bf (v:=undef) (aI.store (cs0:=[.int .i64 cl,.bool fin,.slice a2 tl.length c2]) hgB rfl ⟨cs,hl,hB⟩ hP) ⟨g,hg,hgB,[.int .i64 cl,.bool fin,.slice a2 tl.length c2],rfl,hB.full hl,hP⟩ fun K hK=>?_
   clear hB hl;go_simp;exact hK
  ·intro a W hC hd hsz hold hval;obtain⟨gi,hgi,hIO⟩:=hval 7 _ rfl rfl;replace hgi:a.tmps.getD 4 undef=.slice (some ⟨gi,0,none⟩) 100 100:=hgi;have d4:a.tmps.getD 4 undef=.slice (some ⟨gi,0,none⟩) 100 100:=hgi;have acT:W.ownsRow n0 9 1 (.slice (some ⟨gi,0,none⟩) 100 100) 100 (fK wU IM):=by rw[<-hgi]; exact hIO
   obtain⟨gt,hgt,hgB,cs,hcl,hcx,a2,c2,hcs,hF⟩:=hval 8 _ rfl rfl;have d5:a.tmps.getD 5 undef=.pointer (some ⟨gt,0,none⟩):=hgt;clear hgi hgt hIO;subst hcs;obtain⟨G,hG,ha⟩:=cO [4,5,57,58,59,60,61,62] (by kernel_rfl) hd hsz hold;simp only[hG]at d4 d5;rw[ha];clear ha hG hd hsz hold;simp only[bI,List.setIfInBounds_toArray,List.set,d4,d5];clear d4 d5;have hC:Below n0 w8 W:=hC;obtain rfl:=HTL.out;obtain⟨wz,rfl⟩:∃v,v=W:=⟨_,rfl⟩;obtain⟨bt,ot,kt⟩:=aeU.at hF;obtain⟨ha2,hrt⟩:=kt 0 (by decide);subst ha2;have hix0:=fun w'=>aH (P:=prog) underlying35 sizeTrack (a:=some ⟨bt,ot,none⟩) (n:=1) (cap:=c2) (k:=0) (b:=bt) (off:=ot) rfl (by decide) 0 rfl w'
   have HIX:Hid (∀W',(Instr.indexAt 35 (.slice (some ⟨bt,ot,none⟩) 1 c2) (.int .i64 0)).run prog W'=.ok (.pointer (some ⟨bt,ot,none⟩)) W'):=zH fun W'=>(hix0 W').trans (by simp)
   have ht4:wz.cell? ⟨bt,ot+4,none⟩=some (.int .i64 4):=hrt 4 _ rfl;have hg2:=hcx.cell (i:=2) rfl;have jD:Hid (∀W,Below wz.heap.size wz W->W.cell? ⟨gt,2,none⟩=some (.slice (some ⟨bt,ot,none⟩) 1 c2)/\W.cell? ⟨bt,ot+4,none⟩=some (.int .i64 4)):=zH fun W hW=>⟨(hW.cell (p:=⟨gt,2,none⟩) hcx.lt).trans hg2,(hW.cell (p:=⟨bt,ot+4,none⟩) (zc wz _ ht4)).trans ht4⟩
   have hlI:IM.length=100:=by rw[HIE.out,tZ]
   obtain⟨v5,h5,e5⟩:=U9 (P:=prog) underlying46 (by kernel_rfl:(prog.info? 9).map (·.size)=some 1) (dX.bM (d:=[]) (l:=IM) qM (by rw[hlI]; exact acT)) 5 (by rw[hlI]; decide);have xZ:Hid (∀W',(Instr.slice 46 (.slice (some ⟨gi,0,none⟩) 100 100) none (some (.int .i64 5)) none).run prog W'=.ok v5 W'):=zH fun W'=>e5 5 W' rfl
   have h5':gU wz v5 Jw:=bK.congr h5 fun i hi=>by
    have hi:i<5:=hi;have:bF [] Jw i=bF [] IM i:=by
     rw[HIE.out];have hi':i<100:=by omega
     have e1:bF [] (qV (lW s6.M) 100) i=lW s6.M i:=by simp[qV,bF,hi']
     rw[e1,uN.out.im i hi']
     match i,hi with
     | 0,_=>rfl
     | 1,_=>rfl
     | 2,_=>rfl
     | 3,_=>rfl
     | 4,_=>rfl
    show wU (bF [] Jw i)=wU (bF [] IM i);rw[this]
   have HST:Hid (∀W b,Below wz.heap.size wz W->Bx W b 9 (Jw.map fun x=>Value.string (str x))->Calls prog 14 #[v5,.slice (some ⟨b,0,none⟩) 5 5] W fun e w'=>e=.returned (.bool true)/\Below W.heap.size W w'):=zH fun W b hW hB=>Eu v5 (.slice (some ⟨b,0,none⟩) 5 5) Jw W (dX.keep h5' hW) (TW hB) (by decide)
   have CO:=zH (abZ.out.trans ((by rw[lD.out]at hC; exact hC:Below w8.heap.size w8 wz).mono abZ.out.size));clear kt hrt hix0 ht4 hg2 hlI h5 e5 h5' hC acT hF hcl hcx hval;go_upto_region 12 with (fail)
   refine cu (by kernel_rfl) (fun W W'=>Below W.heap.size W W') (fun W=>Below wz.heap.size wz W) (Wq gi gt bt ot c2 v5) (fun _=>false) (by kernel_rfl) (fun W W' hR h=>h.trans (hR.mono h.size)) (N9 gi gt bt ot c2 v5) ((zB _ _).drew) ⟨?_,?s1,?_,?_,?s4,?s5,?s6,?s7,?s8,?s9,?s10,?_,?_,?s13,?s14,?s15,?s16,?_,?_,?s19,?s20,?s21,?s22,?s23,?s24,?_,?_,trivial⟩ ?_;all_goals first
    | (intro a W hc hsz hold ah
       have o4:a.tmps.getD 4 undef=.slice (some ⟨gi,0,none⟩) 100 100:=hold 4 (by kernel_rfl);try have d1:=zV 64 (.int .i64 100) (ah 1 rfl rfl _ rfl)
       try have d2:=zV 65 (.bool true) (ah 2 rfl rfl _ rfl)
       try have d3:=zV 66 (.bool true) (ah 3 rfl rfl _ rfl)
       try have d10:=zV 73 (.bool true) (ah 10 rfl rfl _ rfl)
       try have d11:=zV 74 (.bool true) (ah 11 rfl rfl _ rfl)
       try have d12:=zV 75 (.bool true) (ah 12 rfl rfl _ rfl)
       try have d16:=zV 79 (.bool true) (ah 16 rfl rfl _ rfl)
       try have d17:=zV 80 (.bool true) (ah 17 rfl rfl _ rfl)
       try have d18:=zV 81 (.bool true) (ah 18 rfl rfl _ rfl)
       try have d24:=zV 87 (.bool true) (ah 24 rfl rfl _ rfl)
       try have d25:=zV 88 (.bool true) (ah 25 rfl rfl _ rfl)
       clear hsz hold ah;refine ai rfl (ag rfl) ?_;refine ak (zB _ _) rfl fun K hK=>?_
       go_simp;exact hK)
    | skip
   try case s1=>
    intro a W hc hsz hold ah;have d0:=zV 63 (.slice (some ⟨gi,0,none⟩) 100 100) (ah 0 (by kernel_rfl) rfl _ rfl);have e0:=zq d0;clear hsz hold ah;refine ai rfl (ag rfl) ?_;refine ak (v:=.int .i64 100) (zB _ _) rfl fun K hK=>?_
    go_simp;exact hK
   try case s4=>
    intro a W hc hsz hold ah;have o4:a.tmps.getD 4 undef=.slice (some ⟨gi,0,none⟩) 100 100:=hold 4 (by kernel_rfl);have g4:=zV 66 (.bool true) (ah 3 (by kernel_rfl) rfl _ rfl);clear hsz hold ah;refine ai rfl ((aS (want:=true) rfl rfl g4).trans rfl) ?_;clear g4;refine ak (v:=.slice (some ⟨gi,0,none⟩) 100 100) (zB _ _) rfl fun K hK=>?_
    go_simp;exact hK
   try case s5=>
    intro a W hc hsz hold ah;have d4:=zV 67 (.slice (some ⟨gi,0,none⟩) 100 100) (ah 4 (by kernel_rfl) rfl _ rfl);have g5:=zV 66 (.bool true) (ah 3 (by kernel_rfl) rfl _ rfl);have hs5:=xZ.out;clear hsz hold ah;refine ai rfl ((aS (want:=true) rfl rfl g5).trans rfl) ?_;clear g5;refine ak (v:=v5) (zB _ _) rfl fun K hK=>?_
    go_simp;exact hK
   try case s6=>
    intro a W hc hsz hold ah;have g6:=zV 66 (.bool true) (ah 3 (by kernel_rfl) rfl _ rfl);clear hsz hold ah;refine ai rfl ((aS (want:=true) rfl rfl g6).trans rfl) ?_;clear g6;refine di (v:=.string (str (bC 97))) (fun W' hb=>hb) (fun _=>rfl) fun K hK=>?_
    go_simp;refine(lJ 97 W).mono ?_;rintro e w' ⟨rfl,hb'⟩;exact hK _ hb'
   try case s7=>
    intro a W hc hsz hold ah;have g7:=zV 66 (.bool true) (ah 3 (by kernel_rfl) rfl _ rfl);clear hsz hold ah;refine ai rfl ((aS (want:=true) rfl rfl g7).trans rfl) ?_;clear g7;refine di (v:=.string (str (bC 98))) (fun W' hb=>hb) (fun _=>rfl) fun K hK=>?_
    go_simp;refine(lJ 98 W).mono ?_;rintro e w' ⟨rfl,hb'⟩;exact hK _ hb'
   try case s8=>
    intro a W hc hsz hold ah;have g8:=zV 66 (.bool true) (ah 3 (by kernel_rfl) rfl _ rfl);clear hsz hold ah;refine ai rfl ((aS (want:=true) rfl rfl g8).trans rfl) ?_;clear g8;refine di (v:=.string (str (bC 99))) (fun W' hb=>hb) (fun _=>rfl) fun K hK=>?_
    go_simp;refine(lJ 99 W).mono ?_;rintro e w' ⟨rfl,hb'⟩;exact hK _ hb'
   try case s9=>
    intro a W hc hsz hold ah;have d6:=zV 69 (.string (str (bC 97))) (ah 6 (by kernel_rfl) rfl _ rfl);have e6:=zq d6;have d7:=zV 70 (.string (str (bC 98))) (ah 7 (by kernel_rfl) rfl _ rfl);have e7:=zq d7;have d8:=zV 71 (.string (str (bC 99))) (ah 8 (by kernel_rfl) rfl _ rfl);have e8:=zq d8;have g9:=zV 66 (.bool true) (ah 3 (by kernel_rfl) rfl _ rfl);clear hsz hold ah;refine ai rfl ((aS (want:=true) rfl rfl g9).trans rfl) ?_;refine zU (v:=.slice (some ⟨W.heap.size,0,none⟩) 5 5) ((zB W.heap.size W).alloc (zl _) (.cells (Jw.map fun x=>Value.string (str x)).toArray 9)) ⟨W.heap.size,rfl,Bx.new W _ _⟩ fun K hK=>?_
    go_simp;exact hK
   try case s10=>
    intro a W hc hsz hold ah;have d5:=zV 68 v5 (ah 5 (by kernel_rfl) rfl _ rfl);have e5:=zq d5;have x9:=ah 9 (by kernel_rfl) rfl _ rfl;have g10:=zV 66 (.bool true) (ah 3 (by kernel_rfl) rfl _ rfl);clear hsz hold ah;refine ai rfl ((aS (want:=true) rfl rfl g10).trans rfl) ?_;obtain⟨b,hv,hB⟩:=x9;replace hv:a.tmps.getD 72 undef=.slice (some ⟨b,0,none⟩) 5 5:=hv;have hw:=zq hv;refine zS fun K hK=>?_
    go_simp;refine(HST.out W b hc hB).mono ?_;rintro e w' ⟨rfl,hb'⟩;exact hK _ _ hb' rfl
   try case s13=>
    intro a W hc hsz hold ah;have o5:a.tmps.getD 5 undef=.pointer (some ⟨gt,0,none⟩):=hold 5 (by kernel_rfl);have g13:=zV 75 (.bool true) (ah 12 (by kernel_rfl) rfl _ rfl);clear hsz hold ah;refine ai rfl ((aS (want:=true) rfl rfl g13).trans rfl) ?_;clear g13;refine ak (v:=.pointer (some ⟨gt,2,none⟩)) (zB _ _) rfl fun K hK=>?_
    go_simp;exact hK
   try case s14=>
    intro a W hc hsz hold ah;have d13:=zV 76 (.pointer (some ⟨gt,2,none⟩)) (ah 13 (by kernel_rfl) rfl _ rfl);have g14:=zV 75 (.bool true) (ah 12 (by kernel_rfl) rfl _ rfl);have z0:=(jD.out W hc).1;clear hsz hold ah;refine ai rfl ((aS (want:=true) rfl rfl g14).trans rfl) ?_;clear g14;refine ak (v:=.slice (some ⟨bt,ot,none⟩) 1 c2) (zB _ _) rfl fun K hK=>?_
    go_simp;exact hK
   try case s15=>
    intro a W hc hsz hold ah;have d14:=zV 77 (.slice (some ⟨bt,ot,none⟩) 1 c2) (ah 14 (by kernel_rfl) rfl _ rfl);have e14:=zq d14;have g15:=zV 75 (.bool true) (ah 12 (by kernel_rfl) rfl _ rfl);clear hsz hold ah;refine ai rfl ((aS (want:=true) rfl rfl g15).trans rfl) ?_;clear g15;refine ak (v:=.int .i64 1) (zB _ _) rfl fun K hK=>?_
    go_simp;exact hK
   try case s16=>
    intro a W hc hsz hold ah;have d15:=zV 78 (.int .i64 1) (ah 15 (by kernel_rfl) rfl _ rfl);have g16:=zV 75 (.bool true) (ah 12 (by kernel_rfl) rfl _ rfl);clear hsz hold ah;refine ai rfl ((aS (want:=true) rfl rfl g16).trans rfl) ?_;clear g16;refine ak (v:=.bool true) (zB _ _) rfl fun K hK=>?_
    go_simp;exact hK
   try case s19=>
    intro a W hc hsz hold ah;have o5:a.tmps.getD 5 undef=.pointer (some ⟨gt,0,none⟩):=hold 5 (by kernel_rfl);have g19:=zV 81 (.bool true) (ah 18 (by kernel_rfl) rfl _ rfl);clear hsz hold ah;refine ai rfl ((aS (want:=true) rfl rfl g19).trans rfl) ?_;clear g19;refine ak (v:=.pointer (some ⟨gt,2,none⟩)) (zB _ _) rfl fun K hK=>?_
    go_simp;exact hK
   try case s20=>
    intro a W hc hsz hold ah;have d19:=zV 82 (.pointer (some ⟨gt,2,none⟩)) (ah 19 (by kernel_rfl) rfl _ rfl);have g20:=zV 81 (.bool true) (ah 18 (by kernel_rfl) rfl _ rfl);have z0:=(jD.out W hc).1;clear hsz hold ah;refine ai rfl ((aS (want:=true) rfl rfl g20).trans rfl) ?_;clear g20;refine ak (v:=.slice (some ⟨bt,ot,none⟩) 1 c2) (zB _ _) rfl fun K hK=>?_
    go_simp;exact hK
   try case s21=>
    intro a W hc hsz hold ah;have d20:=zV 83 (.slice (some ⟨bt,ot,none⟩) 1 c2) (ah 20 (by kernel_rfl) rfl _ rfl);have g21:=zV 81 (.bool true) (ah 18 (by kernel_rfl) rfl _ rfl);have hix:=HIX.out;clear hsz hold ah;refine ai rfl ((aS (want:=true) rfl rfl g21).trans rfl) ?_;clear g21;refine ak (v:=.pointer (some ⟨bt,ot,none⟩)) (zB _ _) rfl fun K hK=>?_
    go_simp;exact hK
   try case s22=>
    intro a W hc hsz hold ah;have d21:=zV 84 (.pointer (some ⟨bt,ot,none⟩)) (ah 21 (by kernel_rfl) rfl _ rfl);have g22:=zV 81 (.bool true) (ah 18 (by kernel_rfl) rfl _ rfl);clear hsz hold ah;refine ai rfl ((aS (want:=true) rfl rfl g22).trans rfl) ?_;clear g22;refine ak (v:=.pointer (some ⟨bt,ot+4,none⟩)) (zB _ _) rfl fun K hK=>?_
    go_simp;exact hK
   try case s23=>
    intro a W hc hsz hold ah;have d22:=zV 85 (.pointer (some ⟨bt,ot+4,none⟩)) (ah 22 (by kernel_rfl) rfl _ rfl);have g23:=zV 81 (.bool true) (ah 18 (by kernel_rfl) rfl _ rfl);have z0:=(jD.out W hc).2;clear hsz hold ah;refine ai rfl ((aS (want:=true) rfl rfl g23).trans rfl) ?_;clear g23;refine ak (v:=.int .i64 4) (zB _ _) rfl fun K hK=>?_
    go_simp;exact hK
   try case s24=>
    intro a W hc hsz hold ah;have d23:=zV 86 (.int .i64 4) (ah 23 (by kernel_rfl) rfl _ rfl);have g24:=zV 81 (.bool true) (ah 18 (by kernel_rfl) rfl _ rfl);clear hsz hold ah;refine ai rfl ((aS (want:=true) rfl rfl g24).trans rfl) ?_;clear g24;refine ak (v:=.bool true) (zB _ _) rfl fun K hK=>?_
    go_simp;exact hK
   ·intro a W hC hd hsz hold hval;have d0:a.tmps.getD 0 undef=.bool true:=hval 26 _ rfl rfl;obtain⟨G,hG,ha⟩:=cO [0,63,64,65,66,67,68,69,70,71,72,73,74,75,76,77,78,79,80,81,82,83,84,85,86,87,88] (by kernel_rfl) hd hsz hold;simp only[hG]at d0;rw[ha];clear ha hG hd hsz hold;simp only[bI,List.setIfInBounds_toArray,List.set,d0];clear d0;have hC:Below wz.heap.size wz W:=hC;have HE:=zH (CO.out.trans (hC.mono CO.out.size));clear hC hval;go_wp2_with fail;go_ret;exact⟨rfl,HE.out⟩
end T7
end Go.Proofs.YtfnehkmhcmkhjaaGreat
