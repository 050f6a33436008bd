/- Parts -/
import Derived.Test.YtfnehkmhcmkhjaaGreatDu18
import Derived.Test.YtfnehkmhcmkhjaaGreatDu11
import Derived.RegionTactic
import Derived.BigRegion
set_option maxRecDepth 100000
set_option maxHeartbeats 8000000
set_option linter.unusedVariables false
namespace Go.Proofs.YtfnehkmhcmkhjaaGreat
open Tryz
namespace E1
open Go.RowKit Ih
theorem alA(k:Nat)(a:Int):fD k [a]=(gQ a k).1:=by simp[fD]
theorem alB(k:Nat)(a b:Int):fD k [a,b]=(gQ a k).1++(gQ b k).1:=by simp[fD]
theorem flat3(k:Nat)(a b c:Int):fD k [a,b,c]=(gQ a k).1++((gQ b k).1++(gQ c k).1):=by simp[fD]
def part(q cl:Int)(fin:Bool)(l:List T.ax)(i:Nat):List UInt8:=Jo q cl fin l.length++(l.take i).flatMap lW
theorem aaD{q cl:Int}{fin:Bool}{l:List T.ax}{i:Nat}(h:i<l.length):part q cl fin l (i+1)=part q cl fin l i++lW (T.tr l i):=by unfold part;rw[List.take_add_one,Vk];simp[T.tr,Ye h]
theorem ahf(q cl:Int)(fin:Bool)(l:List T.ax)(i:Nat):(part q cl fin l i).length<=14+20*i:=by have h1:=Wp q cl fin l.length;have h2:=Wi (l.take i);rw[Yk]at h2;unfold part;rw[Yb];omega
theorem ad9(q cl:Int)(fin:Bool)(l:List T.ax):part q cl fin l l.length=oL q cl fin l:=by unfold part oL;rw[YD]
theorem aaE(q cl:Int)(fin:Bool)(l:List T.ax):([80,77,65,49]++fD 4 [q])++fD 2 [cl,fn fin,l.length]=part q cl fin l 0:=by simp[part,Jo,alA,flat3,b2,b4]
theorem abC(S:List UInt8)(x:T.ax):((S++fD 2 [x.num,x.dm])++fD 4 [x.st,x.len,x.nx])++fD 2 [x.dZ,x.pk]=S++lW x:=by simp[lW,alB,flat3,b2,b4]
theorem MI(k:Nat)(xs:List Int){S:List UInt8}{m:Nat}(h:S.length<=m)(n:Nat)(hn:xs.length=n):(S++fD k xs).length<=m+k*n:=by have:=EF k xs;rw[Yb];rw[hn]at this;omega
theorem Eo(q cl:Int)(fin:Bool)(sv:Value)(l:List T.ax)(w:World)(hr:bQ w sv l)(hf:KA l)(hq:q<=9223372036854775807)(hcl:cl<=9223372036854775807):
 Calls prog 247 #[aN cl fin sv,.int .i64 q] w λe w'=>e=.returned (.string (str (dV q cl fin l)))/\Below w.heap.size w w':=by
 have HR:=zH hr;obtain⟨a,c,b,off,rfl,hac,hcell⟩:=hr;have HC:=zH hcell;clear hcell;have hln:=hf.1;have HF:=zH hf.2;clear hf;have vH:RN w cl fin (.slice a l.length c) [80,77,65,49] ((w.alloc (.cells #[.int .i64 cl,.bool fin,.slice a l.length c] 37)).alloc (.cells #[.string {data:=#[80,77,65,49]}] 9)):=
  ⟨(Bx.new w _ _).alloc _,by have:=Bx.new (w.alloc (.cells #[.int .i64 cl,.bool fin,.slice a l.length c] 37)) 9 [.string (str [80,77,65,49])];rw[Yl]at this;exact this,((zB _ _).alloc (zl _) _).alloc (by simp) _⟩
 have PR:(l.length:Int)<=9223372036854775807:=by omega
 have HP0:=zH (aaE q cl fin l);go_enter func247,ntmps247;go_upto_region 2 with (fail)
 generalize (w.alloc (.cells #[.int .i64 cl,.bool fin,.slice a l.length c] 37)).alloc (.cells #[.string {data:=#[80,77,65,49]}] 9)=w1 at vH ⊢;obtain⟨ht0,ht1,ht2,hlt1⟩:=vH.facts;rcases Bool.eq_false_or_eq_true fin with hF|hF
 all_goals
  go_wp2_with fail;have HFN:=zH (Yp fn hF);clear hF;refine(VJ vH [q] 1 rfl (by omega) (by simpa using hq) (by simp)).mono ?_;rintro e w2 ⟨rfl,HS2,_⟩;clear ht0 ht1 ht2 hlt1 vH;have hL2:=MI 4 [q] (S:=[80,77,65,49]) (m:=4) (zl _) 1 rfl;obtain⟨ht0,ht1,ht2,hlt1⟩:=HS2.facts;go_wp2_with fail;refine(KL HS2 [cl,_,l.length] 3 rfl (by omega) (by simp;omega) (by omega)).mono ?_;rintro e w3 ⟨rfl,zY,_⟩;replace zY:RN w cl fin (.slice a l.length c) (part q cl fin l 0) w3:=by rw[<-HP0.out,HFN.out];exact zY
  clear ht0 ht1 ht2 hlt1 HS2 hL2 HP0;obtain⟨ht0,ht1,ht2,hlt1⟩:=zY.facts;go_wp2_with fail;clear ht0 ht1 ht2 hlt1
  go_loopw [29] (λvi wr=>∃i:Nat,i<=l.length/\vi=.int .i64 i/\RN w cl fin (.slice a l.length c) (part q cl fin l i) wr) (λvi _=>l.length-(RowKit.intOf vi).toNat)
  case atStart=>exact⟨0,by omega,rfl,zY⟩
  case round=>
   clear zY;obtain⟨i,hi,rfl,HS⟩:=hrel;by_cases hlt:i<l.length
   ·obtain⟨ha,hrange⟩:=HC.out i hlt;have HP:=zH ((abC (part q cl fin l i) (T.tr l i)).trans (aaD (q:=q) (cl:=cl) (fin:=fin) hlt).symm);have hpl:=ahf q cl fin l i;obtain⟨S2,hS2⟩:∃S2,S2=part q cl fin l (i+1):=⟨_,rfl⟩;rw[<-hS2]at HP;have HS2:=zH hS2;clear hS2;generalize part q cl fin l i=S at HP hpl HS;have hsm:=HF.out i hlt;generalize T.tr l i=x at *;have hix:=λw'=>aB underlying35 sizeTrack (cap:=c) ha hlt _ rfl w'
    have hrg:wr.rangeAt b (off+i*7) (kK x):=λj u hu=>(HS.le.cell (p:=⟨b,off+i*7+j,none⟩) (zc w _ (hrange j u hu))).trans (hrange j u hu)
    clear hrange;obtain⟨hc0,hc1,hc2,hc3,hc4,hc5,hc6⟩:=Oh hrg;obtain⟨ht0,ht1,ht2,hlt1⟩:=HS.facts;have Ha:=zH ha;clear ha hrg;unfold zQ sm at hsm;obtain⟨s1,s2,s3,s4,s5,s6,s7⟩:=hsm;go_upto_region 11 with (fail)
    have HX:Bx (wr.alloc (.cells #[.int .i64 x.num,.int .i64 x.dm,.int .i64 x.st,.int .i64 x.len,.int .i64 x.nx,.int .i64 x.dZ,.int .i64 x.pk] 94)) wr.heap.size 94 (kK x):=Bx.new _ _ (kK x);have KE:=HS.call ((zB wr.heap.size wr).alloc (zl _) (.cells #[.int .i64 x.num,.int .i64 x.dm,.int .i64 x.st,.int .i64 x.len,.int .i64 x.nx,.int .i64 x.dZ,.int .i64 x.pk] 94));obtain⟨g,hg⟩:∃g,g=wr.heap.size:=⟨_,rfl⟩;have hgx:g≠w.heap.size+1:=by omega
    simp only[<-hg];rw[<-hg]at HX;generalize wr.alloc (.cells #[.int .i64 x.num,.int .i64 x.dm,.int .i64 x.st,.int .i64 x.len,.int .i64 x.nx,.int .i64 x.dZ,.int .i64 x.pk] 94)=w5 at HX KE ⊢;clear ht0 ht1 ht2 hlt1 hc0 hc1 hc2 hc3 hc4 hc5 hc6 hix HS hg;have hx0:=HX.cell (i:=0) rfl;have hx1:=HX.cell (i:=1) rfl;go_wp2_with fail;refine(KL KE [x.num,x.dm] 2 rfl (by omega) (by simp;omega) (by omega)).mono ?_;rintro e w6 ⟨rfl,zZ,hk6⟩;have RH:=hk6 _ _ _ HX hgx;have hL6:=MI 2 [x.num,x.dm] hpl 2 rfl;clear hx0 hx1 HX KE hk6;have hx2:=RH.cell (i:=2) rfl;have hx3:=RH.cell (i:=3) rfl;have hx4:=RH.cell (i:=4) rfl;go_wp2_with fail;refine(VJ zZ [x.st,x.len,x.nx] 3 rfl (by omega) (by simp;omega) (by omega)).mono ?_;rintro e w7 ⟨rfl,HS7,hk7⟩;have Ou:=hk7 _ _ _ RH hgx;have hL7:=MI 4 [x.st,x.len,x.nx] hL6 3 rfl;clear hx2 hx3 hx4 RH zZ hk7;have hx5:=Ou.cell (i:=5) rfl;have hx6:=Ou.cell (i:=6) rfl;go_wp2_with fail;refine(KL HS7 [x.dZ,x.pk] 2 rfl (by omega) (by simp;omega) (by omega)).mono ?_;rintro e w8 ⟨rfl,HS8,hk8⟩;replace HS8:RN w cl fin (.slice a l.length c) S2 w8:=by rw[<-HP.out];exact HS8
    clear hx5 hx6 Ou HS7 hk8 hL6 hL7;go_wp2_with fail;go_roundw;case rel=>exact⟨i+1,by omega,by go_num,by rw[<-HS2.out];exact HS8⟩
    case measure=>simp[RowKit.intOf];omega
   ·obtain rfl:i=l.length:=by omega
    rw[ad9]at HS;have hbl:=VM q cl fin l;have HE:Hid (dV q cl fin l=oL q cl fin l++vI (C.crc 0 (oL q cl fin l))):=zH rfl;generalize oL q cl fin l=S at HS HE hbl;have hcr:=C.S9 (c:=0) (by omega) S;have hsz1:=au S;have HCR:Hid (∀W,Calls prog 115 #[.string (str S)] W λe w'=>e=.returned (.int .u16 (C.crc 0 S:Nat))/\Below W.heap.size W w'):=zH λW=>by
     have:=afP (str S) W (by omega);have e:(str S).data.toList=S:=by simp[str]
     rw[e]at this;exact this
    generalize C.crc 0 S=z at HCR HE hcr;have HCB:=zH (λW=>Le z W hcr);have hsz2:=au (vI z);have hz2:(vI z).length=2:=rfl;rw[hz2]at hsz2;generalize vI z=Z at *;have hnl:¬ 9223372036854775807<S.length+2:=by omega
    go_wp2_with fail;obtain⟨g,hg⟩:∃g,g=w.heap.size+1:=⟨_,rfl⟩;have hs0:=HS.s.cell (i:=0) rfl;have hgl:=HS.s.lt;rw[<-hg]at hs0 hgl;simp only[<-hg];have HSS:Hid (∀W,Below wr.heap.size wr W->Below wr.heap.size wr W/\W.cell? ⟨g,0,none⟩=some (.string (str S))):=zH λW hW=>⟨hW,(hW.cell (p:=⟨g,0,none⟩) hgl).trans hs0⟩
    have lQ:=zH HS.le;have HG:=zH hg;clear hs0 HS hg hz2 hbl
    go_region_held3 (λW=>Below wr.heap.size wr W/\W.cell? ⟨g,0,none⟩=some (.string (str S)))
     (first|exact HSS.out _ ((zB _ _).drew)|exact HSS.out _ ‹_›)
     (first
      |(go_at_call 115;refine(HCR.out _).mono ?_;rintro e w8 ⟨rfl,hb8⟩;have xB:=(And.left ‹Below wr.heap.size wr _/\_›).trans (hb8.mono (And.left ‹Below wr.heap.size wr _/\_›).size))
      |(go_at_call 114;refine(HCB.out _).mono ?_;rintro e w8 ⟨rfl,hb8⟩;have xB:=(And.left ‹Below wr.heap.size wr _/\_›).trans (hb8.mono (And.left ‹Below wr.heap.size wr _/\_›).size)))
    all_goals
     have xB:=And.left ‹Below wr.heap.size wr _/\_›;go_wp2_with fail;go_ret;refine⟨?_,lQ.out.trans (xB.mono lQ.out.size)⟩;rw[HE.out,<-DC];rfl
def iE(cap q cl:Int)(fin:Bool)(l:List T.ax):List UInt8×Int:=
 if T.az cap cl fin l=false then([],1) else if 0<=q/\q<=2147483647 then(dV q cl fin l,0) else([],2)
def Om(r:List UInt8×Int)(w:World)(e:Ending)(w':World):Prop:=e=.returned (.tuple #[.string (str r.1),.int .i64 r.2])/\Below w.heap.size w w'
def Fine(l:List T.ax):Prop:=KA l\/(99<l.length/\l.length<=1000)
theorem oG(cap cl:Int)(fin:Bool)(sv:Value)(l:List T.ax)(w:World)(hr:bQ w sv l)(hf:Fine l):
 Calls prog 164 #[.int .i64 cap,aN cl fin sv] w (RB (T.az cap cl fin l) w):=by
 rcases hf with hf|hf
 ·exact gY cap cl fin sv l w hr hf
 ·exact J8 cap cl fin sv l w hr (λh=>by omega) (by omega)
theorem abH{cap cl:Int}{fin:Bool}{l:List T.ax}(h:T.az cap cl fin l=true):l.length<=99:=(T.bz.1 h).2.2.1
theorem acU{l:List T.ax}(hf:Fine l)(h:l.length<=99):KA l:=by
 rcases hf with hf|hf
 ·exact hf
 ·omega
theorem oM(cap q cl:Int)(fin:Bool)(sv:Value)(l:List T.ax)(w:World)(hr:bQ w sv l)(hf:Fine l)(hcl:cl<=9223372036854775807):
 Calls prog 166 #[.int .i64 cap,aN cl fin sv,.int .i64 q] w (Om (iE cap q cl fin l) w):=by
 have hbe:=(zB w.heap.size w).alloc (zl _) (.cells #[.int .i64 cl,.bool fin,sv] 37);have hB:=Bx.new w 37 [.int .i64 cl,.bool fin,sv];have HV:=zH (oG cap cl fin sv l _ (hr.keep hbe) hf);unfold iE;cases hv:T.az cap cl fin l with
 | false=>
   rw[zj rfl];rw[hv]at HV;obtain⟨a,c,rfl,hac⟩:=dU.form hr;clear hv hB;go_enter func166,ntmps166;go_wp2_with fail;refine HV.out.mono ?_;rintro e w1 ⟨rfl,hb⟩;go_wp2_with fail;go_ret2;exact⟨rfl,hbe.trans (hb.mono hbe.size)⟩
 | true=>
   rw[zi (by decide)];have hfew:=acU hf (abH hv);rw[hv]at HV;clear hv;by_cases hq:0<=q/\q<=2147483647
   ·rw[zj hq];have HE:=zH (λW hW=>Eo q cl fin sv l W hW hfew (by omega) hcl);have HR:=zH hr;obtain⟨a,c,rfl,hac⟩:=dU.form hr;have hq0:=hq.1;have hq1:=hq.2;have hq2:¬ q<0:=by omega
    have hq3:¬ 2147483647<q:=by omega
    generalize dV q cl fin l=E at HE ⊢;have Hbe:=zH hbe;clear hq hfew hr hbe;go_enter func166,ntmps166;go_wp2_with fail;refine HV.out.mono ?_;rintro e w1 ⟨rfl,hb⟩;have hB1:Bx w1 w.heap.size 37 [.int .i64 cl,.bool fin,.slice a l.length c]:=hB.call hb;have c0:=hB1.cell (i:=0) rfl;have c1:=hB1.cell (i:=1) rfl;have c2:=hB1.cell (i:=2) rfl;have hle:=Hbe.out.trans (hb.mono Hbe.out.size);have HE2:=zH (HE.out w1 (HR.out.keep hle));clear hb hB1 hB;go_wp2_with fail;refine HE2.out.mono ?_;rintro e w2 ⟨rfl,hb2⟩;go_wp2_with fail;go_ret2;exact⟨rfl,hle.trans (hb2.mono hle.size)⟩
   ·rw[zi hq];obtain⟨a,c,rfl,hac⟩:=dU.form hr;have Hbe:=zH hbe;clear hbe hB;by_cases h0:q<0
    ·clear hq;go_enter func166,ntmps166;go_wp2_with fail;refine HV.out.mono ?_;rintro e w1 ⟨rfl,hb⟩;go_wp2_with fail;go_ret2;exact⟨rfl,Hbe.out.trans (hb.mono Hbe.out.size)⟩
    ·have h1:2147483647<q:=by omega
     clear hq;go_enter func166,ntmps166;go_wp2_with fail;refine HV.out.mono ?_;rintro e w1 ⟨rfl,hb⟩;go_wp2_with fail;go_ret2;exact⟨rfl,Hbe.out.trans (hb.mono Hbe.out.size)⟩
def One(b:Nat)(w w':World):Prop:=Below b w w'/\∀k,k<w.heap.size->k≠b->w'.heap[k]? = w.heap[k]?
theorem FH{w w':World}{base e size n:Nat}{v:Value}{xs:List Value}(h:w.ownsRow base e size v n xs)(hb:∀k,base<=k->k<w.heap.size->w'.heap[k]? = w.heap[k]?):w'.ownsRow base e size v n xs:=by
 refine⟨h.1,?_⟩;rcases h.2 with h2|⟨g,cap,cur,h1,h2,h3,h4⟩
 ·exact .inl h2
 ·exact .inr ⟨g,cap,cur,h1,h2,(hb g h2 (Yd.1 h3).1).trans h3,h4⟩
theorem D9{b g:Nat}{w w':World}{t:TypeId}{cs:List Value}(h:Bx w g t cs)(hb:One b w w')(hne:g≠b):Bx w' g t cs:=(hb.2 g h.lt hne).trans h
theorem One.then{b:Nat}{w w1 w2:World}(h:One b w w1)(hlt:b<=w.heap.size)(hb:Below w1.heap.size w1 w2):One b w w2:=
 ⟨h.1.trans (hb.mono (zT hlt h.1.size)),λk hk hne=>(hb.block k (zL hk h.1.size)).trans (h.2 k hk hne)⟩
def ala(l:List UInt8)(o size gA:Nat)(w:World)(e:Ending)(w':World):Prop:=
 e=.returned (.int .i64 (dO l o size))/\Bx w' gA 3 [.int .i64 ((o+size:Nat):Int)]/\One gA w w'
theorem next_any(l:List UInt8)(o size:Nat)(x:Int)(gS gA:Nat)(w:World)(hs:Bx w gS 9 [.string (str l)])(ha:Bx w gA 3 [.int .i64 (o:Int)])(hx:x=size)(h1:1<=size)(h4:size<=4)(ho:o<=100000)(hl:l.length<=1000000)(hne:gS≠gA):
 Calls prog 317 #[.int .i64 x,.pointer (some ⟨gS,0,none⟩),.pointer (some ⟨gA,0,none⟩)] w (ala l o size gA w):=by
 have HR:=zH (λW=>QV l o size x (o:Int) W rfl hx h1 h4 (by omega) hl);subst hx;have hs0:=hs.cell (i:=0) rfl;have ha0:=ha.cell (i:=0) rfl;have Ha:=zH ha;have hlt:=ha.lt;clear hs ha;go_enter func317,ntmps317;go_wp2_with fail;refine(HR.out _).mono ?_;rintro e w1 ⟨rfl,hb⟩;have hA1:Bx w1 gA 3 [.int .i64 (o:Int)]:=Ha.out.call hb;have ha1:=hA1.cell (i:=0) rfl;have hf1:=hA1.free;clear hs0 ha0;go_wp2_with fail;go_ret;have h9:Below gA w w1:=hb.mono (by omega);refine⟨rfl,?_,h9.setCell (p:=⟨gA,0,none⟩) (zl _) _,λk hk hne2=>?_⟩
 ·have h:=hA1.set 0 (.int .i64 ((o+size:Nat):Int));rw[Int.natCast_add]at h ⊢;exact h
 ·rw[zh _ _ _ _ hne2];exact hb.block k hk
structure uF (w0:World) (gT:Nat) (l:List UInt8) (o:Nat) (cl:Int) (fin:Bool) (v:Value) (W:World):Prop where
 s:Bx W w0.heap.size 9 [.string (str l)]
 z:Bx W (w0.heap.size+1) 37 [.int .i64 0,.bool false,.slice none 0 0]
 a:Bx W (w0.heap.size+2) 3 [.int .i64 (o:Int)]
 t:Bx W gT 37 [.int .i64 cl,.bool fin,v]
 le:Below w0.heap.size w0 W
 g:w0.heap.size+2<gT
theorem uF.one{w0:World}{gT:Nat}{l:List UInt8}{o o':Nat}{cl:Int}{fin:Bool}{v:Value}{W W':World}(h:uF w0 gT l o cl fin v W)(hb:One (w0.heap.size+2) W W')(ha:Bx W' (w0.heap.size+2) 3 [.int .i64 (o':Int)]):uF w0 gT l o' cl fin v W':=
 ⟨D9 h.s hb (by omega),D9 h.z hb (by omega),ha,D9 h.t hb (by have:=h.g;omega),h.le.trans (hb.1.mono (by omega)),h.g⟩
theorem uF.call{w0:World}{gT:Nat}{l:List UInt8}{o:Nat}{cl:Int}{fin:Bool}{v:Value}{W W':World}(h:uF w0 gT l o cl fin v W)(hb:Below W.heap.size W W'):uF w0 gT l o cl fin v W':=
 ⟨h.s.call hb,h.z.call hb,h.a.call hb,h.t.call hb,h.le.trans (hb.mono h.le.size),h.g⟩
theorem uF.own{w0:World}{gT:Nat}{l:List UInt8}{o:Nat}{cl:Int}{fin:Bool}{v:Value}{W W':World}(h:uF w0 gT l o cl fin v W)(hb:Below (gT+1) W W'):uF w0 gT l o cl fin v W':=
 have:=h.g
 ⟨h.s.jm hb (by omega),h.z.jm hb (by omega),h.a.jm hb (by omega),h.t.jm hb (by omega),h.le.trans (hb.mono (by omega)),h.g⟩
theorem uF.put{w0:World}{gT:Nat}{l:List UInt8}{o:Nat}{cl:Int}{fin:Bool}{v:Value}{W:World}(h:uF w0 gT l o cl fin v W)(v':Value):uF w0 gT l o cl fin v' (W.setCell ⟨gT,2,none⟩ v'):=
 have:=h.g
 ⟨h.s.far (by simp only;omega) _,h.z.far (by simp only;omega) _,h.a.far (by simp only;omega) _,h.t.set 2 v',h.le.setCell (by simp only;omega) _,h.g⟩
theorem uF.drew{w0:World}{gT:Nat}{l:List UInt8}{o:Nat}{cl:Int}{fin:Bool}{v:Value}{W:World}(h:uF w0 gT l o cl fin v W):uF w0 gT l o cl fin v W.drew:=⟨h.s,h.z,h.a,h.t,h.le.drew,h.g⟩
structure Dc3 (w0:World) (l:List UInt8) (o:Nat) (W:World):Prop where
 s:Bx W w0.heap.size 9 [.string (str l)]
 z:Bx W (w0.heap.size+1) 37 [.int .i64 0,.bool false,.slice none 0 0]
 a:Bx W (w0.heap.size+2) 3 [.int .i64 (o:Int)]
 le:Below w0.heap.size w0 W
theorem Ap{w0 W:World}{l:List UInt8}{o:Nat}(h:Dc3 w0 l o W)(size:Nat)(x:Int)(hx:x=size)(h1:1<=size)(h4:size<=4)(ho:o<=100000)(hl:l.length<=1000000):
 Calls prog 317 #[.int .i64 x,.pointer (some ⟨w0.heap.size,0,none⟩),.pointer (some ⟨w0.heap.size+2,0,none⟩)] W λe w'=>e=.returned (.int .i64 (dO l o size))/\Dc3 w0 l (o+size) w':=
 (next_any l o size x _ _ W h.s h.a hx h1 h4 ho hl (by omega)).mono λe w' ⟨h1,h2,h3⟩=>⟨h1,D9 h.s h3 (by omega),D9 h.z h3 (by omega),h2,h.le.trans (h3.1.mono (by omega))⟩
theorem rD{w0 W:World}{gT:Nat}{l:List UInt8}{o:Nat}{cl:Int}{fin:Bool}{v:Value}(h:uF w0 gT l o cl fin v W)(size:Nat)(x:Int)(hx:x=size)(h1:1<=size)(h4:size<=4)(ho:o<=100000)(hl:l.length<=1000000):
 Calls prog 317 #[.int .i64 x,.pointer (some ⟨w0.heap.size,0,none⟩),.pointer (some ⟨w0.heap.size+2,0,none⟩)] W λe w'=>e=.returned (.int .i64 (dO l o size))/\uF w0 gT l (o+size) cl fin v w'/\One (w0.heap.size+2) W w':=
 (next_any l o size x _ _ W h.s h.a hx h1 h4 ho hl (by omega)).mono λe w' ⟨h1,h2,h3⟩=>⟨h1,h.one h3 h2,h3⟩
def amE:Nat->Nat
 |0=>0
 |1=>2
 |2=>4
 |3=>8
 |4=>12
 |5=>16
 |6=>18
 |_=>20
def Oj(w0:World)(gT:Nat)(H0:Nat)(l:List UInt8)(o:Nat)(cl:Int)(fin:Bool)(vv:Value)(ts:List T.ax)(n:Nat)(r:Nat)(W:World):Prop:=
 (r<=8->uF w0 gT l (o+amE r) cl fin vv W)/\(r<=7->W.ownsRow (gT+1) 94 7 vv n (fH kK ts))/\(r=9->∃v',uF w0 gT l (o+20) cl fin v' W/\W.ownsRow (gT+1) 94 7 v' (n+1) (fH kK (ts++[rW l o])))/\H0<=W.heap.size
def Kw(H0 base n:Nat)(xs:List Value)(r:Nat)(w W:World):Prop:=
 (∀k,H0<=k->k<w.heap.size->W.heap[k]? = w.heap[k]?)/\w.heap.size<=W.heap.size/\(8<=r->∀v',w.ownsRow base 94 7 v' n xs->W.ownsRow base 94 7 v' n xs)
theorem Kw.refl(H0 base n:Nat)(xs:List Value)(r:Nat)(w:World):Kw H0 base n xs r w w:=⟨λ_ _ _=>rfl,zl _,λ_ _ h=>h⟩
theorem Kw.call{H0 base n:Nat}{xs:List Value}{r:Nat}{w W:World}(hb:Below w.heap.size w W):Kw H0 base n xs r w W:=⟨λk _ h=>hb.block k h,hb.size,λ_ _ h=>aV h hb⟩
theorem Kw.one{H0 base n b:Nat}{xs:List Value}{r:Nat}{w W:World}(hb:One b w W)(h0:b<H0)(h1:b<base):Kw H0 base n xs r w W:=
 ⟨λk hk h=>hb.2 k h (by omega),hb.1.size,λ_ _ h=>FH h λk hk hl=>hb.2 k hl (by omega)⟩
section
variable {w0:World} {gT H0:Nat} {l:List UInt8} {o:Nat} {cl:Int} {fin:Bool} {vv:Value} {ts:List T.ax} {n:Nat} {r:Nat} {W W':World}
theorem Oj.next(h:Oj w0 gT H0 l o cl fin vv ts n r W)(hr:r<7)(h1:uF w0 gT l (o+amE (r+1)) cl fin vv W')(h2:One (w0.heap.size+2) W W'):Oj w0 gT H0 l o cl fin vv ts n (r+1) W':=
 ⟨λ_=>h1,λ_=>FH (h.2.1 (by omega)) λk hk hl=>h2.2 k hl (by have:=h1.g;omega),λh=>by omega,zT h.2.2.2 h2.1.size⟩
theorem Oj.call(h:Oj w0 gT H0 l o cl fin vv ts n r W)(hb:Below W.heap.size W W'):Oj w0 gT H0 l o cl fin vv ts n r W':=
 ⟨λhr=>(h.1 hr).call hb,λhr=>aV (h.2.1 hr) hb,λhr=>by obtain⟨v',h1,h2⟩:=h.2.2.1 hr;exact⟨v',h1.call hb,aV h2 hb⟩,zT h.2.2.2 hb.size⟩
end
theorem infoTrk:(prog.info? 94).map (λi=>(i.zero,i.size,i.bytes))=some (some (.agg #[.int .i64 0,.int .i64 0,.int .i64 0,.int .i64 0,.int .i64 0,.int .i64 0,.int .i64 0]),7,56):=by kernel_rfl
theorem Zc(x:T.ax):∀u∈kK x,u.oneCell'=true:=by intro u hu;simp only[kK,XW,List.not_mem_nil,or_false]at hu;rcases hu with rfl|rfl|rfl|rfl|rfl|rfl|rfl <;> rfl
def VP(w0:World)(gT H0:Nat)(l:List UInt8)(o:Nat)(vv:Value)(ts:List T.ax)(n:Nat)(i:Nat)(v:Value)(W:World):Prop:=match i with
 |0=>v=.pointer (some ⟨gT,2,none⟩)
 |1=>v=vv
 |2=>v=.func (.func 317) #[] #[.pointer (some ⟨w0.heap.size,0,none⟩),.pointer (some ⟨w0.heap.size+2,0,none⟩)]
 |3=>v=.int .i64 (dO l o 2)
 |4=>v=.func (.func 317) #[] #[.pointer (some ⟨w0.heap.size,0,none⟩),.pointer (some ⟨w0.heap.size+2,0,none⟩)]
 |5=>v=.int .i64 (dO l (o+2) 2)
 |6=>v=.func (.func 317) #[] #[.pointer (some ⟨w0.heap.size,0,none⟩),.pointer (some ⟨w0.heap.size+2,0,none⟩)]
 |7=>v=.int .i64 (dO l (o+4) 4)
 |8=>v=.func (.func 317) #[] #[.pointer (some ⟨w0.heap.size,0,none⟩),.pointer (some ⟨w0.heap.size+2,0,none⟩)]
 |9=>v=.int .i64 (dO l (o+8) 4)
 |10=>v=.func (.func 317) #[] #[.pointer (some ⟨w0.heap.size,0,none⟩),.pointer (some ⟨w0.heap.size+2,0,none⟩)]
 |11=>v=.int .i64 (dO l (o+12) 4)
 |12=>v=.func (.func 317) #[] #[.pointer (some ⟨w0.heap.size,0,none⟩),.pointer (some ⟨w0.heap.size+2,0,none⟩)]
 |13=>v=.int .i64 (dO l (o+16) 2)
 |14=>v=.func (.func 317) #[] #[.pointer (some ⟨w0.heap.size,0,none⟩),.pointer (some ⟨w0.heap.size+2,0,none⟩)]
 |15=>v=.int .i64 (dO l (o+18) 2)
 |16=>v=.agg #[.int .i64 (dO l o 2),.int .i64 (dO l (o+2) 2),.int .i64 (dO l (o+4) 4),.int .i64 (dO l (o+8) 4),.int .i64 (dO l (o+12) 4),.int .i64 (dO l (o+16) 2),.int .i64 (dO l (o+18) 2)]
 |17=>∃g,v=.slice (some ⟨g,0,none⟩) 1 1/\H0<=g/\Bx W g 94 (kK (rW l o))
 |18=>W.ownsRow (gT+1) 94 7 v (n+1) (fH kK (ts++[rW l o]))
 |19=>v=.pointer (some ⟨gT,2,none⟩)
 |_=>True
def acr:Nat->Option Nat
 |3=>some 0
 |5=>some 1
 |7=>some 2
 |9=>some 3
 |11=>some 4
 |13=>some 5
 |15=>some 6
 |18=>some 7
 |20=>some 8
 |_=>none
theorem Tc(w0:World)(gT H0:Nat)(l:List UInt8)(o:Nat)(vv:Value)(ts:List T.ax)(n:Nat)(i r:Nat)(v:Value)(W W':World)(hk:∀k,acr i=some k->k<r)(hR:(Kw H0 (gT+1) (n+1) (fH kK (ts++[rW l o]))) r W W')(h:VP w0 gT H0 l o vv ts n i v W):VP w0 gT H0 l o vv ts n i v W':=by
 by_cases h17:i=17
 ·subst h17;obtain⟨g,h1,h2,h3⟩:=h;exact⟨g,h1,h2,(hR.1 g h2 h3.lt).trans h3⟩
 by_cases h18:i=18
 ·subst h18;exact hR.2.2 (by have:=hk 7 rfl;omega) v h
 unfold VP at h ⊢;split at h <;> first|exact h|exact absurd rfl h17|exact absurd rfl h18
theorem agn(l:List UInt8)(n:Nat)(h:n<=99):KA (jE l n):=by
 refine⟨by rw[lN];omega,λi hi=>?_⟩;rw[lN]at hi;have e:T.tr (jE l n) i=rW l (14+20*i):=by simp[T.tr,jE,hi]
 rw[e];have a1:=pJ l (14+20*i) 2 (by omega);have a2:=pJ l (14+20*i+2) 2 (by omega);have a3:=pJ l (14+20*i+4) 4 (by omega);have a4:=pJ l (14+20*i+8) 4 (by omega);have a5:=pJ l (14+20*i+12) 4 (by omega);have a6:=pJ l (14+20*i+16) 2 (by omega);have a7:=pJ l (14+20*i+18) 2 (by omega);unfold zQ sm rW;simp only;refine⟨?_,?_,?_,?_,?_,?_,?_⟩ <;> omega
theorem akc{cap:Int}{l:List UInt8}{n:Nat}(hl:l.length=16+20*n)(hc:pX l=n):
 okD cap l=(decide ((iE cap (fK l) (tu l) (dI l) (jE l n)).2=0) && decide ((iE cap (fK l) (tu l) (dI l) (jE l n)).1=l)):=by
 unfold okD iE;rw[hc];rw[zt (show 16<=l.length/\l.length=16+20*n by omega),Bool.true_and];cases T.az cap (tu l) (dI l) (jE l n) with
 |false=>simp
 | true=>
   by_cases hq:fK l<=2147483647
   ·rw[zi (by decide),zj ⟨by omega,by omega⟩];simp[hq]
   ·rw[zi (by decide),zi (by omega)];simp[hq]
theorem aeW{l m:List UInt8}(h:l=m):((str l).toList == (str m).toList)=true:=by rw[h];simp
theorem abw{l m:List UInt8}(h:l≠m):((str l).toList == (str m).toList)=false:=by rw[rU,rU];simpa using h
theorem Az{W:World}{base g i:Nat}{v:Value}{ts:List T.ax}(h:W.ownsRow base 94 7 v i (fH kK ts))(hl:ts.length=i)(hg:g<base)(a b c:Value):
 bQ (((W.setCell ⟨g,0,none⟩ a).setCell ⟨g,1,none⟩ b).setCell ⟨g,2,none⟩ c).drew v ts:=by
 subst hl;have h2:=lK (lK (lK h (p:=⟨g,0,none⟩) hg a) (p:=⟨g,1,none⟩) hg b) (p:=⟨g,2,none⟩) hg c;exact dB.bg (d:=T.z) eH h2
def Ky(cap:Int)(l:List UInt8)(w:World)(e:Ending)(w':World):Prop:=
 ∃(cl:Int)(fin:Bool)(v:Value)(ts:List T.ax)(q:Int),e=.returned (.tuple #[aN cl fin v,.int .i64 q,.bool (okD cap l)])/\bQ w' v ts/\Below w.heap.size w w'/\(okD cap l=true->cl=tu l/\fin=dI l/\ts=jE l (pX l)/\q=fK l)
theorem O6(cap:Int)(l:List UInt8)(n:Nat)(w:World)(hl:l.length=16+20*n)(hn:n<=99)(hc:pX l=n):Calls prog 246 #[.int .i64 cap,.string (str l)] w (Ky cap l w):=by
 have hsz:=au l;rw[hl]at hsz;obtain⟨w0,rfl⟩:∃w0:World,w0=w:=⟨_,rfl⟩;have hd0:16<=16+20*(n:Int):=by omega
 have hd1:16+20*(n:Int)<=1996:=by omega
 have hd3:((16+20*(n:Int)-16)%20 != 0)=false:=by rw[Xe];omega
 go_enter func246,ntmps246;go_upto_region 5 with (fail)
 have vH:Dc3 w0 l 4 (((w0.alloc (.cells #[.string (str l)] 9)).alloc (.cells #[.int .i64 0,.bool false,.slice none 0 0] 37)).alloc (.cells #[.int .i64 4] 3)):=
  ⟨((Bx.new w0 _ _).alloc _).alloc _,by have:=(Bx.new (w0.alloc (.cells #[.string (str l)] 9)) 37 [.int .i64 0,.bool false,.slice none 0 0]).alloc (.cells #[.int .i64 4] 3); rw[Yl]at this; exact this,
    by have:=Bx.new ((w0.alloc (.cells #[.string (str l)] 9)).alloc (.cells #[.int .i64 0,.bool false,.slice none 0 0] 37)) 3 [.int .i64 4];rw[Yl,Yl]at this;exact this,
    (((zB _ _).alloc (zl _) _).alloc (by simp) _).alloc (by simp;omega) _⟩
 generalize ((w0.alloc (.cells #[.string (str l)] 9)).alloc (.cells #[.int .i64 0,.bool false,.slice none 0 0] 37)).alloc (.cells #[.int .i64 4] 3)=w1 at vH ⊢;simp only[show w0.heap.size+1+1=w0.heap.size+2 from rfl];have hl1:l.length<=1000000:=by omega
 clear hd0 hd1 hd3 hsz;go_wp2_with fail;refine(Ap vH 4 4 rfl (by omega) (by omega) (by omega) hl1).mono ?_;rintro e w2 ⟨rfl,HS2⟩;replace HS2:Dc3 w0 l 8 w2:=HS2;go_wp2_with fail;refine(Ap HS2 2 2 rfl (by omega) (by omega) (by omega) hl1).mono ?_;rintro e w3 ⟨rfl,zY⟩;replace zY:Dc3 w0 l 10 w3:=zY;go_wp2_with fail;refine(Ap zY 2 2 rfl (by omega) (by omega) (by omega) hl1).mono ?_;rintro e w4 ⟨rfl,xE⟩;replace xE:Dc3 w0 l 12 w4:=xE;clear vH HS2 zY;have hfin:(((dO l 10 2:Nat):Int) == 1)=dI l:=by unfold dI;rw[YJ,YG,YG];omega
 go_upto_region 7 with (fail)
 have KE:uF w0 w4.heap.size l 12 (tu l) (dI l) (.slice none 0 0) (w4.alloc (.cells #[.int .i64 (dO l 8 2),.bool (dI l),.slice none 0 0] 37)):=
  ⟨xE.s.alloc _,xE.z.alloc _,xE.a.alloc _,Bx.new w4 _ [.int .i64 (dO l 8 2),.bool (dI l),.slice none 0 0],xE.le.alloc xE.le.size _,xE.a.lt⟩
 obtain⟨gT,hgT⟩:∃gT,gT=w4.heap.size:=⟨_,rfl⟩;rw[<-hgT]at KE;simp only[<-hgT];clear hgT hfin xE;generalize w4.alloc (.cells #[.int .i64 (dO l 8 2),.bool (dI l),.slice none 0 0] 37)=w5 at KE ⊢;go_wp2_with fail;refine(rD KE 2 2 rfl (by omega) (by omega) (by omega) hl1).mono ?_;rintro e w6 ⟨rfl,zZ,_⟩;replace zZ:uF w0 gT l 14 (tu l) (dI l) (.slice none 0 0) w6:=zZ;clear KE;have hcn:(dO l 12 2:Nat)=n:=hc;have HSZ:=zH (hcn.trans hc.symm);have c0:=zZ.s.cell (i:=0) rfl;have hd4:((n:Int) != (16+20*(n:Int)-16)/20)=false:=by rw[Xe];omega
 have hsz2:=au l;rw[hl]at hsz2;go_wp2_with fail;generalize Value.int .i64 (16+20*(n:Int))=v15;generalize Value.bool (decide (16+20*(n:Int)<16))=v16;generalize Value.bool (decide (1996<16+20*(n:Int)))=v20;generalize Value.bool (decide (16+20*(n:Int)<16) || decide (1996<16+20*(n:Int)))=v21;generalize Value.int .i64 (16+20*(n:Int)-16)=v25;generalize Value.int .i64 ((16+20*(n:Int)-16)%20)=v26;generalize Value.int .i64 ((16+20*(n:Int)-16)/20)=v45;clear c0 hd4 hsz2 hcn;have hO6:w6.ownsRow (gT+1) 94 7 (.slice none 0 0) 0 (fH kK (jE l 0)):=⟨rfl,.inl ⟨rfl,rfl⟩⟩;have HCN:=zH hc;clear hc
 go_loopw [49] (λvi wr=>∃(i:Nat)(v:Value),i<=n/\vi=.int .i64 i/\uF w0 gT l (14+20*i) (tu l) (dI l) v wr/\wr.ownsRow (gT+1) 94 7 v i (fH kK (jE l i))) (λvi _=>n-(RowKit.intOf vi).toNat)
 case atStart=>exact⟨0,_,by omega,rfl,zZ,hO6⟩
 case round=>
  clear zZ hO6;obtain⟨i,vv,hi,rfl,HS,hO⟩:=hrel;by_cases hlt:i<n
  ·go_upto_region 12 with (fail)
   have HB:Hid (14+20*i<=3000/\l.length<=1000000):=zH ⟨by omega,hl1⟩;have HN:Hid (i<=1000):=zH (by omega);have HH:Hid (w0.heap.size+2<gT/\gT+1<=wr.heap.size):=zH ⟨HS.g,HS.t.lt⟩;have G7:Hid (∀k,vv.ownBlock=some k->k<wr.heap.size):=zH (oP hO);have hC0:Oj w0 gT wr.heap.size l (14+20*i) (tu l) (dI l) vv (jE l i) i 0 wr.drew:=⟨λ_=>HS.drew,λ_=>hO,λh=>by omega,zl _⟩;obtain⟨o,ho⟩:∃o,o=14+20*i:=⟨_,rfl⟩;obtain⟨H0,hH0⟩:∃H0,H0=wr.heap.size:=⟨_,rfl⟩;obtain⟨ts,hts⟩:∃ts,ts=jE l i:=⟨_,rfl⟩;rw[<-ho,<-hH0,<-hts]at hC0;rw[<-ho]at HB;rw[<-hH0]at HH G7;have HO:=zH ho;have HTS:=zH hts;clear ho hH0 hts HS hO;obtain⟨cl,hcl⟩:∃cl:Int,cl=tu l:=⟨_,rfl⟩;rw[<-hcl]at hC0;have RX:=zH hcl;clear hcl;refine lq (by kernel_rfl) (Kw H0 (gT+1) (i+1) (fH kK (ts++[rW l o]))) (Oj w0 gT H0 l o cl (dI l) vv ts i) (VP w0 gT H0 l o vv ts i) (λ_=>false) acr 9 (by kernel_rfl) (by kernel_rfl) (.inl (by kernel_rfl)) (Tc w0 gT H0 l o vv ts i) (hC0) ⟨?_,?s1,?_,?s3,?_,?s5,?_,?s7,?_,?s9,?_,?s11,?_,?s13,?_,?s15,?s16,?s17,?s18,?_,?s20,trivial⟩ ?_;all_goals first
    | (intro r a W hc hsz hold ah hnot hlo hhi hrk
       have o8:a.tmps.getD 8 undef=.func (.func 317) #[] #[.pointer (some ⟨w0.heap.size,0,none⟩),.pointer (some ⟨w0.heap.size+2,0,none⟩)]:=hold 8 (by kernel_rfl);have Og:a.tmps.getD 10 undef=.pointer (some ⟨gT,0,none⟩):=hold 10 (by kernel_rfl);clear hsz hold ah hnot hlo hhi hrk;refine ai rfl (ag rfl) ?_;refine aG (Kw.refl _ _ _ _ _ _) hc rfl λK hK=>?_
       go_simp;exact hK)
    |skip
   try case s1=>
    intro r a W hc hsz hold ah hnot hlo hhi hrk;have d0:=zV 51 (.pointer (some ⟨gT,2,none⟩)) (ah 0 rfl rfl _ rfl);have Uj:=hhi 20 8 rfl (by kernel_rfl);have hD:=(hc.1 Uj).t.cell (i:=2) rfl;clear hsz hold ah hnot hlo hhi hrk;refine ai rfl (ag rfl) ?_;refine aG (v:=vv) (Kw.refl _ _ _ _ _ _) hc rfl λK hK=>?_
    go_simp;exact hK
   try case s3=>
    intro r a W hc hsz hold ah hnot hlo hhi hrk;have hr:=hrk 0 rfl;subst hr;have d2:=zV 53 (.func (.func 317) #[] #[.pointer (some ⟨w0.heap.size,0,none⟩),.pointer (some ⟨w0.heap.size+2,0,none⟩)]) (ah 2 rfl rfl _ rfl);have e2:=zq d2;clear hsz hold ah hnot hlo hhi hrk;refine ai rfl (ag rfl) ?_;have hD:uF w0 gT l o cl (dI l) vv W:=hc.1 (by omega);have hcc:=rD hD 2 2 rfl (by omega) (by omega) (by have:=HB.out.1;omega) HB.out.2;clear hD;refine iV (v:=.int .i64 (dO l o 2)) λK hK=>?_
    go_simp;refine hcc.mono ?_;rintro e w' ⟨rfl,h1,h2⟩;exact hK w' (Kw.one h2 (by have:=HH.out;omega) (by have:=HH.out;omega)) (Oj.next hc (by omega) h1 h2) rfl
   try case s5=>
    intro r a W hc hsz hold ah hnot hlo hhi hrk;have hr:=hrk 1 rfl;subst hr;have d4:=zV 55 (.func (.func 317) #[] #[.pointer (some ⟨w0.heap.size,0,none⟩),.pointer (some ⟨w0.heap.size+2,0,none⟩)]) (ah 4 rfl rfl _ rfl);have e4:=zq d4;clear hsz hold ah hnot hlo hhi hrk;refine ai rfl (ag rfl) ?_;have hD:uF w0 gT l (o+2) cl (dI l) vv W:=hc.1 (by omega);have hcc:=rD hD 2 2 rfl (by omega) (by omega) (by have:=HB.out.1;omega) HB.out.2;clear hD;refine iV (v:=.int .i64 (dO l (o+2) 2)) λK hK=>?_
    go_simp;refine hcc.mono ?_;rintro e w' ⟨rfl,h1,h2⟩;exact hK w' (Kw.one h2 (by have:=HH.out;omega) (by have:=HH.out;omega)) (Oj.next hc (by omega) h1 h2) rfl
   try case s7=>
    intro r a W hc hsz hold ah hnot hlo hhi hrk;have hr:=hrk 2 rfl;subst hr;have d6:=zV 57 (.func (.func 317) #[] #[.pointer (some ⟨w0.heap.size,0,none⟩),.pointer (some ⟨w0.heap.size+2,0,none⟩)]) (ah 6 rfl rfl _ rfl);have e6:=zq d6;clear hsz hold ah hnot hlo hhi hrk;refine ai rfl (ag rfl) ?_;have hD:uF w0 gT l (o+4) cl (dI l) vv W:=hc.1 (by omega);have hcc:=rD hD 4 4 rfl (by omega) (by omega) (by have:=HB.out.1;omega) HB.out.2;clear hD;refine iV (v:=.int .i64 (dO l (o+4) 4)) λK hK=>?_
    go_simp;refine hcc.mono ?_;rintro e w' ⟨rfl,h1,h2⟩;exact hK w' (Kw.one h2 (by have:=HH.out;omega) (by have:=HH.out;omega)) (Oj.next hc (by omega) h1 h2) rfl
   try case s9=>
    intro r a W hc hsz hold ah hnot hlo hhi hrk;have hr:=hrk 3 rfl;subst hr;have d8:=zV 59 (.func (.func 317) #[] #[.pointer (some ⟨w0.heap.size,0,none⟩),.pointer (some ⟨w0.heap.size+2,0,none⟩)]) (ah 8 rfl rfl _ rfl);have e8:=zq d8;clear hsz hold ah hnot hlo hhi hrk;refine ai rfl (ag rfl) ?_;have hD:uF w0 gT l (o+8) cl (dI l) vv W:=hc.1 (by omega);have hcc:=rD hD 4 4 rfl (by omega) (by omega) (by have:=HB.out.1;omega) HB.out.2;clear hD;refine iV (v:=.int .i64 (dO l (o+8) 4)) λK hK=>?_
    go_simp;refine hcc.mono ?_;rintro e w' ⟨rfl,h1,h2⟩;exact hK w' (Kw.one h2 (by have:=HH.out;omega) (by have:=HH.out;omega)) (Oj.next hc (by omega) h1 h2) rfl
   try case s11=>
    intro r a W hc hsz hold ah hnot hlo hhi hrk;have hr:=hrk 4 rfl;subst hr;have d10:=zV 61 (.func (.func 317) #[] #[.pointer (some ⟨w0.heap.size,0,none⟩),.pointer (some ⟨w0.heap.size+2,0,none⟩)]) (ah 10 rfl rfl _ rfl);have e10:=zq d10;clear hsz hold ah hnot hlo hhi hrk;refine ai rfl (ag rfl) ?_;have hD:uF w0 gT l (o+12) cl (dI l) vv W:=hc.1 (by omega);have hcc:=rD hD 4 4 rfl (by omega) (by omega) (by have:=HB.out.1;omega) HB.out.2;clear hD;refine iV (v:=.int .i64 (dO l (o+12) 4)) λK hK=>?_
    go_simp;refine hcc.mono ?_;rintro e w' ⟨rfl,h1,h2⟩;exact hK w' (Kw.one h2 (by have:=HH.out;omega) (by have:=HH.out;omega)) (Oj.next hc (by omega) h1 h2) rfl
   try case s13=>
    intro r a W hc hsz hold ah hnot hlo hhi hrk;have hr:=hrk 5 rfl;subst hr;have d12:=zV 63 (.func (.func 317) #[] #[.pointer (some ⟨w0.heap.size,0,none⟩),.pointer (some ⟨w0.heap.size+2,0,none⟩)]) (ah 12 rfl rfl _ rfl);have e12:=zq d12;clear hsz hold ah hnot hlo hhi hrk;refine ai rfl (ag rfl) ?_;have hD:uF w0 gT l (o+16) cl (dI l) vv W:=hc.1 (by omega);have hcc:=rD hD 2 2 rfl (by omega) (by omega) (by have:=HB.out.1;omega) HB.out.2;clear hD;refine iV (v:=.int .i64 (dO l (o+16) 2)) λK hK=>?_
    go_simp;refine hcc.mono ?_;rintro e w' ⟨rfl,h1,h2⟩;exact hK w' (Kw.one h2 (by have:=HH.out;omega) (by have:=HH.out;omega)) (Oj.next hc (by omega) h1 h2) rfl
   try case s15=>
    intro r a W hc hsz hold ah hnot hlo hhi hrk;have hr:=hrk 6 rfl;subst hr;have d14:=zV 65 (.func (.func 317) #[] #[.pointer (some ⟨w0.heap.size,0,none⟩),.pointer (some ⟨w0.heap.size+2,0,none⟩)]) (ah 14 rfl rfl _ rfl);have e14:=zq d14;clear hsz hold ah hnot hlo hhi hrk;refine ai rfl (ag rfl) ?_;have hD:uF w0 gT l (o+18) cl (dI l) vv W:=hc.1 (by omega);have hcc:=rD hD 2 2 rfl (by omega) (by omega) (by have:=HB.out.1;omega) HB.out.2;clear hD;refine iV (v:=.int .i64 (dO l (o+18) 2)) λK hK=>?_
    go_simp;refine hcc.mono ?_;rintro e w' ⟨rfl,h1,h2⟩;exact hK w' (Kw.one h2 (by have:=HH.out;omega) (by have:=HH.out;omega)) (Oj.next hc (by omega) h1 h2) rfl
   try case s16=>
    intro r a W hc hsz hold ah hnot hlo hhi hrk;have d3:=zV 54 (.int .i64 (dO l o 2)) (ah 3 rfl rfl _ rfl);have e3:=zq d3;have d5:=zV 56 (.int .i64 (dO l (o+2) 2)) (ah 5 rfl rfl _ rfl);have e5:=zq d5;have d7:=zV 58 (.int .i64 (dO l (o+4) 4)) (ah 7 rfl rfl _ rfl);have e7:=zq d7;have d9:=zV 60 (.int .i64 (dO l (o+8) 4)) (ah 9 rfl rfl _ rfl);have e9:=zq d9;have d11:=zV 62 (.int .i64 (dO l (o+12) 4)) (ah 11 rfl rfl _ rfl);have e11:=zq d11;have d13:=zV 64 (.int .i64 (dO l (o+16) 2)) (ah 13 rfl rfl _ rfl);have e13:=zq d13;have d15:=zV 66 (.int .i64 (dO l (o+18) 2)) (ah 15 rfl rfl _ rfl);have e15:=zq d15;clear hsz hold ah hnot hlo hhi hrk;refine ai rfl (ag rfl) ?_;refine aG (v:=.agg #[.int .i64 (dO l o 2),.int .i64 (dO l (o+2) 2),.int .i64 (dO l (o+4) 4),.int .i64 (dO l (o+8) 4),.int .i64 (dO l (o+12) 4),.int .i64 (dO l (o+16) 2),.int .i64 (dO l (o+18) 2)]) (Kw.refl _ _ _ _ _ _) hc rfl λK hK=>?_
    go_simp;exact hK
   try case s17=>
    intro r a W hc hsz hold ah hnot hlo hhi hrk;have d16:=zV 67 (.agg #[.int .i64 (dO l o 2),.int .i64 (dO l (o+2) 2),.int .i64 (dO l (o+4) 4),.int .i64 (dO l (o+8) 4),.int .i64 (dO l (o+12) 4),.int .i64 (dO l (o+16) 2),.int .i64 (dO l (o+18) 2)]) (ah 16 rfl rfl _ rfl);have e16:=zq d16;clear hsz hold ah hnot hlo hhi hrk;refine ai rfl (ag rfl) ?_;have hN:=Bx.new W 94 (kK (rW l o));have hbN:=(zB W.heap.size W).alloc (zl _) (.cells (kK (rW l o)).toArray 94);refine iy (v:=.slice (some ⟨W.heap.size,0,none⟩) 1 1) (Kw.call hbN) (hc.call hbN) ⟨W.heap.size,rfl,hc.2.2.2,hN⟩ λK hK=>?_
    have e:(kK (rW l o)).toArray = #[.int .i64 (dO l o 2),.int .i64 (dO l (o+2) 2),.int .i64 (dO l (o+4) 4),.int .i64 (dO l (o+8) 4),.int .i64 (dO l (o+12) 4),.int .i64 (dO l (o+16) 2),.int .i64 (dO l (o+18) 2)]:=rfl;rw[e]at hK;clear e hN hbN hc;go_simp;exact hK
   try case s18=>
    intro r a W hc hsz hold ah hnot hlo hhi hrk;have hr:=hrk 7 rfl;subst hr;have d1:=zV 52 vv (ah 1 rfl rfl _ rfl);have e1:=zq d1;have x17:=ah 17 rfl rfl _ rfl;clear hsz hold ah hnot hlo hhi hrk;refine ai rfl (ag rfl) ?_;obtain⟨g,d17,hg0,hgx⟩:∃g,a.tmps.getD 68 undef=.slice (some ⟨g,0,none⟩) 1 1/\H0<=g/\Bx W g 94 (kK (rW l o)):=x17;have hrd:dB T.z kK 7 W (.slice (some ⟨g,0,none⟩) 1 1) [rW l o]:=⟨_,_,g,0,rfl,zl _,λi hi=>⟨rfl,λj u hu=>by
     obtain rfl:i=0:=by simp at hi;omega
     simp only[Nat.zero_mul,Yf];exact hgx.cell hu⟩⟩
    have hown:=hc.2.1 (by omega);have hD:uF w0 gT l (o+20) cl (dI l) vv W:=hc.1 (by omega);have hsz:=hc.2.2.2;obtain⟨i0,hi,hz0,hz1,hz2⟩:=info_parts infoTrk;refine ad3 (.tmp 52) (.tmp 68) rfl underlying35 hi hz0 hz1 hz2 rfl (by omega) hown d1 (hrd.reads eH) d17 (LG Zc _) (by unfold maxLen;simp only[XL];have:=HN.out;omega) (by simp only[XL];have:=HN.out;omega) (by have:=HH.out;omega) λv' w' h1 h2=>?_
    rw[<-nM]at h1;have hb4:=(zB (gT+1) W).grown h2 (by have:=HH.out;omega) (bH hown);have hC8:Oj w0 gT H0 l o cl (dI l) vv ts i 8 w':=⟨λ_=>hD.own hb4,λh=>by omega,λh=>by omega,zT hsz h2.size⟩;exact⟨v',rfl,⟨λk hk hl=>h2.block k hl (λe=>by have:=G7.out k e.symm;omega),h2.size,λh=>by omega⟩,hC8,h1⟩
   try case s20=>
    intro r a W hc hsz hold ah hnot hlo hhi hrk;have hr:=hrk 8 rfl;subst hr;have d19:=zV 70 (.pointer (some ⟨gT,2,none⟩)) (ah 19 rfl rfl _ rfl);have x18:=ah 18 rfl rfl _ rfl;clear hsz hold ah hnot hlo hhi hrk;refine ai rfl (ag rfl) ?_;have hD:uF w0 gT l (o+20) cl (dI l) vv W:=hc.1 (by omega);have ho:W.ownsRow (gT+1) 94 7 (a.tmps.getD 69 undef) (i+1) (fH kK (ts++[rW l o])):=x18;obtain⟨a9,c9,d18⟩:=aS ho;rw[d18]at ho;have hsz:=hc.2.2.2;have hf:=hD.t.free;have c0:=hD.t.cell (i:=2) rfl;have ho2:=lK ho (p:=⟨gT,2,none⟩) (by simp only;omega) (.slice a9 (i+1) c9);have hC9:Oj w0 gT H0 l o cl (dI l) vv ts i 9 (W.setCell ⟨gT,2,none⟩ (.slice a9 (i+1) c9)):=⟨λh=>by omega,λh=>by omega,λ_=>⟨_,hD.put (.slice a9 (i+1) c9),ho2⟩,by simp[World.setCell];exact hsz⟩;refine iy (v:=undef) ⟨λk hk hl=>zh _ _ _ _ (by have:=HH.out;simp only;omega),by simp[World.setCell],λ_ v' h=>lK h (p:=⟨gT,2,none⟩) (by simp only;omega) _⟩ hC9 trivial λK hK=>?_
    clear hD ho ho2 hc hC9;go_simp;exact hK
   ·intro a W hC hd hsz hold hval;obtain⟨G,hG,ha⟩:=dK [51,52,53,54,55,56,57,58,59,60,61,62,63,64,65,66,67,68,69,70] (by kernel_rfl) hd hsz hold;rw[ha];clear ha hG hd hsz hold;simp only[cZ,Ym,List.set];clear hval;obtain⟨v',h1,h2⟩:=hC.2.2.1 rfl;clear hC;go_wp2_with fail;go_roundw;case rel=>
     rw[HO.out,RX.out]at h1;rw[HTS.out,HO.out,<-abA]at h2;exact⟨i+1,v',by omega,by go_num,by simpa[Nat.mul_add,XD]using h1,h2⟩
    case measure=>simp[RowKit.intOf];omega
  ·obtain rfl:i=n:=by omega
   obtain⟨va,vc,rfl⟩:=aS hO;have hRK:bQ wr (.slice va i vc) (jE l i):=by have h:=dB.bg (d:=T.z) eH (by rw[lN];exact hO);exact h
   obtain⟨ts,hts⟩:∃ts,ts=jE l i:=⟨_,rfl⟩;have hfew:=agn l i hn;have htl:=lN l i;rw[<-hts]at hRK hfew htl;have HTS:=zH hts;have HO:=zH hO;clear hts hO;have HEN:=zH (λW hW=>oM cap (dO l 4 4) (tu l) (dI l) (.slice va i vc) ts W hW (.inl hfew) (by have:=pJ l 8 2 (by omega);unfold tu;omega));have c0:=HS.t.cell (i:=0) rfl;have c1:=HS.t.cell (i:=1) rfl;have c2:=HS.t.cell (i:=2) rfl;go_wp2_with fail;refine(HEN.out _ hRK).mono ?_;have hOK:okD cap l=(decide ((iE cap (dO l 4 4) (tu l) (dI l) ts).2=0) && decide ((iE cap (dO l 4 4) (tu l) (dI l) ts).1=l)):=by rw[HTS.out];exact akc hl HCN.out
   generalize iE cap (dO l 4 4) (tu l) (dI l) ts=R at hOK;obtain⟨again,code⟩:=R;rintro e w9 ⟨rfl,xB⟩;have RZ:=HS.call xB;clear HEN c0 c1 c2 hRK HS;have c0:=RZ.t.cell (i:=0) rfl;have c1:=RZ.t.cell (i:=1) rfl;have c2:=RZ.t.cell (i:=2) rfl;have hs0:=RZ.s.cell (i:=0) rfl;have z0:=RZ.z.cell (i:=0) rfl;have z1:=RZ.z.cell (i:=1) rfl;have z2:=RZ.z.cell (i:=2) rfl;have hzf:=RZ.z.free;have adf:=RZ.t.lt;have hg9:=RZ.g;have HO9:Hid (w9.ownsRow (gT+1) 94 7 (.slice (va) i vc) i (fH kK ts)):=zH (by rw[HTS.out];exact aV HO.out xB);have lQ:=zH RZ.le;clear RZ;have KD:Hid (okD cap l=true->(tu l:Int)=tu l/\dI l=dI l/\ts=jE l (pX l)/\((dO l 4 4:Nat):Int)=fK l):=zH λ_=>⟨rfl,rfl,by rw[HCN.out];exact HTS.out,rfl⟩
   by_cases hcode:code=0
   ·subst hcode;by_cases hag:again=l
    ·subst hag;have PM:okD cap again=true:=by rw[hOK];simp
     have vG:=zH PM;have hse:=aeW (rfl:again=again);clear hOK PM;go_wp2_with fail
     go_region
     all_goals
      go_wp2_with fail;refine zr (v:=.tuple #[aN (tu again) (dI again) (.slice va i vc),.int .i64 (dO again 4 4),.bool true]) (by simp[results,results246,go_sem,z0,z1,z2]) rfl ?_;exact⟨tu again,dI again,_,ts,dO again 4 4,by rw[vG.out],Az HO9.out htl (by omega) _ _ _,(((lQ.out.setCell (by simp) _).setCell (by simp) _).setCell (by simp) _).drew,λh=>⟨rfl,rfl,(KD.out h).2.2.1,(KD.out h).2.2.2⟩⟩
    ·have PM:okD cap l=false:=by rw[hOK];simp[hag]
     have vG:=zH PM;have hse:=abw hag;clear hOK PM hag;go_wp2_with fail
     go_region
     all_goals
      go_wp2_with fail;refine zr (v:=.tuple #[aN (tu l) (dI l) (.slice va i vc),.int .i64 (dO l 4 4),.bool false]) (by simp[results,results246,go_sem,z0,z1,z2]) rfl ?_;exact⟨tu l,dI l,_,ts,dO l 4 4,by rw[vG.out],Az HO9.out htl (by omega) _ _ _,(((lQ.out.setCell (by simp) _).setCell (by simp) _).setCell (by simp) _).drew,λh=>⟨rfl,rfl,(KD.out h).2.2.1,(KD.out h).2.2.2⟩⟩
   ·have PM:okD cap l=false:=by rw[hOK];simp[hcode]
    have vG:=zH PM;have hse:(code == 0)=false:=Yc.2 hcode;clear hOK PM hcode;go_wp2_with fail
    go_region
    all_goals
     go_wp2_with fail;refine zr (v:=.tuple #[aN (tu l) (dI l) (.slice va i vc),.int .i64 (dO l 4 4),.bool false]) (by simp[results,results246,go_sem,z0,z1,z2]) rfl ?_;exact⟨tu l,dI l,_,ts,dO l 4 4,by rw[vG.out],Az HO9.out htl (by omega) _ _ _,(((lQ.out.setCell (by simp) _).setCell (by simp) _).setCell (by simp) _).drew,λh=>⟨rfl,rfl,(KD.out h).2.2.1,(KD.out h).2.2.2⟩⟩
theorem Tf(cap:Int)(l:List UInt8)(n:Nat)(w:World)(hl:l.length=16+20*n)(hn:n<=99)(hc:pX l≠n):Calls prog 246 #[.int .i64 cap,.string (str l)] w (Ky cap l w):=by
 have hsz:=au l;rw[hl]at hsz;obtain⟨w0,rfl⟩:∃w0:World,w0=w:=⟨_,rfl⟩;have hd0:16<=16+20*(n:Int):=by omega
 have hd1:16+20*(n:Int)<=1996:=by omega
 have hd3:((16+20*(n:Int)-16)%20 != 0)=false:=by rw[Xe];omega
 go_enter func246,ntmps246;go_upto_region 5 with (fail)
 have vH:Dc3 w0 l 4 (((w0.alloc (.cells #[.string (str l)] 9)).alloc (.cells #[.int .i64 0,.bool false,.slice none 0 0] 37)).alloc (.cells #[.int .i64 4] 3)):=
  ⟨((Bx.new w0 _ _).alloc _).alloc _,by have:=(Bx.new (w0.alloc (.cells #[.string (str l)] 9)) 37 [.int .i64 0,.bool false,.slice none 0 0]).alloc (.cells #[.int .i64 4] 3); rw[Yl]at this; exact this,
    by have:=Bx.new ((w0.alloc (.cells #[.string (str l)] 9)).alloc (.cells #[.int .i64 0,.bool false,.slice none 0 0] 37)) 3 [.int .i64 4];rw[Yl,Yl]at this;exact this,
    (((zB _ _).alloc (zl _) _).alloc (by simp) _).alloc (by simp;omega) _⟩
 generalize ((w0.alloc (.cells #[.string (str l)] 9)).alloc (.cells #[.int .i64 0,.bool false,.slice none 0 0] 37)).alloc (.cells #[.int .i64 4] 3)=w1 at vH ⊢;simp only[show w0.heap.size+1+1=w0.heap.size+2 from rfl];have hl1:l.length<=1000000:=by omega
 clear hd0 hd1 hd3 hsz;go_wp2_with fail;refine(Ap vH 4 4 rfl (by omega) (by omega) (by omega) hl1).mono ?_;rintro e w2 ⟨rfl,HS2⟩;replace HS2:Dc3 w0 l 8 w2:=HS2;go_wp2_with fail;refine(Ap HS2 2 2 rfl (by omega) (by omega) (by omega) hl1).mono ?_;rintro e w3 ⟨rfl,zY⟩;replace zY:Dc3 w0 l 10 w3:=zY;go_wp2_with fail;refine(Ap zY 2 2 rfl (by omega) (by omega) (by omega) hl1).mono ?_;rintro e w4 ⟨rfl,xE⟩;replace xE:Dc3 w0 l 12 w4:=xE;clear vH HS2 zY;have hfin:(((dO l 10 2:Nat):Int) == 1)=dI l:=by unfold dI;rw[YJ,YG,YG];omega
 go_upto_region 7 with (fail)
 have KE:uF w0 w4.heap.size l 12 (tu l) (dI l) (.slice none 0 0) (w4.alloc (.cells #[.int .i64 (dO l 8 2),.bool (dI l),.slice none 0 0] 37)):=
  ⟨xE.s.alloc _,xE.z.alloc _,xE.a.alloc _,Bx.new w4 _ [.int .i64 (dO l 8 2),.bool (dI l),.slice none 0 0],xE.le.alloc xE.le.size _,xE.a.lt⟩
 obtain⟨gT,hgT⟩:∃gT,gT=w4.heap.size:=⟨_,rfl⟩;rw[<-hgT]at KE;simp only[<-hgT];clear hgT hfin xE;generalize w4.alloc (.cells #[.int .i64 (dO l 8 2),.bool (dI l),.slice none 0 0] 37)=w5 at KE ⊢;go_wp2_with fail;refine(rD KE 2 2 rfl (by omega) (by omega) (by omega) hl1).mono ?_;rintro e w6 ⟨rfl,zZ,_⟩;replace zZ:uF w0 gT l 14 (tu l) (dI l) (.slice none 0 0) w6:=zZ;clear KE;have hok:okD cap l=false:=by rw[YZ];intro h;have:=(yK.1 h).1.2;omega
 have vG:=zH hok;obtain⟨m,hm⟩:∃m,m=dO l 12 2:=⟨_,rfl⟩;have hmn:m≠n:=by rw[hm];exact hc
 simp only[<-hm];have c0:=zZ.s.cell (i:=0) rfl;have z0:=zZ.z.cell (i:=0) rfl;have z1:=zZ.z.cell (i:=1) rfl;have z2:=zZ.z.cell (i:=2) rfl;have hzf:=zZ.z.free;have hzl:=zZ.z.lt;have hd4:((m:Int) != (16+20*(n:Int)-16)/20)=true:=by rw[XV];omega
 have hsz2:=au l;rw[hl]at hsz2;have lQ:=zH zZ.le;clear hok hc hm hmn zZ;go_wp2_with fail;refine zr (v:=.tuple #[aN 0 false (.slice none 0 0),.int .i64 0,.bool false]) (by simp[results,results246,go_sem,z0,z1,z2]) rfl ?_;refine⟨0,false,_,[],0,by rw[vG.out],bQ.nil _,?_,λh=>by rw[vG.out]at h;cases h⟩;exact((lQ.out.setCell (by simp) _).setCell (by simp) _).setCell (by simp) _
theorem decode_short(cap:Int)(l:List UInt8)(w:World)(hl:l.length<=1000000)(h1:l.length<16)(hok:okD cap l=false):Calls prog 246 #[.int .i64 cap,.string (str l)] w (Ky cap l w):=by
 have hsz:=au l;obtain⟨n,hn⟩:∃n,n=l.length:=⟨_,rfl⟩;rw[<-hn]at hsz h1;obtain⟨w0,rfl⟩:∃w0:World,w0=w:=⟨_,rfl⟩;have vG:=zH hok;have HN:=zH hn;have hbb:n<=1000000:=by omega
 clear hok hn hl;go_enter func246,ntmps246;go_wp2_with fail;refine zr (v:=.tuple #[aN 0 false (.slice none 0 0),.int .i64 0,.bool false]) (by simp[results,results246,go_sem]) rfl ?_;refine⟨0,false,_,[],0,by rw[vG.out],bQ.nil _,?_,λh=>by rw[vG.out]at h;cases h⟩;exact((zB _ _).alloc (zl _) _).alloc (by simp) _
theorem O5(cap:Int)(l:List UInt8)(w:World)(hl:l.length<=1000000)(h1:1996<l.length)(hok:okD cap l=false):Calls prog 246 #[.int .i64 cap,.string (str l)] w (Ky cap l w):=by
 have hsz:=au l;obtain⟨n,hn⟩:∃n,n=l.length:=⟨_,rfl⟩;rw[<-hn]at hsz h1;obtain⟨w0,rfl⟩:∃w0:World,w0=w:=⟨_,rfl⟩;have vG:=zH hok;have HN:=zH hn;have hbb:n<=1000000:=by omega
 clear hok hn hl;go_enter func246,ntmps246;go_wp2_with fail;refine zr (v:=.tuple #[aN 0 false (.slice none 0 0),.int .i64 0,.bool false]) (by simp[results,results246,go_sem]) rfl ?_;refine⟨0,false,_,[],0,by rw[vG.out],bQ.nil _,?_,λh=>by rw[vG.out]at h;cases h⟩;exact((zB _ _).alloc (zl _) _).alloc (by simp) _
theorem Tj(cap:Int)(l:List UInt8)(w:World)(hl:l.length<=1000000)(h1:16<=l.length)(h2:l.length<=1996)(h3:((l.length:Int)-16)%20≠0)(hok:okD cap l=false):Calls prog 246 #[.int .i64 cap,.string (str l)] w (Ky cap l w):=by
 have hsz:=au l;obtain⟨n,hn⟩:∃n,n=l.length:=⟨_,rfl⟩;rw[<-hn]at hsz h1 h2 h3;obtain⟨w0,rfl⟩:∃w0:World,w0=w:=⟨_,rfl⟩;have vG:=zH hok;have h4:(((n:Int)-16)%20 != 0)=true:=XV.2 h3;have HN:=zH hn;have hbb:n<=1000000:=by omega
 clear hok hn hl;go_enter func246,ntmps246;go_wp2_with fail;refine zr (v:=.tuple #[aN 0 false (.slice none 0 0),.int .i64 0,.bool false]) (by simp[results,results246,go_sem]) rfl ?_;refine⟨0,false,_,[],0,by rw[vG.out],bQ.nil _,?_,λh=>by rw[vG.out]at h;cases h⟩;exact((zB _ _).alloc (zl _) _).alloc (by simp) _
theorem decode_any(cap:Int)(l:List UInt8)(w:World)(hl:l.length<=1000000):Calls prog 246 #[.int .i64 cap,.string (str l)] w (Ky cap l w):=by
 have bad:(¬ ∃n,l.length=16+20*n/\n<=99)->okD cap l=false:=λh=>by rw[YZ];intro h1;have h2:=yK.1 h1;have h3:=h2.2.1.2.2.1;rw[lN]at h3;exact h ⟨_,h2.1.2,h3⟩
 by_cases h1:l.length<16
 ·exact decode_short cap l w hl h1 (bad λ⟨n,h,_⟩=>by omega)
 by_cases h2:1996<l.length
 ·exact O5 cap l w hl h2 (bad λ⟨n,h,_⟩=>by omega)
 by_cases h3:((l.length:Int)-16)%20=0
 ·obtain⟨n,hn⟩:∃n,l.length=16+20*n:=⟨(l.length-16)/20,by omega⟩;by_cases hc:pX l=n
  ·exact O6 cap l n w hn (by omega) hc
  ·exact Tf cap l n w hn (by omega) hc
 ·exact Tj cap l w hl (by omega) (by omega) h3 (bad λ⟨n,h,_⟩=>by omega)
end E1
end Go.Proofs.YtfnehkmhcmkhjaaGreat
