/- Parts:XEn8 -/
import Derived.Test.YtfnehkmhcmkhjaaGreatDvAl
import Derived.Test.YtfnehkmhcmkhjaaGreatDv26
import Derived.Test.YtfnehkmhcmkhjaaGreatDv23
set_option maxRecDepth 100000
set_option maxHeartbeats 8000000
set_option linter.unusedVariables false
namespace Go.Proofs.YtfnehkmhcmkhjaaGreat
open Tryz
namespace E1
open Go.RowKit xA
theorem acR(k:Nat)(a:Int):eH k [a]=(dQ a k).1:=by simp[eH]
theorem acS(k:Nat)(a b:Int):eH k [a,b]=(dQ a k).1++(dQ b k).1:=by simp[eH]
theorem flat3(k:Nat)(a b c:Int):eH k [a,b,c]=(dQ a k).1++((dQ b k).1++(dQ c k).1):=by simp[eH]
def part(q cl:Int)(fin:Bool)(l:List T.az)(i:Nat):List UInt8:=yO q cl fin l.length++(l.take i).flatMap jM
theorem BD{q cl:Int}{fin:Bool}{l:List T.az}{i:Nat}(h:i<l.length):part q cl fin l (i+1)=part q cl fin l i++jM (T.tr l i):=by unfold part;rw[List.take_add_one,List.flatMap_append];simp[T.tr,List.getElem?_eq_getElem h]
theorem Nc(q cl:Int)(fin:Bool)(l:List T.az)(i:Nat):(part q cl fin l i).length<=14+20 * i:=by have h1:=MJ q cl fin l.length;have h2:=MI (l.take i);rw[List.length_take]at h2;unfold part;rw[List.length_append];omega
theorem zn(q cl:Int)(fin:Bool)(l:List T.az):part q cl fin l l.length=iP q cl fin l:=by unfold part iP; rw[List.take_length]
theorem BF(q cl:Int)(fin:Bool)(l:List T.az):([80,77,65,49]++eH 4 [q])++eH 2 [cl,fn fin,l.length]=part q cl fin l 0:=by simp[part,yO,acR,flat3,b2,b4]
theorem Cc(S:List UInt8)(x:T.az):((S++eH 2 [x.num,x.bP])++eH 4 [x.st,x.len,x.nx])++eH 2 [x.cZ,x.pk]=S++jM x:=by simp[jM,acS,flat3,b2,b4]
theorem qE(k:Nat)(xs:List Int){S:List UInt8}{m:Nat}(h:S.length<=m)(n:Nat)(hn:xs.length=n):(S++eH k xs).length<=m+k * n:=by have:=yJ k xs;rw[List.length_append];rw[hn]at this;omega
theorem FM(q cl:Int)(sv:Value)(l:List T.az)(w:World)(hr:aW w sv l)(hf:nC l)(hq:q<=9223372036854775807)(hcl:cl<=9223372036854775807):
 Calls prog 247 #[au cl true sv,.int .i64 q] w fun e w'=>e=.returned (.string (str (dA q cl true l)))/\Below w.heap.size w w':=by
 have HR:=zH hr;obtain⟨a,c,b,off,rfl,hac,hcell⟩:=hr;have HC:=zH hcell; clear hcell;have hln:=hf.1;have HF:=zH hf.2;clear hf;have xY:CE w cl true (.slice a l.length c) [80,77,65,49] ((w.alloc (.cells #[.int .i64 cl,.bool true,.slice a l.length c] 37)).alloc (.cells #[.string { data:=#[80,77,65,49] }] 9)):=
  ⟨(Bx.new w _ _).alloc _,by have:=Bx.new (w.alloc (.cells #[.int .i64 cl,.bool true,.slice a l.length c] 37)) 9 [.string (str [80,77,65,49])]; rw[World.size_alloc]at this; exact this,((zB _ _).alloc (zl _) _).alloc (by simp) _⟩
 have OI:(l.length:Int)<=9223372036854775807:=by omega
 have VE:=zH (BF q cl true l);go_enter func247,ntmps247;go_upto_region 2 with (fail)
 generalize (w.alloc (.cells #[.int .i64 cl,.bool true,.slice a l.length c] 37)).alloc (.cells #[.string { data:=#[80,77,65,49] }] 9)=w1 at xY ⊢;obtain⟨ht0,ht1,ht2,hlt1⟩:=xY.facts;go_wp2_with fail;refine(xB xY [q] 1 rfl (by omega) (by simpa using hq) (by simp)).mono ?_;rintro e w2 ⟨rfl,HS2,_⟩;clear ht0 ht1 ht2 hlt1 xY;have hL2:=qE 4 [q] (S:=[80,77,65,49]) (m:=4) (zl _) 1 rfl;obtain⟨ht0,ht1,ht2,hlt1⟩:=HS2.facts;go_wp2_with fail;refine(qo HS2 [cl,1,l.length] 3 rfl (by omega) (by simp; omega) (by omega)).mono ?_;rintro e w3 ⟨rfl,qQ,_⟩;replace qQ:CE w cl true (.slice a l.length c) (part q cl true l 0) w3:=by rw[<-VE.out]; exact qQ
 clear ht0 ht1 ht2 hlt1 HS2 hL2 VE;obtain⟨ht0,ht1,ht2,hlt1⟩:=qQ.facts;go_wp2_with fail;clear ht0 ht1 ht2 hlt1
 go_loopw [29] (fun vi wr=>∃i:Nat,i<=l.length/\vi=.int .i64 i/\CE w cl true (.slice a l.length c) (part q cl true l i) wr) (fun vi _=>l.length - (RowKit.intOf vi).toNat)
 case atStart=>exact⟨0,by omega,rfl,qQ⟩
 case round=>
  clear qQ;obtain⟨i,hi,rfl,HS⟩:=hrel;by_cases hlt:i<l.length
  ·obtain⟨ha,hrange⟩:=HC.out i hlt;have HP:=zH ((Cc (part q cl true l i) (T.tr l i)).trans (BD (q:=q) (cl:=cl) (fin:=true) hlt).symm);have hpl:=Nc q cl true l i;obtain⟨S2,hS2⟩:∃S2,S2=part q cl true l (i+1):=⟨_,rfl⟩;rw[<-hS2]at HP;have HS2:=zH hS2; clear hS2;generalize part q cl true l i=S at HP hpl HS;have hsm:=HF.out i hlt;generalize T.tr l i=x at *;have hix:=fun w'=>aH underlying35 sizeTrack (cap:=c) ha hlt _ rfl w'
   have hrg:wr.rangeAt b (off+i * 7) (jy x):=fun j u hu=>(HS.le.cell (p:=⟨b,off+i * 7+j,none⟩) (zc w _ (hrange j u hu))).trans (hrange j u hu)
   clear hrange;obtain⟨hc0,hc1,hc2,hc3,hc4,hc5,hc6⟩:=xO hrg;obtain⟨ht0,ht1,ht2,hlt1⟩:=HS.facts;have Ha:=zH ha; clear ha hrg;unfold uB sm at hsm;obtain⟨s1,s2,s3,s4,s5,s6,s7⟩:=hsm;go_upto_region 11 with (fail)
   have HX:Bx (wr.alloc (.cells #[.int .i64 x.num,.int .i64 x.bP,.int .i64 x.st,.int .i64 x.len,.int .i64 x.nx,.int .i64 x.cZ,.int .i64 x.pk] 94)) wr.heap.size 94 (jy x):=Bx.new _ _ (jy x);have xZ:=HS.call ((zB wr.heap.size wr).alloc (zl _) (.cells #[.int .i64 x.num,.int .i64 x.bP,.int .i64 x.st,.int .i64 x.len,.int .i64 x.nx,.int .i64 x.cZ,.int .i64 x.pk] 94));obtain⟨g,hg⟩:∃g,g=wr.heap.size:=⟨_,rfl⟩;have hgx:g≠w.heap.size+1:=by omega
   simp only[<-hg];rw[<-hg]at HX;generalize wr.alloc (.cells #[.int .i64 x.num,.int .i64 x.bP,.int .i64 x.st,.int .i64 x.len,.int .i64 x.nx,.int .i64 x.cZ,.int .i64 x.pk] 94)=w5 at HX xZ ⊢;clear ht0 ht1 ht2 hlt1 hc0 hc1 hc2 hc3 hc4 hc5 hc6 hix HS hg;have hx0:=HX.cell (i:=0) rfl;have hx1:=HX.cell (i:=1) rfl;go_wp2_with fail;refine(qo xZ [x.num,x.bP] 2 rfl (by omega) (by simp; omega) (by omega)).mono ?_;rintro e w6 ⟨rfl,wu,hk6⟩;have IV:=hk6 _ _ _ HX hgx;have hL6:=qE 2 [x.num,x.bP] hpl 2 rfl;clear hx0 hx1 HX xZ hk6;have hx2:=IV.cell (i:=2) rfl;have hx3:=IV.cell (i:=3) rfl;have hx4:=IV.cell (i:=4) rfl;go_wp2_with fail;refine(xB wu [x.st,x.len,x.nx] 3 rfl (by omega) (by simp; omega) (by omega)).mono ?_;rintro e w7 ⟨rfl,NZ,QO⟩;have LH:=QO _ _ _ IV hgx;have hL7:=qE 4 [x.st,x.len,x.nx] hL6 3 rfl;clear hx2 hx3 hx4 IV wu QO;have hx5:=LH.cell (i:=5) rfl;have hx6:=LH.cell (i:=6) rfl;go_wp2_with fail;refine(qo NZ [x.cZ,x.pk] 2 rfl (by omega) (by simp; omega) (by omega)).mono ?_;rintro e w8 ⟨rfl,Dk,hk8⟩;replace Dk:CE w cl true (.slice a l.length c) S2 w8:=by rw[<-HP.out]; exact Dk
   clear hx5 hx6 LH NZ hk8 hL6 hL7;go_wp2_with fail;go_roundw;case rel=>exact⟨i+1,by omega,by go_num,by rw[<-HS2.out]; exact Dk⟩
   case measure=>simp[RowKit.intOf]; omega
  ·obtain rfl:i=l.length:=by omega
   rw[zn]at HS;have hbl:=xC q cl true l;have HE:Hid (dA q cl true l=iP q cl true l++jW (C.crc 0 (iP q cl true l))):=zH rfl;generalize iP q cl true l=S at HS HE hbl;have hcr:=C.uZ (c:=0) (by omega) S;have hsz1:=ax S;have YQ:Hid (∀W,Calls prog 115 #[.string (str S)] W fun e w'=>e=.returned (.int .u16 (C.crc 0 S:Nat))/\Below W.heap.size W w'):=zH fun W=>by
    have:=LP (str S) W (by omega);have e:(str S).data.toList=S:=by simp[str]
    rw[e]at this;exact this
   generalize C.crc 0 S=z at YQ HE hcr;have HCB:=zH (fun W=>tJ z W hcr);have hsz2:=ax (jW z);have hz2:(jW z).length=2:=rfl;rw[hz2]at hsz2;generalize jW z=Z at *;have hnl:¬ 9223372036854775807<S.length+2:=by omega
   go_wp2_with fail;obtain⟨g,hg⟩:∃g,g=w.heap.size+1:=⟨_,rfl⟩;have hs0:=HS.s.cell (i:=0) rfl;have hgl:=HS.s.lt;rw[<-hg]at hs0 hgl;simp only[<-hg];have HSS:Hid (∀W,Below wr.heap.size wr W->Below wr.heap.size wr W/\W.cell? ⟨g,0,none⟩=some (.string (str S))):=zH fun W hW=>⟨hW,(hW.cell (p:=⟨g,0,none⟩) hgl).trans hs0⟩
   have jE:=zH HS.le;have HG:=zH hg;clear hs0 HS hg hz2 hbl
   go_region_held3 (fun W=>Below wr.heap.size wr W/\W.cell? ⟨g,0,none⟩=some (.string (str S)))
    (first | exact HSS.out _ ((zB _ _).drew) | exact HSS.out _ ‹_›)
    (first
     | (go_at_call 115; refine(YQ.out _).mono ?_; rintro e w8 ⟨rfl,hb8⟩; have wI:=(And.left ‹Below wr.heap.size wr _/\_›).trans (hb8.mono (And.left ‹Below wr.heap.size wr _/\_›).size))
     | (go_at_call 114; refine(HCB.out _).mono ?_; rintro e w8 ⟨rfl,hb8⟩; have wI:=(And.left ‹Below wr.heap.size wr _/\_›).trans (hb8.mono (And.left ‹Below wr.heap.size wr _/\_›).size)))
   all_goals
    have wI:=And.left ‹Below wr.heap.size wr _/\_›;go_wp2_with fail;go_ret;refine⟨?_,jE.out.trans (wI.mono jE.out.size)⟩;rw[HE.out,<-kz];rfl
theorem Dj(q cl:Int)(sv:Value)(l:List T.az)(w:World)(hr:aW w sv l)(hf:nC l)(hq:q<=9223372036854775807)(hcl:cl<=9223372036854775807):
 Calls prog 247 #[au cl false sv,.int .i64 q] w fun e w'=>e=.returned (.string (str (dA q cl false l)))/\Below w.heap.size w w':=by
 have HR:=zH hr;obtain⟨a,c,b,off,rfl,hac,hcell⟩:=hr;have HC:=zH hcell; clear hcell;have hln:=hf.1;have HF:=zH hf.2;clear hf;have xY:CE w cl false (.slice a l.length c) [80,77,65,49] ((w.alloc (.cells #[.int .i64 cl,.bool false,.slice a l.length c] 37)).alloc (.cells #[.string { data:=#[80,77,65,49] }] 9)):=
  ⟨(Bx.new w _ _).alloc _,by have:=Bx.new (w.alloc (.cells #[.int .i64 cl,.bool false,.slice a l.length c] 37)) 9 [.string (str [80,77,65,49])]; rw[World.size_alloc]at this; exact this,((zB _ _).alloc (zl _) _).alloc (by simp) _⟩
 have OI:(l.length:Int)<=9223372036854775807:=by omega
 have VE:=zH (BF q cl false l);go_enter func247,ntmps247;go_upto_region 2 with (fail)
 generalize (w.alloc (.cells #[.int .i64 cl,.bool false,.slice a l.length c] 37)).alloc (.cells #[.string { data:=#[80,77,65,49] }] 9)=w1 at xY ⊢;obtain⟨ht0,ht1,ht2,hlt1⟩:=xY.facts;go_wp2_with fail;refine(xB xY [q] 1 rfl (by omega) (by simpa using hq) (by simp)).mono ?_;rintro e w2 ⟨rfl,HS2,_⟩;clear ht0 ht1 ht2 hlt1 xY;have hL2:=qE 4 [q] (S:=[80,77,65,49]) (m:=4) (zl _) 1 rfl;obtain⟨ht0,ht1,ht2,hlt1⟩:=HS2.facts;go_wp2_with fail;refine(qo HS2 [cl,0,l.length] 3 rfl (by omega) (by simp; omega) (by omega)).mono ?_;rintro e w3 ⟨rfl,qQ,_⟩;replace qQ:CE w cl false (.slice a l.length c) (part q cl false l 0) w3:=by rw[<-VE.out]; exact qQ
 clear ht0 ht1 ht2 hlt1 HS2 hL2 VE;obtain⟨ht0,ht1,ht2,hlt1⟩:=qQ.facts;go_wp2_with fail;clear ht0 ht1 ht2 hlt1
 go_loopw [29] (fun vi wr=>∃i:Nat,i<=l.length/\vi=.int .i64 i/\CE w cl false (.slice a l.length c) (part q cl false l i) wr) (fun vi _=>l.length - (RowKit.intOf vi).toNat)
 case atStart=>exact⟨0,by omega,rfl,qQ⟩
 case round=>
  clear qQ;obtain⟨i,hi,rfl,HS⟩:=hrel;by_cases hlt:i<l.length
  ·obtain⟨ha,hrange⟩:=HC.out i hlt;have HP:=zH ((Cc (part q cl false l i) (T.tr l i)).trans (BD (q:=q) (cl:=cl) (fin:=false) hlt).symm);have hpl:=Nc q cl false l i;obtain⟨S2,hS2⟩:∃S2,S2=part q cl false l (i+1):=⟨_,rfl⟩;rw[<-hS2]at HP;have HS2:=zH hS2; clear hS2;generalize part q cl false l i=S at HP hpl HS;have hsm:=HF.out i hlt;generalize T.tr l i=x at *;have hix:=fun w'=>aH underlying35 sizeTrack (cap:=c) ha hlt _ rfl w'
   have hrg:wr.rangeAt b (off+i * 7) (jy x):=fun j u hu=>(HS.le.cell (p:=⟨b,off+i * 7+j,none⟩) (zc w _ (hrange j u hu))).trans (hrange j u hu)
   clear hrange;obtain⟨hc0,hc1,hc2,hc3,hc4,hc5,hc6⟩:=xO hrg;obtain⟨ht0,ht1,ht2,hlt1⟩:=HS.facts;have Ha:=zH ha; clear ha hrg;unfold uB sm at hsm;obtain⟨s1,s2,s3,s4,s5,s6,s7⟩:=hsm;go_upto_region 11 with (fail)
   have HX:Bx (wr.alloc (.cells #[.int .i64 x.num,.int .i64 x.bP,.int .i64 x.st,.int .i64 x.len,.int .i64 x.nx,.int .i64 x.cZ,.int .i64 x.pk] 94)) wr.heap.size 94 (jy x):=Bx.new _ _ (jy x);have xZ:=HS.call ((zB wr.heap.size wr).alloc (zl _) (.cells #[.int .i64 x.num,.int .i64 x.bP,.int .i64 x.st,.int .i64 x.len,.int .i64 x.nx,.int .i64 x.cZ,.int .i64 x.pk] 94));obtain⟨g,hg⟩:∃g,g=wr.heap.size:=⟨_,rfl⟩;have hgx:g≠w.heap.size+1:=by omega
   simp only[<-hg];rw[<-hg]at HX;generalize wr.alloc (.cells #[.int .i64 x.num,.int .i64 x.bP,.int .i64 x.st,.int .i64 x.len,.int .i64 x.nx,.int .i64 x.cZ,.int .i64 x.pk] 94)=w5 at HX xZ ⊢;clear ht0 ht1 ht2 hlt1 hc0 hc1 hc2 hc3 hc4 hc5 hc6 hix HS hg;have hx0:=HX.cell (i:=0) rfl;have hx1:=HX.cell (i:=1) rfl;go_wp2_with fail;refine(qo xZ [x.num,x.bP] 2 rfl (by omega) (by simp; omega) (by omega)).mono ?_;rintro e w6 ⟨rfl,wu,hk6⟩;have IV:=hk6 _ _ _ HX hgx;have hL6:=qE 2 [x.num,x.bP] hpl 2 rfl;clear hx0 hx1 HX xZ hk6;have hx2:=IV.cell (i:=2) rfl;have hx3:=IV.cell (i:=3) rfl;have hx4:=IV.cell (i:=4) rfl;go_wp2_with fail;refine(xB wu [x.st,x.len,x.nx] 3 rfl (by omega) (by simp; omega) (by omega)).mono ?_;rintro e w7 ⟨rfl,NZ,QO⟩;have LH:=QO _ _ _ IV hgx;have hL7:=qE 4 [x.st,x.len,x.nx] hL6 3 rfl;clear hx2 hx3 hx4 IV wu QO;have hx5:=LH.cell (i:=5) rfl;have hx6:=LH.cell (i:=6) rfl;go_wp2_with fail;refine(qo NZ [x.cZ,x.pk] 2 rfl (by omega) (by simp; omega) (by omega)).mono ?_;rintro e w8 ⟨rfl,Dk,hk8⟩;replace Dk:CE w cl false (.slice a l.length c) S2 w8:=by rw[<-HP.out]; exact Dk
   clear hx5 hx6 LH NZ hk8 hL6 hL7;go_wp2_with fail;go_roundw;case rel=>exact⟨i+1,by omega,by go_num,by rw[<-HS2.out]; exact Dk⟩
   case measure=>simp[RowKit.intOf]; omega
  ·obtain rfl:i=l.length:=by omega
   rw[zn]at HS;have hbl:=xC q cl false l;have HE:Hid (dA q cl false l=iP q cl false l++jW (C.crc 0 (iP q cl false l))):=zH rfl;generalize iP q cl false l=S at HS HE hbl;have hcr:=C.uZ (c:=0) (by omega) S;have hsz1:=ax S;have YQ:Hid (∀W,Calls prog 115 #[.string (str S)] W fun e w'=>e=.returned (.int .u16 (C.crc 0 S:Nat))/\Below W.heap.size W w'):=zH fun W=>by
    have:=LP (str S) W (by omega);have e:(str S).data.toList=S:=by simp[str]
    rw[e]at this;exact this
   generalize C.crc 0 S=z at YQ HE hcr;have HCB:=zH (fun W=>tJ z W hcr);have hsz2:=ax (jW z);have hz2:(jW z).length=2:=rfl;rw[hz2]at hsz2;generalize jW z=Z at *;have hnl:¬ 9223372036854775807<S.length+2:=by omega
   go_wp2_with fail;obtain⟨g,hg⟩:∃g,g=w.heap.size+1:=⟨_,rfl⟩;have hs0:=HS.s.cell (i:=0) rfl;have hgl:=HS.s.lt;rw[<-hg]at hs0 hgl;simp only[<-hg];have HSS:Hid (∀W,Below wr.heap.size wr W->Below wr.heap.size wr W/\W.cell? ⟨g,0,none⟩=some (.string (str S))):=zH fun W hW=>⟨hW,(hW.cell (p:=⟨g,0,none⟩) hgl).trans hs0⟩
   have jE:=zH HS.le;have HG:=zH hg;clear hs0 HS hg hz2 hbl
   go_region_held3 (fun W=>Below wr.heap.size wr W/\W.cell? ⟨g,0,none⟩=some (.string (str S)))
    (first | exact HSS.out _ ((zB _ _).drew) | exact HSS.out _ ‹_›)
    (first
     | (go_at_call 115; refine(YQ.out _).mono ?_; rintro e w8 ⟨rfl,hb8⟩; have wI:=(And.left ‹Below wr.heap.size wr _/\_›).trans (hb8.mono (And.left ‹Below wr.heap.size wr _/\_›).size))
     | (go_at_call 114; refine(HCB.out _).mono ?_; rintro e w8 ⟨rfl,hb8⟩; have wI:=(And.left ‹Below wr.heap.size wr _/\_›).trans (hb8.mono (And.left ‹Below wr.heap.size wr _/\_›).size)))
   all_goals
    have wI:=And.left ‹Below wr.heap.size wr _/\_›;go_wp2_with fail;go_ret;refine⟨?_,jE.out.trans (wI.mono jE.out.size)⟩;rw[HE.out,<-kz];rfl
theorem Jt(q cl:Int)(fin:Bool)(sv:Value)(l:List T.az)(w:World)(hr:aW w sv l)(hf:nC l)(hq:q<=9223372036854775807)(hcl:cl<=9223372036854775807):
 Calls prog 247 #[au cl fin sv,.int .i64 q] w fun e w'=>e=.returned (.string (str (dA q cl fin l)))/\Below w.heap.size w w':=by
 cases fin
 ·exact Dj q cl sv l w hr hf hq hcl
 ·exact FM q cl sv l w hr hf hq hcl
end E1
end Go.Proofs.YtfnehkmhcmkhjaaGreat
