/- Parts -/
import Derived.Test.YtfnehkmhcmkhjaaGreatDu26
import Derived.Test.YtfnehkmhcmkhjaaGreatDu28
import Derived.Test.YtfnehkmhcmkhjaaGreatDu27
set_option maxRecDepth 100000
set_option maxHeartbeats 8000000
set_option linter.unusedVariables false
namespace Go.Proofs.YtfnehkmhcmkhjaaGreat
open Tryz
namespace T7
open Go Go.RowKit Ih
def par(aj:Int)(d:List UInt8):List UInt8:=W8.jA (OG aj d) (W8.pF 0) 138
def rec(aj:Int)(d:List UInt8):List UInt8:=sK (par aj d)
theorem MQ(aj:Int){d:List UInt8}(h:d.length=2048):(par aj d).length=2352:=by unfold par;rw[W8.gI,qP aj h]
theorem yS(aj:Int)(d:List UInt8):(rec aj d).length=2352:=zg _
theorem X9(aj:Int){d:List UInt8}(h:d.length=2048):sK (rec aj d)=par aj d:=abd (MQ aj h)
theorem FK{aj:Int}{d:List UInt8}(h0:-150<=aj)(h1:aj<=449849)(hd:d.length=2048):Good (par aj d) aj d:=
 ⟨MQ aj hd,hd,h0,h1,W8.ae1 (qP aj hd)⟩
theorem acK(aj:Int)(d:List UInt8)(hd:d.length=2048)(w:World):Calls prog 88 #[.string (str (OG aj d)),.int .i64 0] w λe w'=>e=.returned (.tuple #[.string (str (par aj d)),.int .i64 0])/\Below w.heap.size w w':=by have h:=W8.Pq (OG aj d) 0 w (by rw[qP aj hd];omega);rw[W8.af8 (qP aj hd) rfl]at h;dsimp only at h;unfold par;exact h
theorem U7(aj:Int)(d:List UInt8)(hd:d.length=2048)(w:World):Calls prog 69 #[.string (str (par aj d))] w λe w'=>e=.returned (.tuple #[.string (str (rec aj d)),.int .i64 0])/\Below w.heap.size w w':=zk _ (MQ aj hd) w
theorem aiv(c:UInt8):∀n,Lib.repeatL [c] n=List.replicate n c
 |0=>rfl
 |n+1=>by rw[Lib.repeatL,aiv c n,List.replicate_succ];rfl
theorem ahx(c:UInt8)(n:Nat)(hn:n<=1000000)(W:World):Calls prog 64 #[.string ⟨#[c]⟩,.int .i64 (n:Nat)] W λe w'=>e=.returned (.string (str (List.replicate n c)))/\Below W.heap.size W w':=by
 have h:=strings_Repeat (⟨#[c]⟩:ByteArray) n W (by omega) (by simp[ByteArray.size];omega);have e:(⟨(Lib.repeatL (⟨#[c]⟩:ByteArray).data.toList n).toArray⟩:ByteArray)=str (List.replicate n c):=by have h:(⟨#[c]⟩:ByteArray).data.toList = [c]:=rfl;rw[h,aiv];rfl
 rw[e]at h;exact h
def zD:List UInt8:=List.replicate 2048 0
theorem NW:zD.length=2048:=Yq ..
end T7
namespace T7
open Go Go.RowKit C9 wu
theorem amM(aj:Int)(d:List UInt8)(w:World)(h0:-150<=aj)(h1:aj<=449849)(hd:d.length=2048):
 Calls prog 40 #[.int .i64 aj,.string (str d)] w λe w'=>e=.returned (.string (str (rec aj d)))/\Below w.heap.size w w':=by
 have HB:=zH (λW=>VN aj d W h0 h1 hd);have HE:=zH (λW=>acK aj d hd W);have HS:=zH (λW=>U7 aj d hd W);unfold Q5 at HB;generalize str (rec aj d)=R at *;generalize str (par aj d)=P at *;generalize str (OG aj d)=BL at *;generalize str d=D at *;clear h0 h1 hd;go_enter func40,ntmps40;go_wp2_with fail;refine(HB.out w).mono ?_;rintro e w1 ⟨rfl,hb1⟩;go_wp2_with fail;refine(HE.out w1).mono ?_;rintro e w2 ⟨rfl,hb2⟩;go_wp2_with fail;refine(HS.out w2).mono ?_;rintro e w3 ⟨rfl,hb3⟩;have h2:=hb1.trans (hb2.mono hb1.size);have HL:=zH (h2.trans (hb3.mono h2.size));clear hb1 hb2 hb3 h2;go_wp2_with fail;go_ret;exact⟨rfl,HL.out⟩
def nT(n:Nat)(x:List UInt8):Bool:=decide (x.length≠n)
theorem ag0(x:List UInt8)(hx:x.length<=9223372036854775807)(W:World):Calls prog 89 #[.string (str x)] W λe w'=>e=.returned (.bool (nT 2352 x))/\W=w':=by have hsz:=au x;have hsz2:(str x).data.size=x.length:=hsz;unfold nT;generalize str x=s at *;generalize x.length=n at *;go_enter func89,ntmps89;go_wp2_with fail;go_ret;exact⟨iT (by by_cases h:n=2352 <;> simp[h] <;> omega),rfl⟩
def kS(l:List UInt8):SM:=⟨⟨1,1,l,λ_=>false,λ_=>0⟩,none,none⟩
def dH(l:List (List UInt8)):aA:=⟨0,1,l.map λs=>(kS s).s,[]⟩
theorem wU(l:List (List UInt8)):(dH l).n=l.length:=by simp[dH,aA.n]
theorem yF(l:List (List UInt8)){i:Nat}(h:i<l.length):(dH l).sec i=(kS (aJ [] l i)).s:=by simp[dH,aA.sec,aJ,h]
theorem Ql{l:List (List UInt8)}(h1:1<=l.length)(h2:l.length<=4096)(hl:∀i,i<l.length->(aJ [] l i).length=2352):(dH l).Ok 1:=by refine⟨by simp[dH],by simp[dH],by rw[wU];exact⟨h1,h2⟩,λi hi=>?_,by simp[dH],by simp[dH,lU]⟩;rw[wU]at hi;rw[yF l hi];exact⟨by simp[kS],by simp[kS],λ_=>hl i hi,by simp only[kS];rw[hl i hi];exact zl _,by simp[kS],by simp[kS]⟩
def ai2(l:List (List UInt8))(w:World)(e:Ending)(w':World):Prop:=∃g X R,e=.returned (.tuple #[.pointer (some ⟨g,0,none⟩),.int .i64 0])/\fF w' g (dH l) X R/\Below w.heap.size w w'/\∀b,X b\/R b->w.heap.size<=b
theorem aaN{w':World}{l:List (List UInt8)}{B gm gs c:Nat}(hx:Bx w' gm 166 [.int .i64 0,.int .i64 1,.slice (some ⟨gs,0,none⟩) l.length c,.slice none 0 0,.map none])
 (ho:w'.ownsRow B 175 5 (.slice (some ⟨gs,0,none⟩) l.length c) l.length (fH kU (l.map kS))):
 fF w' gm (dH l) (λb=>b=gs\/b=gm) (λ_=>False):=by
 obtain⟨hlen,h|⟨g,cap,cur,hv,hB,hg,hc1,hc2,hs,ht⟩⟩:=ho
 ·simp at h
 simp only[YT,YA,Addr.mk.injEq,and_true,true_and]at hv;obtain⟨rfl,rfl⟩:=hv;have hat:∀i,i<l.length->aJ dD (l.map kS) i=kS (aJ [] l i):=λi hi=>by simp[aJ,hi]
 refine⟨⟨l.map kS,gs,cur.toList.drop (l.length*5),c,.slice none 0 0,none⟩,?_,?_,?_,by simpa using hc1,?_,?_,?_,?_,.inr rfl,.inl rfl,?_,?_,λb _ h=>h,λs hs=>(by cases hs),λb hb=>by cases hb⟩
 ·simp[dH]
 ·rw[YQ];exact hx
 ·show w'.heap[gs]? = _;rw[hg,<-ht,List.take_append_drop]
 ·intro i p hi;simp only[YQ]at hi;simp only[hat i hi];cases p
  ·exact λ_=>rfl
  ·exact λ_=>rfl
 ·intro i j p q b hi hj h1 h2;simp only[YQ]at hi;simp only[hat i hi]at h1;cases p <;> simp[SM.bk,kS]at h1
 ·intro w2 _;exact dB.nil w2
 ·intro w2 _ i hi;show fE _ [] i = [];have e:∀m,ed [] m = []:=λm=>kP (λf=>by
   have:lT [] f 28 = []:=by simp[lT,pU]
   rw[yg,this];decide) m
  simp[fE,qE,sD,e]
 ·intro i p b hi h1;simp only[YQ]at hi;simp only[hat i hi]at h1;cases p <;> simp[SM.bk,kS]at h1
 ·rintro b ((rfl|rfl)|h)
  ·exact(Yd.1 hg).1
  ·exact hx.lt
  ·exact h.elim
theorem aeO(x:SM):∀u∈kU x,u.oneCell'=true:=λu hu=>by simp only[kU,XW,List.not_mem_nil,or_false]at hu;rcases hu with rfl|rfl|rfl|rfl|rfl <;> rfl
def MpS(l:List (List UInt8))(w:World)(gm i:Nat)(wr:World):Prop:=∃vs,Bx wr gm 166 [.int .i64 0,.int .i64 1,vs,.slice none 0 0,.map none]/\wr.ownsRow (gm+1) 175 5 vs i (fH kU ((l.take i).map kS))/\Below gm w wr
theorem ag1(v:Value)(l:List (List UInt8))(w:World)(hr:fQ w v l)(h1:1<=l.length)(h2:l.length<=4096)(hl:∀i,i<l.length->(aJ [] l i).length=2352):
 Calls prog 41 #[v] w (ai2 l w):=by
 have hl':∀x∈l,x.length=2352:=λx hx=>by obtain⟨i,hi,rfl⟩:=YL hx;have:=hl i hi;simpa[aJ,hi]using this
 have HF:=zH (Lc 89 (λ_ _=>by kernel_rfl) (nT 2352) v l w hr (by omega) (λx W hx=>ag0 x (by rw[hl' x hx];omega) W));have hany:anyS (nT 2352) l=false:=xJ λi hi=>by unfold nT;rw[hl i hi];decide
 rw[hany]at HF;obtain⟨a,c,rfl,_⟩:=dB.form hr;obtain⟨b,o,k⟩:=dB.at hr;have HK:=zH k;clear hr k hany hl hl';go_enter func41,ntmps41;go_wp2_with fail;refine HF.out.mono ?_;rintro e w1 ⟨rfl,rfl⟩;clear HF;have hx0:Bx (w.alloc (.cells #[.int .i64 0,.int .i64 1,.slice none 0 0,.slice none 0 0,.map none] 166)) w.heap.size 166 [.int .i64 0,.int .i64 1,.slice none 0 0,.slice none 0 0,.map none]:=Bx.new w _ _;have hb0:=(zB w.heap.size w).alloc (zl _) (.cells #[.int .i64 0,.int .i64 1,.slice none 0 0,.slice none 0 0,.map none] 166);obtain⟨gm,hgm⟩:∃gm,gm=w.heap.size:=⟨_,rfl⟩;have Hgm:=zH hgm;rw[<-hgm]at hx0 hb0;have HX0:=zH hx0;have HB0:=zH hb0;clear hgm hx0 hb0;go_wp2_with fail
 go_loopw [23] (λvi wr=>∃i:Nat,i<=l.length/\vi=.int .i64 i/\MpS l w gm i wr) (λvi _=>l.length-(RowKit.intOf vi).toNat)
 case atStart=>exact⟨0,by omega,rfl,.slice none 0 0,HX0.out,⟨rfl,.inl ⟨rfl,rfl⟩⟩,HB0.out⟩
 case round=>
  obtain⟨i,hi,rfl,vs,hx,ho,hb⟩:=hrel;have HM0:=zH (show gm=w.heap.size from Hgm.out);rw[<-HM0.out];by_cases hlt:i<l.length
  ·obtain⟨ha,hrange⟩:=HK.out i hlt;have hix:=λw'=>aB underlying45 (by kernel_rfl:(prog.info? 9).map (·.size)=some 1) (cap:=c) ha hlt (i:Int) rfl w'
   have hcl0:w.cell? ⟨b,o+i*1,none⟩=some (.string (str (aJ [] l i))):=hrange 0 _ rfl;have hbl:=zc w _ hcl0;have hcl:wr.cell? ⟨b,o+i*1,none⟩=some (.string (str (aJ [] l i))):=(hb.cell (p:=⟨b,o+i*1,none⟩) (by rw[HM0.out];exact hbl)).trans hcl0;simp only[Yy]at hix hcl;obtain⟨x,hxx⟩:∃x,x=aJ [] l i:=⟨_,rfl⟩;rw[<-hxx]at hcl;have HT:Hid ((l.take (i+1)).map kS=(l.take i).map kS++[kS x]):=zH (by rw[hxx,Yo hlt,List.map_append];simp[aJ,hlt]);have hln:((l.take i).map kS).length=i:=by simp;omega
   have hc2:=hx.cell (i:=2) rfl;have HA:Hid (∀W:World,Below wr.heap.size wr W->wr.heap.size<=W.heap.size->Bx W gm 166 [.int .i64 0,.int .i64 1,vs,.slice none 0 0,.map none]/\W.ownsRow (gm+1) 175 5 vs i (fH kU ((l.take i).map kS))/\Below gm w W):=zH λW h _=>⟨hx.call h,aV ho h,hb.trans (h.mono (Nat.le_of_lt hx.lt))⟩
   have hgl:=hx.lt;have hal:=(zB wr.heap.size wr).alloc (zl _) (.cells #[.int .i64 1,.int .i64 1,.string (str x),.map none,.map none] 175);obtain⟨hxa,hoa,hba⟩:=HA.out _ hal hal.size;have hrd:dB dD kU 5 (wr.alloc (.cells #[.int .i64 1,.int .i64 1,.string (str x),.map none,.map none] 175)) (.slice (some ⟨wr.heap.size,0,none⟩) 1 1) [kS x]:=dB.one (by omega) kC wr _ (kS x);generalize (l.take i).map kS=L at *;have CB:gm+1<=(wr.alloc (.cells #[.int .i64 1,.int .i64 1,.string (str x),.map none,.map none] 175)).heap.size:=by simp only[Yl];omega
   have HXA:=zH hxa;have HBA:=zH hba;have HX:=zH hxx;have Hha:=zH ha;clear hx ho hb hxx ha hrange hcl0 hxa hba HA hal HB0 HX0;go_wp2_with (at_builtin;refine BZ (d:=dD) (D:=kU) (l:=L) (m:=[kS x]) rfl _ _ rfl underlying163 infoSurf rfl (by omega) kC aeO hoa rfl hrd rfl (by unfold maxLen;simp only[XL];omega) (by simp only[XL];omega) CB ?_;intro v7 w7 jl lH;obtain⟨a7,c7,rfl⟩:=aS jl;have LU:=SI HXA.out lH (λh=>by have:=bH hoa gm h;omega);have hb7:=HBA.out.grown lH (by omega) (λq hq=>by have:=bH hoa q hq;omega);have LW:=LU.cell (i:=2) rfl;have hf7:=LU.free 2;clear hoa CB hrd lH hc2);go_roundw;case rel=>
    refine⟨i+1,by omega,by go_num,_,LU.set 2 _,?_,hb7.setCell (zl _) _⟩;rw[HT.out];exact lK jl (by simp only;omega) _
   case measure=>simp[RowKit.intOf];omega
  ·obtain rfl:i=l.length:=by omega
   rw[YE (zl _)]at ho;have ho5:=ho;obtain⟨gs,cp,rfl,hgs,_⟩:=kQ ho (by omega);have HM:=zH (aaN hx ho5);have HB:=zH hb;clear hx ho ho5 hb HB0 HX0;go_wp2_with fail;go_ret2;refine⟨_,_,_,rfl,HM.out,by rw[<-HM0.out];exact HB.out,?_⟩;rintro b9 ((rfl|rfl)|h)
   ·rw[<-HM0.out];omega
   ·exact YF HM0.out.symm
   ·exact h.elim
def recs(l:List (List UInt8))(k:Nat):List (List UInt8):=(List.range k).map λi=>rec (i:Nat) (aJ [] l i)
theorem ku(l:List (List UInt8))(k:Nat):(recs l k).length=k:=by simp[recs]
theorem aaV(l:List (List UInt8))(k:Nat):recs l (k+1)=recs l k++[rec (k:Nat) (aJ [] l k)]:=by simp[recs,Xf]
theorem Nk(l:List (List UInt8)){k i:Nat}(h:i<k):aJ [] (recs l k) i=rec (i:Nat) (aJ [] l i):=by simp[recs,aJ,h]
theorem VS(x:List UInt8)(hx:x.length<=9223372036854775807)(W:World):Calls prog 39 #[.string (str x)] W λe w'=>e=.returned (.bool (nT 2048 x))/\W=w':=by have hsz:=au x;have hsz2:(str x).data.size=x.length:=hsz;unfold nT;generalize str x=s at *;generalize x.length=n at *;go_enter func39,ntmps39;go_wp2_with fail;go_ret;exact⟨iT (by by_cases h:n=2048 <;> simp[h] <;> omega),rfl⟩
def kG(kind n:Int)(pm:Nat)(df:Option Addr)(cl:Int)(fin:Bool)(vt:Value)(A B:ByteArray)(vc:Value):List Value:=
 [.int .i64 kind,.int .i64 n,.pointer (some ⟨pm,0,none⟩),.pointer df,.int .i64 cl,.bool fin,vt,.string A,.string B,vc]
structure an0 (l:List (List UInt8)) (w w':World) (p pm:Nat) (X R:Nat->Prop):Prop where
 box:∃vt,Bx w' p 101 (kG 0 l.length pm none 1 true vt ⟨#[]⟩ ⟨#[]⟩ (.slice none 0 0))
 med:fF w' pm (dH (recs l l.length)) X R
 new:∀b,X b\/R b->w.heap.size<=b/\b≠p
 p:w.heap.size<=p
 bl:Below w.heap.size w w'
theorem Pn(v:Value)(l:List (List UInt8))(w:World)(hr:fQ w v l)(h1:1<=l.length)(h2:l.length<=4096)(hz:∀x∈l,x.length<=9223372036854775807)(hl:anyS (nT 2048) l=true):
 Calls prog 19 #[v] w λe w'=>e=.returned (.tuple #[.pointer none,.int .i64 1])/\w=w':=by
 have HF:=zH (Lc 39 (λ_ _=>by kernel_rfl) (nT 2048) v l w hr (by omega) (λx W hx=>VS x (hz x hx) W));rw[hl]at HF;obtain⟨a,c,rfl,_⟩:=dB.form hr;clear hr hl hz;go_enter func19,ntmps19;go_wp2_with fail;refine HF.out.mono ?_;rintro e w1 ⟨rfl,rfl⟩;clear HF;go_wp2_with fail;go_ret2;exact⟨rfl,rfl⟩
theorem afZ(v:Value)(l:List (List UInt8))(w:World)(hr:fQ w v l)(h1:1<=l.length)(h2:l.length<=4096)(hl:∀i,i<l.length->(aJ [] l i).length=2048):
 Calls prog 19 #[v] w λe w'=>∃p pm X R,e=.returned (.tuple #[.pointer (some ⟨p,0,none⟩),.int .i64 0])/\an0 l w w' p pm X R:=by
 have hl':∀x∈l,x.length=2048:=λx hx=>by obtain⟨i,hi,rfl⟩:=YL hx;have:=hl i hi;simpa[aJ,hi]using this
 have HF:=zH (Lc 39 (λ_ _=>by kernel_rfl) (nT 2048) v l w hr (by omega) (λx W hx=>VS x (by rw[hl' x hx];omega) W));have hany:anyS (nT 2048) l=false:=xJ λi hi=>by unfold nT;rw[hl i hi];decide
 rw[hany]at HF;obtain⟨a,c,rfl,_⟩:=dB.form hr;obtain⟨b,o,k⟩:=dB.at hr;have HK:=zH k;have HL:=zH hl;clear hr k hany hl hl';go_enter func19,ntmps19;go_wp2_with fail;refine HF.out.mono ?_;rintro e w1 ⟨rfl,rfl⟩;clear HF;go_wp2_with fail
 go_loopw [4,25] (λvs vi wr=>∃i:Nat,i<=l.length/\vi=.int .i64 i/\wr.ownsRow w.heap.size 9 1 vs i (fH uY (recs l i))/\Below w.heap.size w wr) (λ_ vi _=>l.length-(RowKit.intOf vi).toNat)
 case atStart=>exact⟨0,by omega,rfl,⟨rfl,.inl ⟨rfl,rfl⟩⟩,zB _ _⟩
 case round=>
  obtain⟨i,hi,rfl,ho,hb⟩:=hrel;by_cases hlt:i<l.length
  ·obtain⟨ha,hrange⟩:=HK.out i hlt;have hix:=λw'=>aB underlying45 (by kernel_rfl:(prog.info? 9).map (·.size)=some 1) (cap:=c) ha hlt (i:Int) rfl w'
   have hcl:wr.cell? ⟨b,o+i*1,none⟩=some (.string (str (aJ [] l i))):=(hb.cell (p:=⟨b,o+i*1,none⟩) (zc w _ (hrange 0 _ rfl))).trans (hrange 0 _ rfl);simp only[Yy]at hix hcl;have HR:=zH (λW=>amM (i:Nat) (aJ [] l i) W (by omega) (by omega) (HL.out i hlt));have HT:=zH (aaV l i);obtain⟨x,hxx⟩:∃x,x=rec (i:Nat) (aJ [] l i):=⟨_,rfl⟩;rw[<-hxx]at HR HT;obtain⟨va,vc,rfl⟩:=aS ho;generalize str (aJ [] l i)=s at *;have HO:=zH ho;have HB:=zH hb;have Ha:=zH ha;clear ho hb hxx ha hrange;go_wp2_with fail;refine(HR.out wr).mono ?_;rintro e w2 ⟨rfl,hb2⟩;have HB2:=zH (HB.out.trans (hb2.mono HB.out.size));have HO2:=zH (aV HO.out hb2);have hal:=(zB w2.heap.size w2).alloc (zl _) (.cells #[.string (str x)] 9);have hoa:=aV HO2.out hal;have HBA:=zH (HB2.out.trans (hal.mono HB2.out.size));have CB:w.heap.size<=(w2.alloc (.cells #[.string (str x)] 9)).heap.size:=HBA.out.size;clear hb2 hal;go_wp2_with (at_builtin;refine xu rfl _ _ rfl underlying45 infoStr9 rfl hoa rfl (g:=w2.heap.size) (y:=.string (str x)) rfl (by simp) rfl (by unfold maxLen;omega) (by omega) CB ?_;intro v8 w8 qj al1 aop;obtain⟨a8,c8,rfl⟩:=aS qj;have NZ:=zH (HBA.out.grown al1 CB (λq hq=>bH hoa q hq));clear hoa CB al1 aop);go_roundw;case rel=>exact⟨i+1,by omega,by go_num,by rw[HT.out,abo];exact qj,NZ.out⟩
   case measure=>simp[RowKit.intOf];omega
  ·obtain rfl:i=l.length:=by omega
   have hrd:∀va,wr.ownsRow w.heap.size 9 1 va l.length (fH uY (recs l l.length))->fQ wr va (recs l l.length):=λva h=>dB.bg jb (by rw[ku];exact h)
   obtain⟨va,vc,rfl⟩:=aS ho;have hrd:=hrd _ ho;have HM:=zH (ag1 _ (recs l l.length) wr hrd (by rw[ku];exact h1) (by rw[ku];exact h2) (λi hi=>by rw[Nk l (by rw[ku]at hi;exact hi)];exact yS _ _));have HB:=zH hb;clear hb ho hrd;go_wp2_with fail;refine HM.out.mono ?_;rintro e w2 ⟨pm,X,R,rfl,hm,hb2,hxr⟩;have HM2:=zH hm;have HB2:=zH (HB.out.trans (hb2.mono HB.out.size));have HXR:=zH (λb h=>zT HB.out.size (hxr b h));clear hm hb2 hxr;go_wp2_with fail;go_ret2;have hA1:=(zB w2.heap.size w2).alloc (zl _) (.cells #[.int .i64 1,.int .i64 1,.int .i64 0,.int .i64 l.length,.int .i64 l.length,.int .i64 2,.int .i64 0] 94);have hA2:=hA1.alloc hA1.size (.cells #[.int .i64 1,.bool true,.slice (some ⟨w2.heap.size,0,none⟩) 1 1] 37);have hA3:=hA2.alloc hA2.size (.cells (kG 0 l.length pm none 1 true (.slice (some ⟨w2.heap.size,0,none⟩) 1 1) ⟨#[]⟩ ⟨#[]⟩ (.slice none 0 0)).toArray 101);have hN:=Bx.new ((w2.alloc (.cells #[.int .i64 1,.int .i64 1,.int .i64 0,.int .i64 l.length,.int .i64 l.length,.int .i64 2,.int .i64 0] 94)).alloc (.cells #[.int .i64 1,.bool true,.slice (some ⟨w2.heap.size,0,none⟩) 1 1] 37)) 101 (kG 0 l.length pm none 1 true (.slice (some ⟨w2.heap.size,0,none⟩) 1 1) ⟨#[]⟩ ⟨#[]⟩ (.slice none 0 0));simp only[Yl]at hN;refine⟨_,pm,X,R,rfl,⟨⟨_,hN⟩,HM2.out.below hA3,λb9 xB=>⟨HXR.out b9 xB,?_⟩,?_,HB2.out.trans (hA3.mono HB2.out.size)⟩⟩
   ·obtain⟨L,hm⟩:=HM2.out;have:=hm.lt b9 xB;omega
   ·have:=HB2.out.size;omega
def spl(l:List UInt8)(o:Nat):List UInt8->List UInt8
 | []=>l
 |c::r=>spl (l.set o c) (o+1) r
theorem ND:∀(m:List UInt8)(l:List UInt8)(o:Nat),(spl l o m).length=l.length
 | [],l,o=>rfl
 |c::r,l,o=>by rw[spl,ND r,Yu]
theorem WB(l:List UInt8)(o i:Nat)(c:UInt8)(h:o<l.length):G.ix (l.set o c) i=if i=o then c else G.ix l i:=by
 unfold G.ix;rw[Ya,Ya,YP];by_cases e:i=o
 ·subst e;rw[zj rfl,zj rfl,zj h];rfl
 ·rw[zi e,zi (Vb e)]
theorem aeP:∀(m:List UInt8)(l:List UInt8)(o i:Nat),o+m.length<=l.length->G.ix (spl l o m) i=if o<=i/\i<o+m.length then G.ix m (i-o) else G.ix l i
 | [],l,o,i,_=>by rw[spl,zi (by simp)]
 | c :: r,l,o,i,h=>by
   simp only[Yn]at h ⊢;rw[spl,aeP r _ _ _ (by rw[Yu];omega),WB _ _ _ _ (by omega)];by_cases e:i=o
   ·subst e;rw[zi (show ¬ (i+1<=i/\i<i+1+r.length) by omega),zj rfl,zj (show i<=i/\i<i+(r.length+1) by omega),Nat.sub_self];rfl
   ·by_cases e2:o+1<=i/\i<o+1+r.length
    ·rw[zj e2,zj (by omega)];obtain⟨k,hk⟩:∃k,i-o=k+1:=⟨i-o-1,by omega⟩;have h2:i-(o+1)=k:=by omega
     rw[h2,hk,G.ix,G.ix,List.getD_cons_succ]
    ·rw[zi e2,zi e,zi (by omega)]
theorem Row.sets{e g cap:Nat}:∀(m:List UInt8)(l:List UInt8)(o:Nat)(w:World),Row w e g cap l->o+m.length<=l.length->Row (w.setCells g o (bs m)) e g cap (spl l o m)
 | [],l,o,w,h,_=>h
 |c::r,l,o,w,h,hl=>by simp only[Yn]at hl;exact Row.sets r _ (o+1) _ (h.store o c (by omega)) (by rw[Yu];omega)
theorem ahA{P:Program}{w:World}{t t' ty e:TypeId}(ht:P.underlying t=some (.slice e))(hz:∀w,(Go.sizeOf e).run P w=.ok 1 w)
 {g cap n:Nat}{l m:List UInt8}(h:Row w e g cap l)(hn:n=l.length)(hm:m.length<=n):
 ∃w',(Builtin.copy_ #[t,t'] ty #[.slice (some ⟨g,0,none⟩) n cap,.string (str m)]).run P w=.ok (.int .i64 m.length) w'/\Row w' e g cap (spl l 0 m)/\w.grownBy w' (some g):=by
 subst hn;have hsz:(str m).size=m.length:=au m;have hl:(str m).data.toList=m:=rfl;have hr:=run_copy_string (P:=P) w t t' ty e g 0 l.length cap (str m) ht hz (by rw[hsz];exact hm) (λj hj=>by rw[Yf,h.cell j (by rw[hsz]at hj;omega)];rfl) (λj hj=>by rw[Yf];exact h.frozen j (by rw[hsz]at hj;have:=h.le;omega));rw[hl,hsz]at hr;exact⟨_,hr,Row.sets m l 0 w h (by omega),W8.uO _ _ _ (World.grownBy.refl _ _)⟩
def zG(b:List UInt8)(L:List Int):List UInt8:=L.foldl (λb k=>b.set k.toNat 0) b
theorem ah7(b:List UInt8)(L:List Int)(x:Int):zG b (L++[x])=(zG b L).set x.toNat 0:=by simp[zG]
theorem NY(b:List UInt8)(L:List Int):(zG b L).length=b.length:=by
 unfold zG
 induction L generalizing b with
 |nil=>rfl
 |cons x r ih=>rw[Ve,ih,Yu]
theorem amY{L:List Int}{i:Nat}(hi:(i:Int) ∉ L)(hL:∀x∈L,0<=x):∀b:List UInt8,G.ix (zG b L) i=G.ix b i:=by
 unfold zG
 induction L with
 |nil=>intro b;rfl
 | cons x r ih=>
   intro b;rw[Ve,ih (λh=>hi (.tail _ h)) (λy hy=>hL y (.tail _ hy))];by_cases hx:x.toNat<b.length
   ·rw[WB _ _ _ _ hx,zi];intro e;apply hi;have:=hL x (.head _);have e2:(i:Int)=x:=by omega
    rw[e2];exact .head _
   ·rw[List.set_eq_of_length_le (by omega)]
def PZ(L:List Int):List Int:=iP (λx=>decide (12<=x)) L
def yO(M:aA)(i:Nat):List UInt8:=spl (zG (sK (M.out i)) (M.gone i)) 0 oU
theorem JE(M:aA)(i:Nat):(yO M i).length=2352:=by unfold yO;rw[ND,NY,zg]
theorem aj2(M:aA){i k:Nat}(h:k<2352):G.ix (M.out i) k=if M.tY i k=true then 0 else lC (M.sec i).raw k^^^(M.sec i).ch k:=by unfold aA.out;rw[UA h]
theorem aei{M:aA}{i:Nat}{aj:Int}{d:List UInt8}(h0:-150<=aj)(h1:aj<=449849)(hd:d.length=2048)(hr:(M.sec i).raw=rec aj d)(hc:∀k,k<2352->(M.sec i).ch k=0):
 W8.Inv (par aj d) (yO M i) (PZ (M.gone i)):=by
 refine⟨JE M i,λx hx hne=>?_⟩;have hg:=FK h0 h1 hd;have hle:0+oU.length<=(zG (sK (M.out i)) (M.gone i)).length:=by rw[NY,zg];decide
 have hsl:oU.length=12:=rfl;unfold yO at hne;rw[aeP _ _ _ _ hle,hsl]at hne;by_cases h12:x<12
 ·rw[zj (by omega),Nat.sub_zero]at hne;refine absurd ?_ hne;rw[<-hg.sync];unfold G.ix;rw[Ya,Ya,List.getElem?_take_of_lt h12]
 ·rw[zi (by omega)]at hne;unfold PZ iP;rw[YI];refine⟨?_,zt (by omega)⟩;apply Decidable.byContradiction;intro hn;apply hne;rw[amY hn (λy hy=>(Dj M i y hy).1)];have hgp:M.tY i x=false:=by
   cases h:M.tY i x with
   |false=>rfl
   |true=>exact absurd ((uj M i x).2 ⟨x,hx,h,rfl⟩) hn
  have hrp:=X9 aj hd;have e1:G.ix (sK (M.out i)) x=G.ix (M.out i) x^^^Qb (x-12) 8:=by unfold sK;rw[Dy _ _ hx];unfold AO;rw[zj (by omega)]
  have e2:G.ix (sK (rec aj d)) x=G.ix (rec aj d) x^^^Qb (x-12) 8:=by unfold sK;rw[Dy _ _ hx];unfold AO;rw[zj (by omega)]
  have e3:lC (rec aj d) x=G.ix (rec aj d) x:=by unfold lC aJ G.ix;rw[Ya]
  rw[e1,aj2 M hx,hgp,zi (by decide),hc x hx,UInt8.xor_zero,hr,e3,<-e2,hrp]
theorem ajs{f:Int}{l:List Int}(hs:l.Pairwise (· < ·))(hb:∀x∈l,f<=x/\x<2352):W8.Ep f l=true:=by
 have h:∀k,k<=l.length->W8.tN f l k=true:=λk=>by
  induction k with
  |zero=>intro _;rfl
  | succ k ih=>
    intro hk;rw[W8.tN,ih (by omega),Bool.true_and];have h1:=hb _ (W8.di (show k<l.length by omega));unfold W8.Es;rw[zf (by omega:¬ aI l k<f),zf (by omega:¬ 2352<=aI l k)];by_cases h0:0<k
    ·have h2:aI l (k-1)<aI l k:=by rw[W8.bT (by omega:k-1<l.length),W8.bT (by omega:k<l.length)];exact Vd.1 hs _ _ _ _ (by omega)
     rw[zt h0,zf (by omega:¬ aI l k<=aI l (k-1))];rfl
    ·rw[zf h0];rfl
 exact h _ (zl _)
theorem yw(L:List Int):(PZ L).Sublist L:=List.filter_sublist
theorem agK(M:aA)(i:Nat):W8.Ep 12 (PZ (M.gone i))=true:=by
 refine ajs ((Bq M i).sublist (yw _)) λx hx=>?_
 have h1:=Dj M i x ((yw _).subset hx);unfold PZ iP at hx;rw[YI]at hx;have:=YU hx.2;omega
theorem an4(x:Int)(W:World):Calls prog 72 #[.int .i64 x] W λe w'=>e=.returned (.bool (!decide (12<=x)))/\W=w':=by go_enter func72,ntmps72;go_wp2_with fail;go_ret;exact⟨iT (by by_cases h:x<12 <;> simp[h] <;> omega),rfl⟩
theorem aaA{w:World}{b e sz n g c:Nat}{xs:List Value}(h:w.ownsRow b e sz (.slice (some ⟨g,0,none⟩) n c) n xs)(i:Nat):w.frozen? ⟨g,i,none⟩=false:=by
 rcases h.2 with ⟨h',_⟩|⟨g',cap,cur,hv,_,hh,_⟩
 ·simp at h'
 ·simp only[YT,YA,Addr.mk.injEq]at hv;obtain⟨⟨rfl,_⟩,_⟩:=hv;exact frozen_of_row w g i _ _ hh
theorem ad8{w:World}{b e sz n:Nat}{v:Value}{xs:List Value}(h:w.ownsRow b e sz v n xs){p:Addr}(hp:∀k,v.ownBlock=some k->k≠p.block)(u:Value):(w.setCell p u).ownsRow b e sz v n xs:=by
 refine⟨h.1,?_⟩;rcases h.2 with h|⟨g,cap,cur,rfl,hb,hh,rest⟩
 ·exact .inl h
 ·exact .inr ⟨g,cap,cur,rfl,hb,(zh w p u g (hp g rfl)).trans hh,rest⟩
theorem ad7{w w':World}{b e sz n:Nat}{v:Value}{xs:List Value}{r:Option Nat}(h:w.ownsRow b e sz v n xs)(hg:w.grownBy w' r)(hr:∀k,v.ownBlock=some k->some k≠r):w'.ownsRow b e sz v n xs:=by
 refine⟨h.1,?_⟩;rcases h.2 with h|⟨g,cap,cur,rfl,hb,hh,rest⟩
 ·exact .inl h
 ·exact .inr ⟨g,cap,cur,rfl,hb,(hg.block g (Yd.1 hh).1 (hr g rfl)).trans hh,rest⟩
theorem an7(fi:Nat)(hfi:∀args W,(callFunc fi args).run prog W=.ok (.enter fi args) W)(q:Int->Bool)(B:Nat)(v:Value)(l:List Int)(w:World)(hl:l.length<=100000)(hb:∀x∈l,-9223372036854775808<=x/\x<=9223372036854775807)
 (hr:w.ownsRow B 3 1 v l.length (W8.is l))(h:∀x W,Calls prog fi #[.int .i64 x] W λe w'=>e=.returned (.bool (!q x))/\W=w'):
 Calls prog 71 #[v,.func (.func fi) #[] #[]] w λe w'=>∃v2,e=.returned v2/\lu w' v2 (iP q l)/\w.grownBy w' v.ownBlock:=by
 rcases hr.2 with ⟨rfl,h0⟩|⟨g,cap,cur,rfl,hB,hg,h1,h2,h3,h4⟩
 ·have hl0:l = []:=XR.1 h0;subst hl0;have hrd:lu w (.slice none 0 0) []:=W8.lh hr rfl (by simp) (by simp);have HI:=zH (air fi hfi q _ [] w hrd h);have HRd:=zH hrd;clear hr hb hrd;go_enter func71,ntmps71;go_wp2_with fail;refine HI.out.mono ?_;rintro e w' ⟨r,rfl,(⟨rfl,hall⟩|⟨k,rfl,hk,LQ,hno⟩),rfl⟩
  ·go_wp2_with fail;go_ret;exact⟨_,rfl,HRd.out,World.grownBy.refl _ _⟩
  ·exact absurd hk (by simp)
 ·exact(als fi hfi q g cap l.length l w (W8.pz.ML hr).1 rfl hl hb h)
theorem aeH{w:World}{B:Nat}{v:Value}{l:List Int}{j:Nat}(hr:w.ownsRow B 3 1 v l.length (W8.is l))(hj:j<l.length):
 ∃g c,v=.slice (some ⟨g,0,none⟩) l.length c/\B<=g/\w.cell? ⟨g,j,none⟩=some (.int .i64 (aI l j)):=by
 obtain⟨g,c,rfl,hB,hlt⟩:=kQ hr (by omega);exact⟨g,c,rfl,hB,(W8.pz.ML hr).1.cell j hj⟩
structure aib (M:aA) (at_:Nat) (aj:Int) (d:List UInt8):Prop where
 lt:at_<M.n
 dl:d.length=2048
 h0:-150<=aj
 h1:aj<=449849
 st:(M.sec at_).st=1
 raw:(M.sec at_).raw=rec aj d
 ch:∀k,k<2352->(M.sec at_).ch k=0
 peel:∃i,W8.Jt (W8.yx (PZ (M.gone at_)) i) (PZ (M.gone at_)) = []
theorem OH{p pm at_ N:Nat}{aj:Int}{d:List UInt8}{w:World}{M:aA}{X R:Nat->Prop}(hm:fF w pm M X R)(ho:M.Ok N)(hc:w.cell? ⟨p,2,none⟩=some (.pointer (some ⟨pm,0,none⟩)))
 (hP:Calls prog 43 #[.pointer (some ⟨p,0,none⟩),.int .i64 aj] w λe w'=>e=.returned (.int .i64 (at_:Nat))/\Below w.heap.size w w')(hb:aib M at_ aj d):
 Calls prog 31 #[.pointer (some ⟨p,0,none⟩),.int .i64 aj] w λe w'=>e=.returned (.string (str d))/\Below w.heap.size w w':=by
 obtain⟨hlt,hd,h0,h1,hst,hraw,hch,hpl⟩:=hb;have hn:=ho.n.2;have hpl2:p<w.heap.size:=zc w _ hc;have hsr:M.eF (at_:Nat)=(1,0):=by unfold aA.eF;rw[zj (by omega),Yw,hst];rfl
 have hrr:M.JJ (at_:Nat)=(M.out at_,M.gone at_,0):=by unfold aA.JJ;rw[zj (by omega),Yw,hst];rfl
 have HST:Hid (∀W,Below w.heap.size w W->Calls prog 68 #[.pointer (some ⟨pm,0,none⟩),.int .i64 (at_:Nat)] W λe w'=>e=.returned (.tuple #[.int .i64 1,.int .i64 0])/\Below W.heap.size W w'):=zH λW hW=>by have:=Dz (hm.below hW) hn (at_:Nat);rw[hsr]at this;exact this
 have HRD:Hid (∀W,Below w.heap.size w W->Calls prog 50 #[.pointer (some ⟨pm,0,none⟩),.int .i64 (at_:Nat)] W (xI (M.out at_,M.gone at_,0) W)):=zH λW hW=>by have:=aeu (hm.below hW) ho (at_:Nat);rw[hrr]at this;exact this
 have RX:Hid (∀W,Below w.heap.size w W->Calls prog 73 #[.pointer (some ⟨pm,0,none⟩),.int .i64 (at_:Nat)] W (pq (decide (M.gone at_ = [])) W)):=zH λW hW=>by
  have:=afO (hm.below hW) ho (at_:Nat);have e:M.nG (at_:Nat)=decide (M.gone at_ = []):=by
   by_cases hg:M.gone at_ = []
   ·rw[zt hg];exact tC ⟨by omega,by rw[Yw];exact⟨hst,hg,hch⟩⟩
   ·rw[zf hg];refine jQ λh=>hg ?_
    have:=h.2.2.1;rwa[Yw]at this
  rw[e]at this;exact this
 have HSC:=zH (λW=>zk (M.out at_) (wW M at_) W);have HBU:Hid (∀W,Calls prog 70 #[.agg #[.int .i64 0,.int .i64 0,.int .i64 0,.int .i64 0,.int .i64 0,.int .i64 0,.string (str zD)]] W λe w'=>e=.returned (.tuple #[.string (str (OG 0 zD)),.int .i64 0])/\Below W.heap.size W w'):=zH λW=>VN 0 zD W (by decide) (by decide) NW
 have HCU:=zH (λW=>Gl (P:=prog) underlying9 (OG 0 zD) 12 (by rw[qP 0 NW];decide) 12 rfl W);have h12:(OG 0 zD).take 12=oU:=by have:=(Good.sync (s:=OG 0 zD) ⟨qP 0 NW,NW,by decide,by decide,rfl⟩);exact this
 rw[h12]at HCU;have hinv:=aei (aj:=aj) h0 h1 hd hraw hch;have hgood:W8.Good (par aj d) 12:=W8.acI (qP aj hd) (by decide);have alW:=agK M at_;have hinl:(PZ (M.gone at_)).length<=2352:=zT (yw _).length_le (by unfold aA.gone;rw[YQ];exact zT (YN _ _) (by simp));have HDE:Hid (∀W ev,lu W ev (PZ (M.gone at_))->Calls prog 74 #[.string (str (yO M at_)),.int .i64 0,ev] W λe w'=>∃k:Int,e=.returned (.tuple #[.string (str (par aj d)),.int .i64 k,.int .i64 0])/\Below W.heap.size W w'):=zH λW ev hv=>by
  obtain⟨i,hi⟩:=hpl;refine(W8.O3 (yO M at_) 0 ev _ W hv (by omega) (by rw[JE];decide)).mono λe w' h=>?_
  obtain⟨h2,h3⟩:=W8.acs (m:=0) (i:=i) rfl hgood hinv alW hi h;exact⟨_,h2,h3⟩
 have ani:Hid (M.gone at_ = []->str (yO M at_)=str (par aj d)):=zH λhg=>by
  have e:PZ (M.gone at_) = []:=by rw[hg];rfl
  rw[e]at hinv;rw[W8.Inv.done hgood hinv]
 have HPA:=zH (λW=>ahe (FK h0 h1 hd) W);unfold Q5 at HPA;have hol:=wW M at_;have HPB:Hid (yO M at_=spl (zG (sK (M.out at_)) (M.gone at_)) 0 oU):=zH rfl;have HGL:Hid (∀x∈M.gone at_,0<=x/\x<2352):=zH (Dj M at_);have HGN:Hid ((M.gone at_).length<=2352):=zH (by unfold aA.gone;rw[YQ];exact zT (YN _ _) (by simp));have HIN:Hid (PZ (M.gone at_)=iP (λx=>decide (12<=x)) (M.gone at_)):=zH rfl;have HSL:Hid ((sK (M.out at_)).length=2352):=zH (zg _);clear hinv hgood alW hinl hol hm ho hpl hsr hrr hraw hch hst h12 hd;generalize str (par aj d)=PS at *;generalize str (OG 0 zD)=BS at *;obtain⟨Z,hZ⟩:∃Z:List UInt8,Z=List.replicate 2048 0:=⟨_,rfl⟩;have HZ:Hid (Z=zD):=zH hZ;have HZ2:=zH hZ;rw[<-HZ.out]at HBU;clear hZ;generalize yO M at_=PbV at *;generalize hGG:M.gone at_=GL at *;generalize str d=DS at *;generalize hOO:sK (M.out at_)=SL at *;generalize M.out at_=OL at *;generalize PZ GL=IG at *;clear hGG hOO hlt hn;have G8:=zH hP;have HC2:=zH hc;have HPP:=zH hpl2;clear hP hc hpl2;go_enter func31,ntmps31;go_wp2_with fail;refine G8.out.mono ?_;rintro e w1 ⟨rfl,hb1⟩;have HB1:=zH hb1;have hc1:=(hb1.cell (p:=⟨p,2,none⟩) HPP.out).trans HC2.out;have G9:=zH (HST.out w1 hb1);clear hb1;go_wp2_with fail;refine G9.out.mono ?_;rintro e w2 ⟨rfl,hb2⟩;have hb2:=HB1.out.trans (hb2.mono HB1.out.size);have HB2:=zH hb2;have hc2:=(hb2.cell (p:=⟨p,2,none⟩) HPP.out).trans HC2.out;have HS2:=zH (HRD.out w2 hb2);clear hb2 hc1 G9;go_wp2_with fail;refine HS2.out.mono ?_;rintro e w3 ⟨v3,rfl,ho3,hb3⟩;dsimp only at ho3 ⊢;have HO3:=zH ho3;have HB3:=zH (HB2.out.trans (hb3.mono HB2.out.size));have IY:=zH (HB2.out.size);clear hb3 ho3 hc2 HS2;go_wp2_with fail;refine(HSC.out w3).mono ?_;rintro e w4 ⟨rfl,hb4⟩;have HO4:=zH (aV HO3.out hb4);have HB4:=zH (HB3.out.trans (hb4.mono HB3.out.size));clear hb4;obtain⟨S,hS⟩:∃S,S=str SL:=⟨_,rfl⟩;have hsz:S.size=2352:=by rw[hS,au];exact HSL.out
 have HSD:Hid (S.data.toList=SL):=zH (by rw[hS];rfl);rw[<-hS];clear hS;go_upto_region 10 with (first
  | (refine gZ rfl _ rfl underlying9 underlying65 underlying5 rfl ?_
     intro w5 cap EP hb5 hcap5)
  |fail)
 rw[HSD.out]at EP;obtain⟨g,hg⟩:∃g,g=w4.heap.size:=⟨_,rfl⟩;have HGW:=zH hg;rw[<-hg]at EP ⊢;have HR5:=zH EP;have HO5:=zH (aV HO4.out hb5);have KC:=zH (HB4.out.trans (hb5.mono HB4.out.size));have HOG:Hid (∀k,v3.ownBlock=some k->k<g):=zH λk hk=>by rw[HGW.out];exact oP HO4.out k hk
 clear EP hb5 hg hcap5;obtain⟨a3,c3,rfl⟩:=aS HO5.out;go_wp2_with fail
 go_loopw [52] (λvk wr=>∃k:Nat,k<=GL.length/\vk=.int .i64 (k:Nat)/\Row wr 5 g cap (zG SL (GL.take k))/\wr.ownsRow w2.heap.size 3 1 (.slice a3 GL.length c3) GL.length (W8.is GL)/\Below w.heap.size w wr) (λvk _=>GL.length-(RowKit.intOf vk).toNat)
 case atStart=>exact⟨0,by omega,rfl,HR5.out,HO5.out,KC.out⟩
 case round=>
  obtain⟨k,hk,rfl,hr,hx,hb⟩:=hrel;have hgn:GL.length<=2352:=HGN.out;by_cases hlt:k<GL.length
  ·obtain⟨g3,c4,hv3,hB3,hcl⟩:=aeH hx hlt;simp only[YT,true_and]at hv3;obtain⟨rfl,rfl⟩:=hv3;have hix:=λw'=>aB underlying31 (by kernel_rfl:(prog.info? 3).map (·.size)=some 1) (a:=some ⟨g3,0,none⟩) (n:=GL.length) (cap:=c3) (k:=k) (b:=g3) (off:=0) rfl hlt (k:Int) rfl w'
   have hbd:=HGL.out _ (W8.di hlt);obtain⟨m,hm⟩:∃m:Nat,aI GL k=m:=⟨(aI GL k).toNat,by omega⟩;have HT:Hid (GL.take (k+1)=GL.take k++[(m:Int)]):=zH (by rw[Yo hlt,<-W8.bT hlt,hm]);rw[hm]at hcl hbd;have hlz:(zG SL (GL.take k)).length=2352:=by rw[NY];exact HSL.out
   have hle:=hr.le;rw[hlz]at hle;have hf:=hr.frozen m (by omega);have hc0:=hr.cell m (by omega);have HST:=zH (hr.store m 0 (by omega));have hix2:=λw'=>aB underlying65 sizeU8s (a:=some ⟨g,0,none⟩) (n:=2352) (cap:=cap) (k:=m) (b:=g) (off:=0) rfl (by omega) (m:Int) rfl w'
   simp only[Yy,Yf]at hix hix2;have hle2:m<2352:=by omega
   clear hlz;generalize G.ix (zG SL (GL.take k)) m=y at *;have HX:=zH hx;have HB:=zH hb;have HW2:=zH (show w.heap.size<=g by rw[HGW.out];exact HB4.out.size);have HM:=zH hm;have HG3:=zH (HOG.out g3 rfl);clear hr hx hb hm hbd hB3;go_wp2_with fail;go_roundw;case rel=>
    refine⟨k+1,by omega,by go_num,?_,ad8 HX.out (λq hq=>?_) _,HB.out.setCell (by simp only;exact HW2.out) _⟩
    ·rw[HT.out,ah7];exact HST.out
    ·have:=HOG.out q hq;show q≠g;omega
   case measure=>simp[RowKit.intOf];omega
  ·obtain rfl:k=GL.length:=by omega
   rw[YE (zl _)]at hr;have HR:=zH hr;have HX:=zH hx;have HB:=zH hb;have HZL:Hid ((zG SL GL).length=2352):=zH (by rw[NY];exact HSL.out);clear hr hx hb;go_wp2_with (first
    | (refine fM rfl _ _ rfl (base:=wr.heap.size) underlying65 infoU8s 2048 rfl rfl (by omega) (by omega) (by omega) (zl _) ?_
       intro w6 hx6 Ws;rw[<-HZ2.out]at hx6;have hrd:=Rd.nU hx6 (by omega);have hcv:=eX (P:=prog) underlying65 underlying5 underlying9 hrd;have hb6:=(zB wr.heap.size wr).grown Ws (zl _) (λk hk=>by cases hk);have HR6:=zH (HR.out.below hb6);have RH:=zH (aV HX.out hb6);have uG:=zH (HB.out.trans (hb6.mono HB.out.size));clear hx6 Ws hrd hb6)
    |fail)
   refine(HBU.out w6).mono ?_;rintro e w7 ⟨rfl,hb7⟩;have HR7:=zH (HR6.out.below hb7);have Ou:=zH (aV RH.out hb7);have HB7:=zH (uG.out.trans (hb7.mono uG.out.size));have hcu:=λW=>HCU.out W
   clear hb7;have anx:=zH (show w.heap.size<=g by rw[HGW.out];exact HB4.out.size);obtain⟨w8,hcp,Uj,hg8⟩:=ahA (P:=prog) (t':=9) (ty:=3) underlying65 (λ_=>by kernel_rfl) (n:=2352) (m:=oU) HR7.out HZL.out.symm (by decide);rw[<-HPB.out]at Uj;have HR8:=zH Uj;have HX8:=zH (ad7 Ou.out hg8 (λk hk e=>by have:=HOG.out k hk;have:=zs e;omega));have NZ:=zH (HB7.out.grown hg8 HB7.out.size (λq hq=>by have:=zs hq;have:=anx.out;omega));clear Uj hg8;go_wp2_with fail;have HDL:=zH (an7 72 (λ_ _=>by kernel_rfl) (λx=>decide (12<=x)) _ _ GL w8 (by have:=HGN.out;omega) (λx hx=>by have:=HGL.out x hx;omega) HX8.out (λx W=>an4 x W));rw[<-HIN.out]at HDL;refine HDL.out.mono ?_;rintro e w9 ⟨v9,rfl,hi9,hg9⟩;have HI9:=zH hi9;have hr9:Row w9 5 g cap PbV:=HR8.out.keep (hg9.block g HR8.out.lt (λe=>by have:=HOG.out g e.symm;omega));have xB:=NZ.out.grown hg9 NZ.out.size (λq hq=>zT IY.out (bH HX8.out q hq));obtain⟨a9,n9,c9,hv9⟩:∃a n c,v9=.slice a n c:=by obtain⟨_,⟨a,c,b,o,h,_⟩,_⟩:=hi9;exact⟨a,_,c,h⟩
   subst hv9;have HB9:=zH xB;have HPN:Hid (PbV.length=2352):=zH (by rw[HPB.out,ND];exact HZL.out);have Uk:=hr9.rd (by rw[HPN.out];omega);rw[HPN.out]at Uk;have hcx:=eX (P:=prog) underlying65 underlying5 underlying9 Uk;have hc9:=(xB.cell (p:=⟨p,2,none⟩) HPP.out).trans HC2.out;have RZ:=zH (RX.out w9 xB);clear hi9 hg9 hr9 xB Uk HDL;go_wp2_with fail;refine RZ.out.mono ?_;rintro e w10 ⟨rfl,aaf⟩;have aiP:=zH (HI9.out.keep aaf);have afp:=zH (HB9.out.trans (aaf.mono HB9.out.size));clear aaf hcx hc9 RZ;by_cases hgl:GL = []
   ·have hq:=ani.out hgl;rw[zt hgl];rw[hq];have akW:=zH (HPA.out w10);clear hq;go_wp2_with fail;refine akW.out.mono ?_;rintro e Zg ⟨rfl,PN⟩;have abR:=zH (afp.out.trans (PN.mono afp.out.size));clear PN;obtain⟨bs8,hbs⟩:∃b,b=Zg.heap.size:=⟨_,rfl⟩;obtain⟨w20,Mc⟩:∃w20,w20=Zg.alloc (.cells #[.int .i64 aj,.int .i64 0,.int .i64 0,.int .i64 0,.int .i64 0,.int .i64 0,.string DS] 157):=⟨_,rfl⟩;have hA20:=abR.out.alloc abR.out.size (.cells #[.int .i64 aj,.int .i64 0,.int .i64 0,.int .i64 0,.int .i64 0,.int .i64 0,.string DS] 157);rw[<-Mc]at hA20;have hx:Bx w20 bs8 157 [.int .i64 aj,.int .i64 0,.int .i64 0,.int .i64 0,.int .i64 0,.int .i64 0,.string DS]:=by rw[Mc,hbs];exact Bx.new Zg _ _
    have x0:=hx.cell (i:=0) rfl;have x1:=hx.cell (i:=1) rfl;have x3:=hx.cell (i:=6) rfl;have aiX:Hid (Zg.alloc (.cells #[.int .i64 aj,.int .i64 0,.int .i64 0,.int .i64 0,.int .i64 0,.int .i64 0,.string DS] 157)=w20):=zH Mc.symm;have HBS:=zH hbs;have aiF:=zH hA20;clear hA20 hx Mc hbs;go_upto_region 24 with (fail)
    rw[aiX.out,<-HBS.out];go_wp2_with fail;go_ret;exact⟨rfl,aiF.out⟩
   ·rw[zf hgl];have akQ:=zH (HDE.out w10 _ aiP.out);clear hgl;go_wp2_with fail;refine akQ.out.mono ?_;rintro e Zg ⟨k11,rfl,PN⟩;have abR:=zH (afp.out.trans (PN.mono afp.out.size));have akX:=zH (HPA.out Zg);clear PN;go_wp2_with fail;refine akX.out.mono ?_;rintro e w12 ⟨rfl,agx⟩;have akD:=zH (abR.out.trans (agx.mono abR.out.size));clear agx;obtain⟨bs8,hbs⟩:∃b,b=w12.heap.size:=⟨_,rfl⟩;obtain⟨w20,Mc⟩:∃w20,w20=w12.alloc (.cells #[.int .i64 aj,.int .i64 0,.int .i64 0,.int .i64 0,.int .i64 0,.int .i64 0,.string DS] 157):=⟨_,rfl⟩;have hA20:=akD.out.alloc akD.out.size (.cells #[.int .i64 aj,.int .i64 0,.int .i64 0,.int .i64 0,.int .i64 0,.int .i64 0,.string DS] 157);rw[<-Mc]at hA20;have hx:Bx w20 bs8 157 [.int .i64 aj,.int .i64 0,.int .i64 0,.int .i64 0,.int .i64 0,.int .i64 0,.string DS]:=by rw[Mc,hbs];exact Bx.new w12 _ _
    have x0:=hx.cell (i:=0) rfl;have x1:=hx.cell (i:=1) rfl;have x3:=hx.cell (i:=6) rfl;have aiX:Hid (w12.alloc (.cells #[.int .i64 aj,.int .i64 0,.int .i64 0,.int .i64 0,.int .i64 0,.int .i64 0,.string DS] 157)=w20):=zH Mc.symm;have HBS:=zH hbs;have aiF:=zH hA20;clear hA20 hx Mc hbs;go_upto_region 24 with (fail)
    rw[aiX.out,<-HBS.out];go_wp2_with fail;go_ret;exact⟨rfl,aiF.out⟩
theorem ZB{p pm at_ N:Nat}{aj:Int}{w:World}{M:aA}{X R:Nat->Prop}(hm:fF w pm M X R)(ho:M.Ok N)(hc:w.cell? ⟨p,2,none⟩=some (.pointer (some ⟨pm,0,none⟩)))
 (hP:Calls prog 43 #[.pointer (some ⟨p,0,none⟩),.int .i64 aj] w λe w'=>e=.returned (.int .i64 (at_:Nat))/\Below w.heap.size w w')(hlt:at_<M.n)(hst:(M.sec at_).st=0):
 Calls prog 31 #[.pointer (some ⟨p,0,none⟩),.int .i64 aj] w λe w'=>e=.returned (.string (str []))/\Below w.heap.size w w':=by
 have hn:=ho.n.2;have hpl2:p<w.heap.size:=zc w _ hc;have hsr:M.eF (at_:Nat)=(0,0):=by unfold aA.eF;rw[zj (by omega),Yw,hst];rfl
 have HST:Hid (∀W,Below w.heap.size w W->Calls prog 68 #[.pointer (some ⟨pm,0,none⟩),.int .i64 (at_:Nat)] W λe w'=>e=.returned (.tuple #[.int .i64 0,.int .i64 0])/\Below W.heap.size W w'):=zH λW hW=>by have:=Dz (hm.below hW) hn (at_:Nat);rw[hsr]at this;exact this
 have G8:=zH hP;have HC2:=zH hc;have HPP:=zH hpl2;clear hP hc hpl2 hsr hm ho hst hlt hn;go_enter func31,ntmps31;go_wp2_with fail;refine G8.out.mono ?_;rintro e w1 ⟨rfl,hb1⟩;have HB1:=zH hb1;have hc1:=(hb1.cell (p:=⟨p,2,none⟩) HPP.out).trans HC2.out;have G9:=zH (HST.out w1 hb1);clear hb1;go_wp2_with fail;refine G9.out.mono ?_;rintro e w2 ⟨rfl,hb2⟩;have HB2:=zH (HB1.out.trans (hb2.mono HB1.out.size));clear hb2 hc1 G9;go_wp2_with fail;go_ret;exact⟨rfl,HB2.out⟩
theorem acd{p pm at_ N:Nat}{aj:Int}{w:World}{M:aA}{X R:Nat->Prop}(hm:fF w pm M X R)(ho:M.Ok N)(hc:w.cell? ⟨p,2,none⟩=some (.pointer (some ⟨pm,0,none⟩)))
 (hP:Calls prog 43 #[.pointer (some ⟨p,0,none⟩),.int .i64 aj] w λe w'=>e=.returned (.int .i64 (at_:Nat))/\Below w.heap.size w w')(hlt:at_<M.n)(hst:2<=(M.sec at_).st):
 Calls prog 31 #[.pointer (some ⟨p,0,none⟩),.int .i64 aj] w λe w'=>e=.returned (.string (str [33]))/\Below w.heap.size w w':=by
 have hn:=ho.n.2;have hpl2:p<w.heap.size:=zc w _ hc;obtain⟨st,hse⟩:∃st:Nat,st=(M.sec at_).st:=⟨_,rfl⟩;rw[<-hse]at hst;have hsr:M.eF (at_:Nat)=((st:Int),0):=by unfold aA.eF;rw[zj (by omega),Yw,<-hse]
 have hrr:M.JJ (at_:Nat)=([],[],9):=by unfold aA.JJ;rw[zj (by omega),Yw,<-hse,zi (by omega),zi (by omega)]
 have hs4:st<=3:=by rw[hse];exact(ho.sec _ hlt).st
 have HST:Hid (∀W,Below w.heap.size w W->Calls prog 68 #[.pointer (some ⟨pm,0,none⟩),.int .i64 (at_:Nat)] W λe w'=>e=.returned (.tuple #[.int .i64 (st:Nat),.int .i64 0])/\Below W.heap.size W w'):=zH λW hW=>by have:=Dz (hm.below hW) hn (at_:Nat);rw[hsr]at this;exact this
 have HRD:Hid (∀W,Below w.heap.size w W->Calls prog 50 #[.pointer (some ⟨pm,0,none⟩),.int .i64 (at_:Nat)] W (xI ([],[],9) W)):=zH λW hW=>by have:=aeu (hm.below hW) ho (at_:Nat);rw[hrr]at this;exact this
 have hd0:((st:Int) == 0)=false:=Yc.2 (by omega);have G8:=zH hP;have HC2:=zH hc;have HPP:=zH hpl2;clear hP hc hpl2 hsr hm ho hst hlt hn hrr hse hs4;go_enter func31,ntmps31;go_wp2_with fail;refine G8.out.mono ?_;rintro e w1 ⟨rfl,hb1⟩;have HB1:=zH hb1;have hc1:=(hb1.cell (p:=⟨p,2,none⟩) HPP.out).trans HC2.out;have G9:=zH (HST.out w1 hb1);clear hb1;go_wp2_with fail;refine G9.out.mono ?_;rintro e w2 ⟨rfl,hb2⟩;have hb2:=HB1.out.trans (hb2.mono HB1.out.size);have HB2:=zH hb2;have hc2:=(hb2.cell (p:=⟨p,2,none⟩) HPP.out).trans HC2.out;have HS2:=zH (HRD.out w2 hb2);clear hb2 hc1 G9;go_wp2_with fail;refine HS2.out.mono ?_;rintro e w3 ⟨v3,rfl,ho3,hb3⟩;dsimp only at ho3 ⊢;obtain⟨a3,n3,rfl⟩:=aS ho3;have HB3:=zH (HB2.out.trans (hb3.mono HB2.out.size));clear hb3 ho3 hc2 HS2;go_wp2_with fail;go_ret;exact⟨rfl,HB3.out⟩
def yu(bl:Nat->List UInt8)(n k:Nat):List (List UInt8):=(List.range n).map λi=>if i<k then bl i else []
theorem PV(bl:Nat->List UInt8)(n k:Nat):(yu bl n k).length=n:=by simp[yu]
theorem aao(bl:Nat->List UInt8)(n:Nat):yu bl n 0=List.replicate n []:=by
 unfold yu;apply Xt
 ·simp
 ·intro i h1 h2;simp
theorem agI(bl:Nat->List UInt8){n k i:Nat}(h:i<n):aJ [] (yu bl n k) i=if i<k then bl i else []:=by simp[yu,aJ,h]
theorem aan(bl:Nat->List UInt8){n k:Nat}(h:k<n):(yu bl n k).set k (bl k)=yu bl n (k+1):=by
 apply Xt
 ·simp[yu]
 ·intro i h1 h2;rw[Yu,PV]at h1;rw[List.getElem_set];simp only[yu,List.getElem_map,List.getElem_range];by_cases e:k=i
  ·subst e;rw[zj rfl,zj (by omega)]
  ·rw[zi e];by_cases e2:i<k
   ·rw[zj e2,zj (by omega)]
   ·rw[zi e2,zi (by omega)]
def Ai(bl:Nat->List UInt8)(n:Nat):List (List UInt8):=(List.range n).map bl
theorem adu(bl:Nat->List UInt8)(n:Nat):yu bl n n=Ai bl n:=by
 unfold yu Ai;refine Xo λi hi=>?_
 rw[zj (Yx.1 hi)]
theorem PW(bl:Nat->List UInt8)(n:Nat):(Ai bl n).length=n:=by simp[Ai]
theorem NR{w:World}{ops:Array Oper}{rest:List Oper}{o:Oper}{a:Act}{Q:Exit->Act->World->Prop}
 (hg:o.guard=none)(l c:Operand)(hop:o.op=Op.makeSlice 46 l c)
 {L C:Int}(n:Nat)(hl:a.eval l=.int .i64 L)(hc:a.eval c=.int .i64 C)(hL:L=(n:Int))(hC:C=(n:Int))(b3:n<=1000000)
 (hK:∀w',w'.ownsRow w.heap.size 9 1 (.slice (some ⟨w.heap.size,0,none⟩) n n) n (fH uY (List.replicate n []))->Below w.heap.size w w'->wpList prog ops Q rest (a.put o.dst (.slice (some ⟨w.heap.size,0,none⟩) n n)) w'):
 wpList prog ops Q (o::rest) a w:=by
 obtain⟨i0,hi,hz0,hz1,hz2⟩:=info_parts infoStr9;refine wpList_make_full w hg l c _ hop w.heap.size 9 i0 _ 1 underlying46 hi hz0 hz1 .i64 .i64 L C n hl hc hL hC (by rw[hz2];omega) (by unfold maxLen;omega) (zl _) λw' h3 h4=>hK w' ?_ ((zB _ _).grown h4 (zl _) (λk hk=>by cases hk))
 have e1:(Value.string ⟨#[]⟩).cells=(uY []).toArray:=rfl;rw[e1,Fh uY [] 1 n (by decide) jb]at h3;exact h3
theorem adt{p n:Nat}{w:World}(bl:Nat->List UInt8)(hn:n<=4096)(hc:w.cell? ⟨p,1,none⟩=some (.int .i64 (n:Nat)))
 (hB:∀i,i<n->∀W,Below w.heap.size w W->Calls prog 31 #[.pointer (some ⟨p,0,none⟩),.int .i64 (i:Nat)] W λe w'=>e=.returned (.string (str (bl i)))/\Below W.heap.size W w'):
 Calls prog 12 #[.pointer (some ⟨p,0,none⟩)] w λe w'=>∃g,e=.returned (.slice (some ⟨g,0,none⟩) n n)/\w'.ownsRow w.heap.size 9 1 (.slice (some ⟨g,0,none⟩) n n) n (fH uY (Ai bl n))/\Below w.heap.size w w':=by
 have HBL:=zH hB;clear hB;go_enter func12,ntmps12;go_wp2_with (refine NR rfl _ _ rfl n rfl rfl rfl rfl (by omega) ?_;intro w1 ho1 hb1);obtain⟨g,hg⟩:∃g,g=w.heap.size:=⟨_,rfl⟩;have HG:=zH hg;rw[<-hg]at ho1 hb1 ⊢;rw[<-aao bl n]at ho1;have HO1:=zH ho1;have HB1:=zH hb1;clear ho1 hb1 hg hc
 go_loopw [12] (λvk wr=>∃k:Nat,k<=n/\vk=.int .i64 (k:Nat)/\wr.ownsRow g 9 1 (.slice (some ⟨g,0,none⟩) n n) n (fH uY (yu bl n k))/\Below g w wr) (λvk _=>n-(RowKit.intOf vk).toNat)
 case atStart=>exact⟨0,by omega,rfl,HO1.out,HB1.out⟩
 case round=>
  obtain⟨k,hk,rfl,hx,hb⟩:=hrel;have HX:=zH hx;have HB:=zH hb;clear hx hb HO1 HB1;by_cases hlt:k<n
  ·have HC:=zH (HBL.out k hlt wr (by rw[<-HG.out];exact HB.out));have HSK:=zH (aan bl hlt);have HAT:=zH (agI bl (k:=k) hlt);have hix:=λw'=>aB underlying46 (by kernel_rfl:(prog.info? 9).map (·.size)=some 1) (a:=some ⟨g,0,none⟩) (n:=n) (cap:=n) (k:=k) (b:=g) (off:=0) rfl hlt (k:Int) rfl w'
   simp only[Yy,Yf]at hix;generalize hs:str (bl k)=s at HC;have HS:=zH hs;clear hs;go_wp2_with fail;refine HC.out.mono ?_;rintro e w2 ⟨rfl,hb2⟩;have hx2:=aV HX.out hb2;have HBG:=zH (HB.out.trans (hb2.mono (by rw[HG.out];exact HB.out.size)));have hL:(yu bl n k).length=n:=PV _ _ _;have hf:=aaA hx2 k;have hr0:=(FC (d:=[]) jb hx2 k (by omega)) 0 _ rfl;rw[Yy,YO]at hr0;have HST:=zH (Qz (d:=[]) jb hx2 k 0 (by omega) (by decide) (.string s) (bl k) (by rw[<-HS.out];rfl));clear hx2 hb2 hL;go_wp2_with fail;have h9:=HST.out;rw[Yy,YO,HSK.out]at h9;go_roundw;case rel=>exact⟨k+1,by omega,by go_num,h9,HBG.out.setCell (zl _) _⟩
   case measure=>simp[RowKit.intOf];omega
  ·obtain rfl:k=n:=by omega
   go_wp2_with fail;go_ret;refine⟨g,rfl,?_,by rw[<-HG.out];exact HB.out⟩;rw[<-HG.out,<-adu];exact HX.out
end T7
end Go.Proofs.YtfnehkmhcmkhjaaGreat
