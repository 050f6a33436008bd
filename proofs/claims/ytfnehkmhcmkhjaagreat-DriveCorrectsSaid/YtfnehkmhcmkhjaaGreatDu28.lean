/- Parts -/
import Derived.Test.YtfnehkmhcmkhjaaGreatDu25
import Derived.ChangeAlike
import Derived.Test.YtfnehkmhcmkhjaaGreatDu23
import Derived.Test.YtfnehkmhcmkhjaaGreatDu22
set_option maxRecDepth 100000
set_option maxHeartbeats 8000000
set_option linter.unusedVariables false
namespace Go.Proofs.YtfnehkmhcmkhjaaGreat
open Tryz
section
open Go.RowKit
theorem infoI64:(prog.info? 3).map (λi=>(i.zero,i.size,i.bytes))=some (some (.int .i64 0),1,8):=by kernel_rfl
def Un(l:List Int):List Value:=l.map (Value.int .i64)
theorem Uo(l m:List Int):Un (l++m)=Un l++Un m:=by simp[Un]
theorem agM(l:List Int):∀u∈Un l,u.oneCell'=true:=by intro u hu;simp only[Un,YW]at hu;obtain⟨c,_,rfl⟩:=hu;rfl
theorem agL{l:List Int}{i:Nat}(h:i<l.length):(Un l)[i]? = some (.int .i64 (aI l i)):=by simp[Un,aI,h]
theorem lu.bg{w:World}{base e:Nat}{v:Value}{l:List Int}(h:w.ownsRow base e 1 v l.length (Un l))(hl:l.length<=17592186044416)(hr:∀x∈l,-9223372036854775808<=x/\x<=9223372036854775807):lu w v l:=by
 refine⟨hl,?_,λi hi=>hr _ (di hi)⟩;rcases h.2 with ⟨rfl,h0⟩|⟨g,cap,cur,rfl,hg,hh,hn,hm,hcs,ht⟩
 ·rw[h0];exact⟨none,0,0,0,rfl,by omega,λi hi=>by omega⟩
 ·refine⟨_,cap,g,0,rfl,hn,λi hi=>⟨rfl,?_⟩⟩;rw[Yf,h.cellAt i (by omega),agL hi]
theorem jH{P:Program}{ops:Array Oper}{rest:List Oper}{o:Oper}{a:Act}{Q:Exit->Act->World->Prop}{w:World}(hg:o.guard=none)(s x:Operand){t:TypeId}
 (hop:o.op=.call {callee:=.builtin .append,args:=#[s,x],argTypes:=#[t,t]}){e:TypeId}{base:Nat}
 (ht:P.underlying t=some (.slice e))(h2:(P.info? e).map (λi=>(i.zero,i.size,i.bytes))=some (some (.int .i64 0),1,8))
 {v:Value}{n:Nat}{l:List Int}(hown:w.ownsRow base e 1 v n (Un l))(hv:a.eval s=v){g:Nat}{y:Int}(hc:w.cell? ⟨g,0,none⟩=some (.int .i64 y))(hx:a.eval x=.slice (some ⟨g,0,none⟩) 1 1)
 (h63:n<=1073741824)(hbase:base<=w.heap.size)
 (hK:∀v' w',w'.ownsRow base e 1 v' (n+1) (Un (l++[y]))->w.grownBy w' v.ownBlock->wpList P ops Q rest (a.put o.dst v') w'):wpList P ops Q (o::rest) a w:=by
 obtain⟨i0,hi,hz0,hz1,hz2⟩:=info_parts h2;refine oH hg s x hop ht hi hz0 hz1 hz2 rfl (by omega) hown hv (m:=1) (news:=Un [y]) ⟨by simp[Un],_,1,g,0,rfl,zl _,λi u hu=>?_⟩ hx (agM _) (by unfold maxLen;omega) (by omega) hbase λv' w' g1 g2 g3=>?_
 ·have hi0:i=0:=by
   by_cases h:i=0
   ·exact h
   ·simp[Un,h]at hu
  subst hi0;simp only[Un,Vh,Vg,Yg,YA]at hu;subst hu;exact⟨rfl,hc⟩
 ·rw[<-Uo]at g1;exact hK v' w' g1 g2
def Ov(w:World)(v:Value)(l:List UInt8):Prop:=
 l.length<=1000/\∃cap bb cur fz,v=.slice (some ⟨bb,0,none⟩) l.length cap/\l.length<=cap/\w.heap[bb]? = some (.cells cur 5 fz)/\∀i,i<l.length->w.cell? ⟨bb,i,none⟩=some (B (G.ix l i))
theorem Ov.rd{w:World}{v:Value}{l:List UInt8}(h:Ov w v l):Rd w v l:=by obtain⟨h0,cap,bb,cur,fz,rfl,hc,hg,h⟩:=h;exact⟨by omega,_,cap,bb,0,rfl,hc,λi hi=>⟨rfl,by rw[Yf];exact h i hi⟩⟩
theorem Ov.keepW{w w':World}{v:Value}{l:List UInt8}(h:Ov w v l)(hk:∀(k:Nat)(cur:Array Value)(fz:Nat×Nat),w.heap[k]? = some (Obj.cells cur 5 fz)->w'.heap[k]? = w.heap[k]?):Ov w' v l:=by obtain⟨h0,cap,bb,cur,fz,rfl,hc,hg,h⟩:=h;have e:=hk bb cur fz hg;exact⟨h0,cap,bb,cur,fz,rfl,hc,e.trans hg,λi hi=>by rw[<-h i hi];exact XC e⟩
theorem Ov.below{w w':World}{v:Value}{l:List UInt8}(h:Ov w v l)(hb:Below w.heap.size w w'):Ov w' v l:=h.keepW λk cur fz hk=>hb.block k (Yd.1 hk).1
theorem Ov.bg{w:World}{base n:Nat}{v:Value}{l:List UInt8}(h:w.ownsRow base 5 1 v n (bs l))(hn:l.length=n)(h0:0<n)(hl:n<=1000):Ov w v l:=by
 subst hn;rcases h.2 with ⟨rfl,h1⟩|⟨g,cap,cur,rfl,hg,hh,hn,hm,hcs,ht⟩
 ·omega
 ·refine⟨hl,cap,g,cur,_,rfl,hn,hh,λi hi=>?_⟩;rw[h.cellAt i (by omega),jh hi]
theorem Ov.form{w:World}{v:Value}{l:List UInt8}(h:Ov w v l){k:Nat}(hk:l.length=k):∃cap bb,v=.slice (some ⟨bb,0,none⟩) k cap:=by obtain⟨h0,cap,bb,cur,fz,rfl,_⟩:=h;exact⟨cap,bb,by rw[hk]⟩
theorem Ov.byte{w:World}{v:Value}{l:List UInt8}(h:Ov w v l){m:Nat}(hl:l.length=m)(k:Nat)(hk:k<m):∃cap bb,v=.slice (some ⟨bb,0,none⟩) m cap/\w.cell? ⟨bb,k,none⟩=some (B (G.ix l k))/\m<=cap:=by obtain⟨h0,cap,bb,cur,fz,rfl,hc,_,h⟩:=h;exact⟨cap,bb,by rw[hl],h k (by omega),by omega⟩
def DN(w:World)(g:Nat)(R:List (List UInt8)):Prop:=
 ∃cur,w.heap[g]? = some (.cells cur 65 (0,0))/\R.length<=cur.size/\∀i,i<R.length->∃v,cur[i]? = some v/\Ov w v (G.rw_ R i)
theorem DN.lt{w:World}{g:Nat}{R:List (List UInt8)}(h:DN w g R):g<w.heap.size:=by obtain⟨cur,hg,_⟩:=h;exact(Yd.1 hg).1
theorem DN.cell{w:World}{g:Nat}{R:List (List UInt8)}(h:DN w g R)(i:Nat)(hi:i<R.length):∃v,w.cell? ⟨g,i,none⟩=some v/\Ov w v (G.rw_ R i):=by obtain⟨cur,hg,hs,h⟩:=h;obtain⟨v,hv,hr⟩:=h i hi;exact⟨v,by rw[Xd w g i cur _ _ hg];exact hv,hr⟩
theorem DN.below{w w':World}{g:Nat}{R:List (List UInt8)}(h:DN w g R)(hb:Below w.heap.size w w'):DN w' g R:=by have hlt:=h.lt;obtain⟨cur,hg,hs,h⟩:=h;exact⟨cur,(hb.block g hlt).trans hg,hs,λi hi=>by obtain⟨v,hv,hr⟩:=h i hi;exact⟨v,hv,hr.below hb⟩⟩
def Bld(w:World)(base:Nat)(v:Value)(R:List (List UInt8)):Prop:=
 ∃vs,w.ownsRow base 65 1 v R.length vs/\vs.length=R.length/\∀i,i<R.length->∃u,vs[i]? = some u/\Ov w u (G.rw_ R i)
theorem Bld.below{w w':World}{base:Nat}{v:Value}{R:List (List UInt8)}(h:Bld w base v R)(hb:Below w.heap.size w w'):Bld w' base v R:=by obtain⟨vs,h1,h2,h3⟩:=h;exact⟨vs,ad5 h1 hb,h2,λi hi=>by obtain⟨u,hu,hr⟩:=h3 i hi;exact⟨u,hu,hr.below hb⟩⟩
end
namespace C9
open Go.ChangeShapes Go.WideShapes Go.RowKit Go.Deep W8
theorem afV(F:List (List UInt8)):(sJ F).2.1.length<=22000/\∀x∈(sJ F).2.1,-9223372036854775808<=x/\x<=9223372036854775807:=by
 unfold sJ;split
 ·simp
 ·split
  ·simp
  ·have h1:=BG F (F.length-108);refine⟨by simp only;omega,λx hx=>?_⟩;have:=WN F (F.length-108) x hx;omega
theorem Ky.rd{F:List (List UInt8)}{w w':World}{e:Ending}(h:Ky (sJ F) w e w'):∃v,e=.returned (.tuple #[.string (str (sJ F).1),v,.int .i64 (sJ F).2.2])/\lu w' v (sJ F).2.1/\Below w.heap.size w w':=by obtain⟨v,he,ho,hb⟩:=h;obtain⟨h1,h2⟩:=afV F;exact⟨v,he,lh ho rfl (by omega) h2,hb⟩
section
variable {H:Type} {enc:TypeId×Value->H} {w:World} {base b0:Nat} {sp:Nat->Bool} {held:Bool}
theorem cellsStr9:prog.cellsOf 9=1:=by kernel_rfl
def CW(w:World)(v:Value)(l:List (List UInt8)):Prop:=fQ w v l/\l.length<=9223372036854775807/\∀i,i<l.length->(aJ [] l i).length<=9223372036854775807
theorem UG{v:Value}{d:DataW H}{ps:List MemPlace}{r:Reach}(hval:Value.okWide prog w r b0 45 v)(hd:DataW.Trod enc prog w base sp held 45 v d ps):∃l,CW w v l:=by
 obtain⟨a,len,cap,rfl⟩:=okWide_slice underlying45 hval;obtain⟨fuel,hf⟩:=hd;obtain⟨l,h1,h2,h3⟩:=Qw ([]:List UInt8) uY (λx=>x.length<=9223372036854775807) underlying45 cellsStr9 (by omega) (λn cs x h=>by
  obtain⟨s,h1,_,h2⟩:=DataW.trod_string underlying9 h;refine⟨s.data.toList,by rw[h1];show _ = [Value.string (str s.data.toList)];rw[<-Ri s],?_⟩;have:(str s.data.toList).size=s.data.toList.length:=au _;rw[<-Ri s]at this;unfold maxLen at h2;omega) (by simpa[Value.cells]using hf)
 exact⟨l,h1,h2,h3⟩
end
end C9
namespace W8
open Go.RowKit Go.Shelf
theorem ait:∃n:Nat,n=138:=⟨_,rfl⟩
noncomputable def nw:Nat:=ait.choose
theorem WS:nw=138:=ait.choose_spec
noncomputable def qH(f:Int)(raw:List UInt8)(S:List Int):List UInt8×List Int×Bool:=dJ f raw S nw
theorem aea(f:Int)(raw:List UInt8)(S:List Int):dJ f raw S 138=qH f raw S:=by unfold qH;rw[WS]
theorem MW(f:Int)(raw:List UInt8)(S:List Int):(qH f raw S).1.length=raw.length:=rF f raw S nw
theorem akj(S ws:List Int):(rel S ws).length<=S.length:=by
 unfold rel;generalize ws.length=n
 induction n with
 |zero=>exact zl _
 |succ n ih=>exact zT (YN _ _) ih
theorem QD(f:Int)(raw:List UInt8)(S:List Int):∀k,(dJ f raw S k).2.1.length<=S.length
 |0=>zl _
 | k+1=>by
   have ih:=QD f raw S k;rw[dJ];unfold oQ;dsimp only;split
   ·exact zT (akj _ _) ih
   ·exact ih
theorem aeb(f:Int)(raw:List UInt8)(S:List Int):(qH f raw S).2.1.length<=S.length:=QD f raw S nw
def again{α:Type}(g:α->α):Nat->α->α
 |0,x=>x
 |i+1,x=>g (again g i x)
noncomputable def amS(f:Int)(st:List UInt8×List Int):List UInt8×List Int:=((qH f st.1 st.2).1,(qH f st.1 st.2).2.1)
noncomputable def kN(f:Int)(raw:List UInt8)(S:List Int)(i:Nat):List UInt8×List Int:=again (amS f) i (raw,S)
theorem yz(f:Int)(raw:List UInt8)(S:List Int)(i:Nat):kN f raw S (i+1)=((qH f (kN f raw S i).1 (kN f raw S i).2).1,(qH f (kN f raw S i).1 (kN f raw S i).2).2.1):=rfl
theorem wM(f:Int)(raw:List UInt8)(S:List Int):∀i,(kN f raw S i).1.length=raw.length
 |0=>rfl
 |i+1=>by rw[yz];exact(MW f _ _).trans (wM f raw S i)
def Qo(w:World)(b:Nat):Nat:=match w.heap[b]? with
 |some (.map es _)=>es.size
 |_=>0
theorem MS.Qo{w:World}{b n:Nat}{S:List Int}(h:MS w b n S):Qo w b=S.length:=by obtain⟨D,⟨es,clock,hb,F,hs,rfl⟩,_,_,hlen,_⟩:=h;unfold W8.Qo;rw[hb];dsimp only;rw[<-hlen];simp[Maps.size,DataW.length_sorted]
def am1(e0 g cap mb n0 B0:Nat)(f:Int)(raw:List UInt8)(S:List Int)(w:World)(W:World):Prop:=
 ∃i,Row W e0 g cap (kN f raw S (i+1)).1/\MS W mb n0 (kN f raw S (i+1)).2/\¬ ((kN f raw S (i+1)).2.length<(kN f raw S i).2.length)/\Below B0 w W
noncomputable def sJ(f:Int)(raw:List UInt8)(S:List Int)(i:Nat):List UInt8×Int×Int:=
 if (kN f raw S (i+1)).2 = []/\pM (kN f raw S (i+1)).1 f=true then((kN f raw S (i+1)).1,(G.iF (kN f raw S (i+1)).1 raw 2352:Int),0) else([],0,11)
def afn(raw:List UInt8)(m:Int)(l:List Int)(w:World)(e:Ending)(w':World):Prop:=
 (∃r:List UInt8×Int×Int,e=.returned (.tuple #[.string (str r.1),.int .i64 r.2.1,.int .i64 r.2.2])/\
  ((¬ (jJ raw m=true/\Ep (pF m) l=true)/\r=([],0,1))\/((jJ raw m=true/\Ep (pF m) l=true)/\∃i,¬ ((kN (pF m) raw l (i+1)).2.length<(kN (pF m) raw l i).2.length)/\r=sJ (pF m) raw l i)))/\Below w.heap.size w w'
theorem Td(raw:List UInt8)(m:Int)(ev:Value)(l:List Int)(w:World)(hf:jJ raw m=true)(hv:lu w ev l)(hl:l.length<=100000):
 Calls prog 74 #[.string (str raw),.int .i64 m,ev] w (afn raw m l w):=by
 obtain⟨hm1,hlen⟩:=LC hf;have HF:=zH (λW=>first_any m W);rw[hm1]at HF;have hs:(str raw).size=2352:=by rw[au,hlen]
 have hd:((2352:Int) != 2352)=false:=by decide
 have HL:=zH hlen;have anv:=zH hf;have anM:=zH (λW (hb:Below w.heap.size w W)=>set_any (pF m) ev l W (hv.keep hb) hl);obtain⟨hw0,⟨ea,ec,_,_,rfl,_⟩,_⟩:=hv;unfold afn;generalize pF m=f at *;clear hm1 hlen hf;go_enter func74,ntmps74;go_wp2_with (refine(HF.out _).mono ?_;rintro e w' ⟨rfl,rfl⟩);refine(anM.out _ (zB _ _)).mono ?_;rintro e w1 (⟨he,rfl,hb1⟩|⟨he,rfl,hm,hb1⟩)
 ·have HE:=zH he;clear he;go_wp2_with fail;refine zr (results_tmp3 rfl _ _ _) rfl ?_;exact⟨⟨([],0,1),rfl,.inl ⟨λh=>(by rw[HE.out]at h;cases h.2),rfl⟩⟩,hb1⟩
 ·have HE:=zH he;obtain⟨mb,hmb⟩:∃mb,mb=w.heap.size:=⟨_,rfl⟩;rw[<-hmb]at hm;rw[<-hmb];have HMB:=zH hmb;clear he hmb;have hHM:=zH hm;clear hm
  go_upto_block 0 with (refine gZ rfl _ rfl underlying9 underlying65 underlying5 rfl ?_;intro w2 cap hr2 hb2 hcap)
  have hm2:=hHM.out.below hb2;have hr3:Row w2 5 w1.heap.size cap raw:=hr2;have hB2:=hb1.trans (hb2.mono hb1.size);have alZ:=hb1.size;have adg:w.heap.size<=mb:=by rw[HMB.out];exact zl _
  obtain⟨g,hg⟩:∃g,g=w1.heap.size:=⟨_,rfl⟩;rw[<-hg]at hr3 alZ ⊢;have HG:=zH hg;clear hr2 hb2 hb1 hHM hg
  go_cut [] (λwx=>am1 5 g cap mb l.length w.heap.size f raw l w wx)
  case first=>
   go_wp2_with fail
   go_loopw [13] (λvk wr=>∃i idle:Nat,idle<=16/\vk=.int .i64 idle/\Hid (0<idle->∃j,i=j+1/\¬ ((kN f raw l (j+1)).2.length<(kN f raw l j).2.length))/\Row wr 5 g cap (kN f raw l i).1/\MS wr mb l.length (kN f raw l i).2/\Below w.heap.size w wr) (λvk wr=>Qo wr mb*17+(16-(RowKit.intOf vk).toNat))
   case atStart=>exact⟨0,0,by omega,rfl,zH (λh=>by omega),hr3,hm2,hB2⟩
   case round=>
    clear hr3 hm2 hB2;obtain⟨i,idle,hid,rfl,HI,hr,hm,hb⟩:=hrel;by_cases hlt:idle<16
    ·have hlt':(idle:Int)<16:=by omega
     have hil:=wM f raw l i;rw[HL.out]at hil;have HP:=zH (aec g cap mb l.length w.heap.size (kN f raw l i).1 (kN f raw l i).2 f wr hr hil hm alZ adg hb.size);have hml:=hm.Qo;have hst1:(kN f raw l (i+1)).1=(qH f (kN f raw l i).1 (kN f raw l i).2).1:=by rw[yz]
     have hst2:(kN f raw l (i+1)).2=(qH f (kN f raw l i).1 (kN f raw l i).2).2.1:=by rw[yz]
     have ajP:=aeb f (kN f raw l i).1 (kN f raw l i).2;unfold abT at HP;rw[aea]at HP;generalize qH f (kN f raw l i).1 (kN f raw l i).2=st at *;obtain⟨R1,S1,C1⟩:=st;dsimp only at hst1 hst2 HP ajP;have anD:=zH ajP;clear ajP;have HI1:=zH hst1;have HI2:=zH hst2;have aiQ:=zH hml;have lQ:Hid (decide (S1.length<(kN f raw l i).2.length)=false->¬ ((kN f raw l (i+1)).2.length<(kN f raw l i).2.length)):=zH λh=>by rw[hst2];simpa using h
     have IY:Hid (decide (S1.length<(kN f raw l i).2.length)=true->S1.length<(kN f raw l i).2.length):=zH λh=>by simpa using h
     generalize decide (S1.length<(kN f raw l i).2.length)=fw at *;clear hst1 hst2 hr hm hil hml;cases C1 with
     | false=>
       cases fw with
       | false=>
         have HNo:=zH (lQ.out rfl);clear lQ IY;go_wp2_with (refine HP.out.mono ?_;rintro e w3 ⟨rfl,hr3,Dk,hb3⟩);go_meet;exact⟨i,by rw[HI1.out];exact hr3,by rw[HI2.out];exact Dk,HNo.out,hb.trans hb3⟩
       | true=>
         have HLt:=zH (IY.out rfl);clear lQ IY;go_wp2_with (refine HP.out.mono ?_;rintro e w3 ⟨rfl,hr3,Dk,hb3⟩);have PT:=Dk.Qo;have HM3:=zH PT;clear PT;go_roundw;case rel=>exact⟨i+1,0,by omega,rfl,zH (λh=>by omega),by rw[HI1.out];exact hr3,by rw[HI2.out];exact Dk,hb.trans hb3⟩
         case measure=>
          have h1:=HM3.out;have h2:=aiQ.out;have h3:=HLt.out;rw[h1,h2];simp[RowKit.intOf];omega
     | true=>
       cases fw with
       | false=>
         have HNo:=zH (lQ.out rfl);clear lQ IY;go_wp2_with (refine HP.out.mono ?_;rintro e w3 ⟨rfl,hr3,Dk,hb3⟩);have PT:=Dk.Qo;have HM3:=zH PT;clear PT;go_roundw;case rel=>exact⟨i+1,idle+1,by omega,by go_num,zH (λh=>⟨i,rfl,HNo.out⟩),by rw[HI1.out];exact hr3,by rw[HI2.out];exact Dk,hb.trans hb3⟩
         case measure=>
          have h1:=HM3.out;have h2:=aiQ.out;have h3:=anD.out;rw[h1,h2];simp[RowKit.intOf];omega
       | true=>
         have HLt:=zH (IY.out rfl);clear lQ IY;go_wp2_with (refine HP.out.mono ?_;rintro e w3 ⟨rfl,hr3,Dk,hb3⟩);have PT:=Dk.Qo;have HM3:=zH PT;clear PT;go_roundw;case rel=>exact⟨i+1,0,by omega,rfl,zH (λh=>by omega),by rw[HI1.out];exact hr3,by rw[HI2.out];exact Dk,hb.trans hb3⟩
         case measure=>
          have h1:=HM3.out;have h2:=aiQ.out;have h3:=HLt.out;rw[h1,h2];simp[RowKit.intOf];omega
    ·obtain rfl:idle=16:=by omega
     go_wp2_with fail;go_meet;obtain⟨j,rfl,hj⟩:=HI.out (by omega);exact⟨j,hr,hm,hj,hb⟩
  case rest=>
   obtain⟨i,hr,hm,hno,hb⟩:=hcut;have hil:=wM f raw l (i+1);rw[HL.out]at hil;have hR:sJ f raw l i=if (kN f raw l (i+1)).2 = []/\pM (kN f raw l (i+1)).1 f=true then((kN f raw l (i+1)).1,(G.iF (kN f raw l (i+1)).1 raw 2352:Int),0) else([],0,11):=rfl
   have hfin:∀r,sJ f raw l i=r->(¬ (jJ raw m=true/\Ep f l=true)/\r=([],0,1))\/((jJ raw m=true/\Ep f l=true)/\∃i,¬ ((kN f raw l (i+1)).2.length<(kN f raw l i).2.length)/\r=sJ f raw l i):=λr h=>.inr ⟨⟨anv.out,HE.out⟩,i,hno,h.symm⟩
   have HFin:=zH hfin;clear hfin hno;generalize kN f raw l (i+1)=st at *;obtain⟨R,T⟩:=st;dsimp only at hr hm hil hR;have hlen:=hm.len 3;have hTd:=hm.nodup;have HR:=zH hR;have HIL:=zH hil;clear hR hTd hm2 hB2 hr3 hm;by_cases hT:T = []
   ·subst hT;have hrd:=hr.rd (by omega);rw[hil]at hrd;have hlen0:((([]:List Int).length:Nat):Int)=0:=rfl;rw[hlen0]at hlen;have HS:=zH (abm _ R f wc hrd hil);have HSB:Hid (∀b,pM R f=b->sJ f raw l i=if b=true then(R,(G.iF R raw 2352:Int),0) else([],0,11)):=zH λb hb=>by
     rw[HR.out,hb];cases b
     ·rw[zi (λh=>by cases h.2)];rfl
     ·rw[zj ⟨rfl,rfl⟩];rfl
    have Wn:=HSB.out _ rfl;generalize pM R f=sb at *;have Ic:=zH Wn;clear Wn HSB hrd hil;cases sb with
    | false=>
      have HX:Hid (sJ f raw l i=([],0,11)):=zH (by rw[Ic.out];rfl);clear Ic;go_wp2_with (refine HS.out.mono ?_;rintro e w3 ⟨rfl,hb3⟩);refine zr (results_tmp3 rfl _ _ _) rfl ?_;exact⟨⟨([],0,11),rfl,HFin.out _ HX.out⟩,hb.trans (hb3.mono hb.size)⟩
    | true=>
      have HX:Hid (sJ f raw l i=(R,(G.iF R raw 2352:Int),0)):=zH (by rw[Ic.out];rfl);clear Ic;go_wp2_with (refine HS.out.mono ?_;rintro e w3 ⟨rfl,hb3⟩;have hr3:=hr.below hb3;have hB3:=hb.trans (hb3.mono hb.size));clear hr hb hb3
      go_loopw [16,69] (λvc vk wr=>∃k:Nat,k<=2352/\vk=.int .i64 k/\vc=.int .i64 (G.iF R raw k)/\Row wr 5 g cap R/\Below w.heap.size w wr) (λ_ vk _=>2352-(RowKit.intOf vk).toNat)
      case atStart=>exact⟨0,by omega,rfl,rfl,hr3,hB3⟩
      case round=>
       clear hr3 hB3;obtain⟨k,hk,rfl,rfl,hr,hb⟩:=hrel;by_cases hlt:k<2352
       ·have hlt':(k:Int)<2352:=by omega
        have hle:=G.KN R raw k;have HA:Hid (G.iF R raw (k+1)=G.iF R raw k+if G.ix R k=G.ix raw k then 0 else 1):=zH rfl;have hc:=hr.cell k (by rw[HIL.out];exact hlt);have hi1:=λwx=>oh (P:=prog) underlying9 raw k (by rw[HL.out];exact hlt) _ rfl wx
        have hbn:(((G.ix R k).toNat:Int) != ((G.ix raw k).toNat:Int)) = !decide (G.ix R k=G.ix raw k):=by rw[Ea];simp
        have hix:∀wx,(Instr.indexAt 65 (.slice (some ⟨g,0,none⟩) 2352 cap) (.int .i64 (k:Int))).run prog wx=.ok (.pointer (some ⟨g,k,none⟩)) wx:=λwx=>by have:=bJ (P:=prog) (a:=some ⟨g,0,none⟩) (off:=0) (b:=g) (n:=2352) (cap:=cap) (k:=k) underlying65 sizeU8 rfl hlt _ rfl wx;rwa[Yf]at this
        generalize G.iF R raw k=c at *;by_cases hq:G.ix R k=G.ix raw k
        ·have hb2:(((G.ix R k).toNat:Int) != ((G.ix raw k).toNat:Int))=false:=by rw[hbn,hq];simp
         rw[zj hq]at HA;clear hbn hq;go_wp2_with fail;go_quiet (fail);have hr3:Row (wr.drewN nq) 5 g cap R:=hr;have hB3:=Below.drewN hb nq;generalize wr.drewN nq=w4 at hr3 hB3 ⊢;clear hr hb hc;go_wp2_with fail;go_roundw;case rel=>exact⟨k+1,by omega,by go_num,by rw[HA.out];rfl,hr3,hB3⟩
         case measure=>simp[RowKit.intOf];omega
        ·have hb2:(((G.ix R k).toNat:Int) != ((G.ix raw k).toNat:Int))=true:=by rw[hbn];simpa using hq
         rw[zi hq]at HA;have HQ:=zH hq;clear hbn hq;go_wp2_with fail;go_quiet (fail);have hr3:Row (wr.drewN nq) 5 g cap R:=hr;have hB3:=Below.drewN hb nq;generalize wr.drewN nq=w4 at hr3 hB3 ⊢;clear hr hb hc;go_wp2_with fail;go_roundw;case rel=>exact⟨k+1,by omega,by go_num,by rw[HA.out];go_num,hr3,hB3⟩
         case measure=>simp[RowKit.intOf];omega
       ·obtain rfl:k=2352:=by omega
        have hrd:=hr.rd (by have:=HIL.out;omega);rw[HIL.out]at hrd;have hcx:=eX (P:=prog) underlying65 underlying5 underlying9 hrd;clear hrd hr;go_wp2_with fail;refine zr (results_tmp3 rfl _ _ _) rfl ?_;exact⟨⟨(R,(G.iF R raw 2352:Int),0),rfl,HFin.out _ HX.out⟩,hb⟩
   ·have h0:decide (0<(T.length:Int))=true:=by have:=YM.2 hT;simp;omega
    have h0':decide (0<T.length)=true:=by simpa using YM.2 hT
    have HX:Hid (sJ f raw l i=([],0,11)):=zH (by rw[HR.out,zi (λh=>hT h.1)]);clear hT hil hr;go_wp2_with fail;refine zr (results_tmp3 rfl _ _ _) rfl ?_;exact⟨⟨([],0,11),rfl,HFin.out _ HX.out⟩,hb⟩
theorem JO(S ws:List Int):∀n,(FZ S ws n).Sublist S
 |0=>List.Sublist.refl _
 |n+1=>by rw[FZ];exact(List.filter_sublist).trans (JO S ws n)
theorem aed(S:List Int)(k:Nat):(pkS S k).Sublist S:=by
 unfold pkS;split
 ·exact JO _ _ _
 ·exact List.Sublist.refl _
theorem FO(S:List Int):∀k,(H9 S k).Sublist S
 |0=>List.Sublist.refl _
 |k+1=>(aed _ k).trans (FO S k)
noncomputable def yx(S:List Int)(i:Nat):List Int:=again (λT=>H9 T nw) i S
theorem qy(S:List Int)(i:Nat):yx S (i+1)=H9 (yx S i) 138:=by show W8.H9 (yx S i) nw=_;rw[WS]
theorem EW(S:List Int):∀i,(yx S i).Sublist S
 |0=>List.Sublist.refl _
 |i+1=>by rw[qy];exact(FO _ _).trans (EW S i)
theorem O4(raw:List UInt8)(m:Int)(ea:Option Addr)(el ec:Nat)(w:World)(hf:jJ raw m=false)(hl:raw.length<=9223372036854775807):
 Calls prog 74 #[.string (str raw),.int .i64 m,.slice ea el ec] w λe w'=>e=.returned (.tuple #[.string (str []),.int .i64 0,.int .i64 1])/\w=w':=by
 have hs:=au raw;have HF:=zH (λW=>first_any m W);cases hb:EH m with
 | false=>
   rw[hb]at HF;clear hb hf;go_enter func74,ntmps74;go_wp2_with (refine(HF.out _).mono ?_;rintro e w' ⟨rfl,rfl⟩);refine zr (results_tmp3 rfl _ _ _) rfl ?_;exact⟨rfl,rfl⟩
 | true=>
   rw[hb]at HF;have hn:raw.length≠2352:=by intro h;unfold jJ at hf;rw[hb,h]at hf;simp at hf
   have hd:((raw.length:Int) != 2352)=true:=by simp;omega
   have HN:=zH hn;clear hb hf hn;go_enter func74,ntmps74;go_wp2_with (refine(HF.out _).mono ?_;rintro e w' ⟨rfl,rfl⟩);refine zr (results_tmp3 rfl _ _ _) rfl ?_;exact⟨rfl,rfl⟩
theorem O3(raw:List UInt8)(m:Int)(ev:Value)(l:List Int)(w:World)(hv:lu w ev l)(hl:l.length<=100000)(hr:raw.length<=9223372036854775807):
 Calls prog 74 #[.string (str raw),.int .i64 m,ev] w (afn raw m l w):=by
 cases hf:jJ raw m with
 |true=>exact Td raw m ev l w hf hv hl
 | false=>
   obtain⟨_,⟨a,c,_,_,rfl,_⟩,_⟩:=hv;refine(O4 raw m a _ c w hf hr).mono ?_;rintro e w' ⟨rfl,rfl⟩;exact⟨⟨([],0,1),rfl,.inl ⟨(λh=>by rw[hf]at h;cases h.1),rfl⟩⟩,zB _ _⟩
theorem TY{c:List UInt8}{f:Int}(hc:Good c f):pM c f=true:=F9 138 (zl _) hc.word
where F9:∀k,k<=138->(∀j,j<138->G.az (bu c (wd j) f) 2=true)->rO c f k=true
 |0,_,_=>rfl
 |k+1,hk,h=>by rw[rO,F9 k (by omega) h,h k (by omega)];rfl
theorem acI{raw:List UInt8}{f:Int}(hl:raw.length=2352)(hf:f<=16):Good (jA raw f 138) f:=⟨by rw[gI];exact hl,Jg hl hf 138 (zl _)⟩
theorem ZT{c R:List UInt8}{S:List Int}{f:Int}(hc:Good c f)(i:Nat)(h:kN f R S (i+1)=(c,[])):sJ f R S i=(c,(G.iF c R 2352:Int),0):=by unfold sJ;rw[h,zj ⟨rfl,TY hc⟩]
theorem agh{f:Int}{l:List Int}(h:Ep f l=true):∀x∈l,f<=x/\x<2352:=λx hx=>by obtain⟨i,hi,rfl⟩:=YL hx;rw[<-bT hi];have:=V5 hi h;exact⟨this.1,this.2.1⟩
theorem adx{c R:List UInt8}{f:Int}{l:List Int}(hc:Good c f)(h:Inv c R l)(hl:∀x∈l,f<=x):∀j,Inv c (kN f R l j).1 (kN f R l j).2/\(kN f R l j).2=yx l j
 |0=>⟨h,rfl⟩
 |j+1=>by obtain⟨h1,h2⟩:=adx hc h hl j;have h3:=Inv.pass hc h1 (λx hx=>by rw[h2]at hx;exact hl x ((EW l j).subset hx)) nw (by rw[WS];exact zl _);rw[yz,qy];refine⟨h3.1,?_⟩;have h4:(qH f (kN f R l j).1 (kN f R l j).2).2.1=H9 (kN f R l j).2 nw:=h3.2;show(qH f (kN f R l j).1 (kN f R l j).2).2.1=_;rw[h4,h2,WS]
theorem ET(l:List Int)(i:Nat):∀k,(yx l (i+k)).Sublist (yx l i)
 |0=>List.Sublist.refl _
 |k+1=>by rw[<-XD,qy];exact(FO _ _).trans (ET l i k)
theorem EU{l:List Int}{j:Nat}(h:¬ (yx l (j+1)).length<(yx l j).length):∀k,yx l (j+k)=yx l j
 |0=>rfl
 | k+1=>by
   have e:yx l (j+1)=yx l j:=by have hs:(yx l (j+1)).Sublist (yx l j):=ET l j 1;exact hs.eq_of_length_le (by omega)
   have ih:=EU h k;rw[<-XD,qy,ih,<-qy,e]
theorem adw{l:List Int}{i j:Nat}(h0:yx l i = [])(h:¬ (yx l (j+1)).length<(yx l j).length):yx l j = []:=by
 by_cases hij:i<=j
 ·obtain⟨k,rfl⟩:∃k,j=i+k:=⟨j-i,by omega⟩;have:=(ET l i k).length_le;rw[h0]at this;exact XR.1 (by simpa using this)
 ·obtain⟨k,rfl⟩:∃k,i=j+k:=⟨i-j,by omega⟩;rw[<-h0,EU h k]
theorem aar{l:List Int}{i:Nat}(h:Jt (yx l i) l = []):yx l i = []:=by
 rcases hq:yx l i with _|⟨x,r⟩
 ·rfl
 ·have hx:x∈yx l i:=by rw[hq];exact List.mem_cons_self ..
  have:x∈Jt (yx l i) l:=YI.2 ⟨(EW l i).subset hx,by simpa using hx⟩;rw[h]at this;cases this
theorem acs{c R:List UInt8}{m:Int}{l:List Int}{i:Nat}{w w':World}{e:Ending}(hm:EH m=true)(hc:Good c (pF m))(hI:Inv c R l)(hE:Ep (pF m) l=true)(h0:Jt (yx l i) l = [])
 (h:afn R m l w e w'):e=.returned (.tuple #[.string (str c),.int .i64 (G.iF c R 2352:Int),.int .i64 0])/\Below w.heap.size w w':=by
 obtain⟨⟨r,rfl,hr⟩,hb⟩:=h;have hfit:jJ R m=true:=by unfold jJ;rw[hm,hI.len];rfl
 rcases hr with ⟨hno,_⟩|⟨_,j,hj,rfl⟩
 ·exact absurd ⟨hfit,hE⟩ hno
 ·have hit:=adx hc hI (λx hx=>(agh hE x hx).1);rw[(hit (j+1)).2,(hit j).2]at hj;have e0:=adw (aar h0) hj;have e1:yx l (j+1) = []:=by rw[EU hj 1];exact e0
  have e2:kN (pF m) R l (j+1)=(c,[]):=by have h5:=hit (j+1);rw[e1]at h5;refine Prod.ext ?_ h5.2;have h6:=h5.1;rw[h5.2]at h6;exact h6.done hc
  rw[ZT hc j e2];exact⟨rfl,hb⟩
attribute [local go_sem] Oper.semAt_some
def Mk(B B1:Nat)(w:World)(ds:List Deferred):Prop:=∃Ds:List Nat,ds=Ds.map (λD=>{target:=.collected D,args:=#[]})/\Ds.Nodup/\∀D∈Ds,B<=D/\D<B1/\w.heap[D]? = some (.deferred (some []))
structure PeS (W:World) (b8 b9 mb n0 B0 B1:Nat) (S:List Int) (c:Bool) (ds:List Deferred) (w:World):Prop where
 x8:Bx W b8 76 [.map (some mb)]
 x9:Bx W b9 4 [.bool c]
 ms:MS W mb n0 S
 mks:Mk (b8+1) B1 W ds
 bl:Below B0 w W
theorem Mk.kept{B B1 B2:Nat}{W W':World}{ds:List Deferred}(h:Mk B B1 W ds)(hk:∀D,B<=D->D<B1->W.heap[D]? = some (.deferred (some []))->W'.heap[D]? = W.heap[D]?)(hB:B1<=B2):Mk B B2 W' ds:=by obtain⟨Ds,h1,h2,h3⟩:=h;refine⟨Ds,h1,h2,λD hD=>?_⟩;obtain⟨h4,h5,h6⟩:=h3 D hD;exact⟨h4,by omega,(hk D h4 h5 h6).trans h6⟩
section
variable {W W':World} {b8 b9 mb n0 B0 B1:Nat} {S:List Int} {c:Bool} {ds:List Deferred} {w:World}
theorem PeS.call(h:PeS W b8 b9 mb n0 B0 B1 S c ds w)(hb:Below W.heap.size W W')(hB:B0<=W.heap.size):PeS W' b8 b9 mb n0 B0 B1 S c ds w:=
 ⟨h.x8.call hb,h.x9.call hb,h.ms.below hb,h.mks.kept (λD _ _ hk=>hb.block D (Yd.1 hk).1) (zl _),h.bl.trans (hb.mono hB)⟩
end
end W8
namespace E1
open Go.RowKit Ih
structure RcW (w0:World) (gT:Nat) (cl:Int) (fin:Bool) (v:Value) (W:World):Prop where
 z:Bx W w0.heap.size 37 [.int .i64 0,.bool false,.slice none 0 0]
 t:Bx W gT 37 [.int .i64 cl,.bool fin,v]
 le:Below w0.heap.size w0 W
 g:w0.heap.size<gT
section
variable {w0 W W':World} {gT:Nat} {cl:Int} {fin:Bool} {v:Value}
theorem RcW.call(h:RcW w0 gT cl fin v W)(hb:Below W.heap.size W W'):RcW w0 gT cl fin v W':=⟨h.z.call hb,h.t.call hb,h.le.trans (hb.mono h.le.size),h.g⟩
theorem RcW.put(h:RcW w0 gT cl fin v W)(v':Value):RcW w0 gT cl fin v' (W.setCell ⟨gT,2,none⟩ v'):=
 have:=h.g
 ⟨h.z.far (by simp only;omega) _,h.t.set 2 v',h.le.setCell (by simp only;omega) _,h.g⟩
end
def RcC(w0:World)(gT:Nat)(H0:Nat)(l:List UInt8)(o:Nat)(cl:Int)(fin:Bool)(vv:Value)(ts:List T.ax)(n:Nat)(r:Nat)(W:World):Prop:=
 (r<=1->RcW w0 gT cl fin vv W)/\(r=0->W.ownsRow (gT+1) 94 7 vv n (fH kK ts))/\(r=2->∃v',RcW w0 gT cl fin v' W/\W.ownsRow (gT+1) 94 7 v' (n+1) (fH kK (ts++[rW l o])))/\H0<=W.heap.size
theorem RcC.call{w0:World}{gT H0:Nat}{l:List UInt8}{o:Nat}{cl:Int}{fin:Bool}{vv:Value}{ts:List T.ax}{n:Nat}{r:Nat}{W W':World}(h:RcC w0 gT H0 l o cl fin vv ts n r W)(hb:Below W.heap.size W W'):RcC w0 gT H0 l o cl fin vv ts n r W':=
 ⟨λhr=>(h.1 hr).call hb,λhr=>aV (h.2.1 hr) hb,λhr=>by obtain⟨v',h1,h2⟩:=h.2.2.1 hr;exact⟨v',h1.call hb,aV h2 hb⟩,zT h.2.2.2 hb.size⟩
def RcR(H0 base n:Nat)(xs:List Value)(r:Nat)(w W:World):Prop:=
 (∀k,H0<=k->k<w.heap.size->W.heap[k]? = w.heap[k]?)/\w.heap.size<=W.heap.size/\(1<=r->∀v',w.ownsRow base 94 7 v' n xs->W.ownsRow base 94 7 v' n xs)
theorem RcR.refl(H0 base n:Nat)(xs:List Value)(r:Nat)(w:World):RcR H0 base n xs r w w:=⟨λ_ _ _=>rfl,zl _,λ_ _ h=>h⟩
theorem RcR.call{H0 base n:Nat}{xs:List Value}{r:Nat}{w W:World}(hb:Below w.heap.size w W):RcR H0 base n xs r w W:=⟨λk _ h=>hb.block k h,hb.size,λ_ _ h=>aV h hb⟩
def RcF(w0:World)(gT:Nat)(l:List UInt8)(cl:Int)(fin:Bool)(va:Option Addr)(n vc:Nat)(ts:List T.ax)(r:Nat)(W:World):Prop:=
 (r=0->RcW w0 gT cl fin (.slice va n vc) W)/\W.ownsRow (gT+1) 94 7 (.slice va n vc) n (fH kK ts)/\(r=1->Bx W w0.heap.size 37 [.int .i64 cl,.bool fin,.slice va n vc]/\Below w0.heap.size w0 W)
theorem RcF.call{w0:World}{gT:Nat}{l:List UInt8}{cl:Int}{fin:Bool}{va:Option Addr}{n vc:Nat}{ts:List T.ax}{r:Nat}{W W':World}(h:RcF w0 gT l cl fin va n vc ts r W)(hb:Below W.heap.size W W'):RcF w0 gT l cl fin va n vc ts r W':=
 ⟨λhr=>(h.1 hr).call hb,aV h.2.1 hb,λhr=>⟨(h.2.2 hr).1.call hb,(h.2.2 hr).2.trans (hb.mono (h.2.2 hr).2.size)⟩⟩
def kL(cap:Int)(a b:List UInt8):Bool:=okD cap a && (!okD cap b || decide (fK b<=fK a))
def jI(cap:Int)(a b:List UInt8):Bool:=okD cap a || okD cap b
def gz(cap:Int)(a b:List UInt8):List UInt8:=if kL cap a b=true then a else b
theorem afQ{cap:Int}{a b:List UInt8}(h:jI cap a b=true):okD cap (gz cap a b)=true:=by unfold gz kL jI at *;cases ha:okD cap a <;> cases hb:okD cap b <;> simp_all;split <;> assumption
def alf(s:List UInt8)(cl:Int)(fin:Bool)(ts:List T.ax)(q:Int):Prop:=cl=tu s/\fin=dI s/\ts=jE s (pX s)/\q=fK s
def am0(cap:Int)(a b:List UInt8)(w:World)(e:Ending)(w':World):Prop:=
 ∃(cl:Int)(fin:Bool)(v:Value)(ts:List T.ax)(q:Int),e=.returned (.tuple #[aN cl fin v,.int .i64 q,.bool (kL cap a b),.bool (jI cap a b)])/\bQ w' v ts/\Below w.heap.size w w'/\(jI cap a b=true->alf (gz cap a b) cl fin ts q)
abbrev sN(a b:List UInt8):Value:=.agg #[.string (str a),.string (str b)]
structure CuW (w0:World) (a b:List UInt8) (W:World):Prop where
 s:Bx W w0.heap.size 39 [.string (str a),.string (str b)]
 z:Bx W (w0.heap.size+1) 37 [.int .i64 0,.bool false,.slice none 0 0]
 le:Below w0.heap.size w0 W
theorem CuW.call{w0 W W':World}{a b:List UInt8}(h:CuW w0 a b W)(hb:Below W.heap.size W W'):CuW w0 a b W':=⟨h.s.call hb,h.z.call hb,h.le.trans (hb.mono h.le.size)⟩
theorem CuW.new(w0:World)(a b:List UInt8):CuW w0 a b ((w0.alloc (.cells #[.string (str a),.string (str b)] 39)).alloc (.cells #[.int .i64 0,.bool false,.slice none 0 0] 37)):=
 ⟨(Bx.new w0 _ _).alloc _,by have:=Bx.new (w0.alloc (.cells #[.string (str a),.string (str b)] 39)) 37 [.int .i64 0,.bool false,.slice none 0 0];rw[Yl]at this;exact this,((zB _ _).alloc (zl _) _).alloc (by simp) _⟩
theorem bQ.ake{W:World}{g:Nat}{v:Value}{ts:List T.ax}(h:bQ W v ts)(hb:Bx W g 37 [.int .i64 0,.bool false,.slice none 0 0])(a b c:Value):bQ (((W.setCell ⟨g,0,none⟩ a).setCell ⟨g,1,none⟩ b).setCell ⟨g,2,none⟩ c) v ts:=by
 obtain⟨ad,cap,bb,off,rfl,hac,hcell⟩:=h;refine⟨ad,cap,bb,off,rfl,hac,λi hi=>⟨(hcell i hi).1,λj u hu=>?_⟩⟩;have h6:=(hcell i hi).2 j u hu;have hne:g≠bb:=by
  rintro rfl;have h7:=(hcell i hi).2;have hx:=h7 0 _ rfl;have hy:=h7 1 _ rfl;have hz:=h7 2 _ rfl;rw[Xd _ _ _ _ _ _ hb]at hx hy hz;generalize off+i*7=k at hx hy hz
  match k with
  |0=>simp at hy
  |1=>simp at hx
  |2=>simp at hx
  |k+3=>simp at hx
 have e:∀(W:World)(m:Nat)(x:Value),(W.setCell ⟨g,m,none⟩ x).cell? ⟨bb,off+i*7+j,none⟩=W.cell? ⟨bb,off+i*7+j,none⟩:=λW m x=>World.cell?_setCell_other W _ _ _ (λe=>hne (Yp Addr.block e))
 rw[e,e,e];exact h6
theorem mO(cap:Int)(a b:List UInt8)(w:World)(hla:a.length<=20000)(hlb:b.length<=20000):Calls prog 165 #[.int .i64 cap,sN a b] w (am0 cap a b w):=by
 obtain⟨oa,hoa⟩:∃oa,okD cap a=oa:=⟨_,rfl⟩;obtain⟨ob,hob⟩:∃ob,okD cap b=ob:=⟨_,rfl⟩;have VE:=zH hoa;have G7:=zH hob;clear hoa hob;have HDA:=zH (λW=>decode_any cap a W (by omega));have HDB:=zH (λW=>decode_any cap b W (by omega));have VC:=zH (CuW.new w a b);clear hla hlb;go_enter func165,ntmps165;go_upto_region 1 with (fail)
 have hcw:=VC.out;generalize (w.alloc (.cells #[.string (str a),.string (str b)] 39)).alloc (.cells #[.int .i64 0,.bool false,.slice none 0 0] 37)=w1 at hcw ⊢;have s0:=hcw.s.cell (i:=0) rfl;go_wp2_with fail;refine(HDA.out _).mono ?_;rintro e w2 ⟨SQ,fin1,v1,Vs,q1,rfl,hr1,hb2,ht1⟩;rw[VE.out];obtain⟨a1,c1,rfl,_⟩:=dU.form hr1;have hcw2:=hcw.call hb2;clear s0 hcw hb2;have HT1:=zH ht1;clear ht1;have hcw3:=hcw2.call ((zB w2.heap.size w2).alloc (zl _) (.cells #[.int .i64 SQ,.bool fin1,.slice a1 Vs.length c1] 37));have hB1:=Bx.new w2 37 [.int .i64 SQ,.bool fin1,.slice a1 Vs.length c1];have hr2:=hr1.keep ((zB w2.heap.size w2).alloc (zl _) (.cells #[.int .i64 SQ,.bool fin1,.slice a1 Vs.length c1] 37));clear hcw2 hr1;go_upto_region 2 with (fail)
 obtain⟨g1,hg1⟩:∃g1,g1=w2.heap.size:=⟨_,rfl⟩;rw[<-hg1]at hB1;simp only[<-hg1];generalize w2.alloc (.cells #[.int .i64 SQ,.bool fin1,.slice a1 Vs.length c1] 37)=w3 at hcw3 hB1 hr2 ⊢;clear hg1;have s1:=hcw3.s.cell (i:=1) rfl;go_wp2_with fail;refine(HDB.out _).mono ?_;rintro e w4 ⟨Ij,fin2,v2,IP,q2,rfl,hr3,hb4,ht2⟩;obtain⟨a2,c2,rfl,_⟩:=dU.form hr3;have ajL:=hcw3.call hb4;have hB2:=hB1.call hb4;have hr4:=hr2.keep hb4;have HT2:=zH ht2;have hlt4:=hB2.lt;clear s1 hcw3 hb4 hB1 hr2 ht2;rw[G7.out];have Iu:=ajL.call ((zB w4.heap.size w4).alloc (zl _) (.cells #[.int .i64 Ij,.bool fin2,.slice a2 IP.length c2] 37));have Bv:=hB2.alloc (.cells #[.int .i64 Ij,.bool fin2,.slice a2 IP.length c2] 37);have Oc:=Bx.new w4 37 [.int .i64 Ij,.bool fin2,.slice a2 IP.length c2];have EP:=hr4.keep ((zB w4.heap.size w4).alloc (zl _) (.cells #[.int .i64 Ij,.bool fin2,.slice a2 IP.length c2] 37));have ER:=hr3.keep ((zB w4.heap.size w4).alloc (zl _) (.cells #[.int .i64 Ij,.bool fin2,.slice a2 IP.length c2] 37));clear ajL hB2 hr4 hr3;go_upto_region 3 with (fail)
 obtain⟨g2,hg2⟩:∃g2,g2=w4.heap.size:=⟨_,rfl⟩;rw[<-hg2]at Oc hlt4;simp only[<-hg2];generalize w4.alloc (.cells #[.int .i64 Ij,.bool fin2,.slice a2 IP.length c2] 37)=w5 at Iu Bv Oc EP ER ⊢;clear hg2;have z0:=Iu.z.cell (i:=0) rfl;have z1:=Iu.z.cell (i:=1) rfl;have z2:=Iu.z.cell (i:=2) rfl;have zf:=Iu.z.free;have zl:=Iu.z.lt;have x0:=Bv.cell (i:=0) rfl;have x1:=Bv.cell (i:=1) rfl;have x2:=Bv.cell (i:=2) rfl;have y0:=Oc.cell (i:=0) rfl;have y1:=Oc.cell (i:=1) rfl;have y2:=Oc.cell (i:=2) rfl;have lQ:=zH Iu.le;have HR5:=zH (bQ.ake EP Iu.z);have HR6:=zH (bQ.ake ER Iu.z);clear Iu Bv Oc EP ER;cases oa with
 | false=>
   cases ob with
   | false=>
     go_wp2_with fail;refine zr (v:=.tuple #[aN Ij fin2 (.slice a2 IP.length c2),.int .i64 q2,.bool false,.bool false]) (by simp[results,results165,go_sem,z0,z1,z2]) rfl ?_;have hA:kL cap a b=false:=by unfold kL;rw[VE.out,G7.out];simp
     have hO:jI cap a b=false:=by unfold jI;rw[VE.out,G7.out];rfl
     exact⟨Ij,fin2,_,IP,q2,by rw[hA,hO],HR6.out _ _ _,((lQ.out.setCell (by simp) _).setCell (by simp) _).setCell (by simp) _,λh=>by cases hO.symm.trans h⟩
   | true=>
     go_wp2_with fail;refine zr (v:=.tuple #[aN Ij fin2 (.slice a2 IP.length c2),.int .i64 q2,.bool false,.bool true]) (by simp[results,results165,go_sem,z0,z1,z2]) rfl ?_;have hA:kL cap a b=false:=by unfold kL;rw[VE.out,G7.out];simp
     have hO:jI cap a b=true:=by unfold jI;rw[VE.out,G7.out];rfl
     exact⟨Ij,fin2,_,IP,q2,by rw[hA,hO],HR6.out _ _ _,((lQ.out.setCell (by simp) _).setCell (by simp) _).setCell (by simp) _,λh=>by unfold gz;rw[hA];exact HT2.out G7.out⟩
 | true=>
   cases ob with
   | false=>
     go_wp2_with fail;refine zr (v:=.tuple #[aN SQ fin1 (.slice a1 Vs.length c1),.int .i64 q1,.bool true,.bool true]) (by simp[results,results165,go_sem,z0,z1,z2]) rfl ?_;have hA:kL cap a b=true:=by unfold kL;rw[VE.out,G7.out];simp
     have hO:jI cap a b=true:=by unfold jI;rw[VE.out,G7.out];rfl
     exact⟨SQ,fin1,_,Vs,q1,by rw[hA,hO],HR5.out _ _ _,((lQ.out.setCell (by simp) _).setCell (by simp) _).setCell (by simp) _,λh=>by unfold gz;rw[hA];exact HT1.out VE.out⟩
   | true=>
     have HQ:=zH (show q1=fK a/\q2=fK b from⟨(HT1.out VE.out).2.2.2,(HT2.out G7.out).2.2.2⟩);by_cases hge:q2<=q1
     ·have HS:Hid (fK b<=fK a):=zH (by have:=HQ.out;omega);go_wp2_with fail;refine zr (v:=.tuple #[aN SQ fin1 (.slice a1 Vs.length c1),.int .i64 q1,.bool true,.bool true]) (by simp[results,results165,go_sem,z0,z1,z2]) rfl ?_;have hA:kL cap a b=true:=by unfold kL;rw[VE.out,G7.out];simp;exact HS.out
      have hO:jI cap a b=true:=by unfold jI;rw[VE.out,G7.out];rfl
      exact⟨SQ,fin1,_,Vs,q1,by rw[hA,hO],HR5.out _ _ _,((lQ.out.setCell (by simp) _).setCell (by simp) _).setCell (by simp) _,λh=>by unfold gz;rw[hA];exact HT1.out VE.out⟩
     ·have HS:Hid (¬ fK b<=fK a):=zH (by have:=HQ.out;omega);go_wp2_with fail;refine zr (v:=.tuple #[aN Ij fin2 (.slice a2 IP.length c2),.int .i64 q2,.bool false,.bool true]) (by simp[results,results165,go_sem,z0,z1,z2]) rfl ?_;have hA:kL cap a b=false:=by unfold kL;rw[VE.out,G7.out];simp;exact Nat.lt_of_not_le HS.out
      have hO:jI cap a b=true:=by unfold jI;rw[VE.out,G7.out];rfl
      exact⟨Ij,fin2,_,IP,q2,by rw[hA,hO],HR6.out _ _ _,((lQ.out.setCell (by simp) _).setCell (by simp) _).setCell (by simp) _,λh=>by unfold gz;rw[hA];exact HT2.out G7.out⟩
def lZ(cap:Int)(a b:List UInt8):je×Int:=
 if ¬ (1<=cap/\cap<=449849) then(je.bad 1,0) else if jI cap a b=false then(je.bad 6,0) else(⟨tu (gz cap a b),dI (gz cap a b),jE (gz cap a b) (pX (gz cap a b)),0⟩,fK (gz cap a b))
def I5(r:je×Int)(w:World)(e:Ending)(w':World):Prop:=∃v,e=.returned (.tuple #[aN r.1.cl r.1.fin v,.int .i64 r.2,.int .i64 r.1.code])/\bQ w' v r.1.l/\Below w.heap.size w w'
def uk(cap:Int)(a b:List UInt8):Int:=if jI cap a b=true then(fK (gz cap a b):Int)+1 else 0
def mi(cap:Int)(a b:List UInt8)(cl:Int)(fin:Bool)(l:List T.ax):(List UInt8×List UInt8)×Int:=
 if T.az cap cl fin l=false then(([],[]),1) else if 2147483647<uk cap a b then(([],[]),7) else
  (if kL cap a b=true then(a,dV (uk cap a b) cl fin l) else(dV (uk cap a b) cl fin l,b),0)
def DT(r:(List UInt8×List UInt8)×Int)(w:World)(e:Ending)(w':World):Prop:=e=.returned (.tuple #[sN r.1.1 r.1.2,.int .i64 r.2])/\Below w.heap.size w w'
structure SvW (w0:World) (a b:List UInt8) (cl:Int) (fin:Bool) (sv:Value) (W:World):Prop where
 s:Bx W w0.heap.size 39 [.string (str a),.string (str b)]
 t:Bx W (w0.heap.size+1) 37 [.int .i64 cl,.bool fin,sv]
 z:Bx W (w0.heap.size+2) 39 [.string ⟨#[]⟩,.string ⟨#[]⟩]
 le:Below w0.heap.size w0 W
theorem SvW.call{w0 W W':World}{a b:List UInt8}{cl:Int}{fin:Bool}{sv:Value}(h:SvW w0 a b cl fin sv W)(hb:Below W.heap.size W W'):SvW w0 a b cl fin sv W':=⟨h.s.call hb,h.t.call hb,h.z.call hb,h.le.trans (hb.mono h.le.size)⟩
theorem SvW.new(w0:World)(a b:List UInt8)(cl:Int)(fin:Bool)(sv:Value):SvW w0 a b cl fin sv (((w0.alloc (.cells #[.string (str a),.string (str b)] 39)).alloc (.cells #[.int .i64 cl,.bool fin,sv] 37)).alloc (.cells #[.string ⟨#[]⟩,.string ⟨#[]⟩] 39)):=
 ⟨((Bx.new w0 _ _).alloc _).alloc _,by have:=(Bx.new (w0.alloc (.cells #[.string (str a),.string (str b)] 39)) 37 [.int .i64 cl,.bool fin,sv]).alloc (.cells #[.string ⟨#[]⟩,.string ⟨#[]⟩] 39); rw[Yl]at this; exact this,
   by have:=Bx.new ((w0.alloc (.cells #[.string (str a),.string (str b)] 39)).alloc (.cells #[.int .i64 cl,.bool fin,sv] 37)) 39 [.string ⟨#[]⟩,.string ⟨#[]⟩];rw[Yl,Yl]at this;exact this,
   (((zB _ _).alloc (zl _) _).alloc (by simp) _).alloc (by simp;omega) _⟩
theorem UL(cap:Int)(a b:List UInt8)(w:World)(hc:cap<1):Calls prog 162 #[.int .i64 cap,sN a b] w (I5 (je.bad 1,0) w):=by have HCP:Hid (decide (1<=cap/\cap<=449849)=false):=zH (zf (by omega));go_enter func162,ntmps162;go_wp2_with fail;refine zr (v:=.tuple #[aN 0 false (.slice none 0 0),.int .i64 0,.int .i64 1]) (by simp[results,results162,go_sem]) rfl ⟨_,rfl,bQ.nil _,?_⟩;exact((zB _ _).alloc (zl _) _).alloc (by simp) _
theorem UM(cap:Int)(a b:List UInt8)(w:World)(hc:449849<cap):Calls prog 162 #[.int .i64 cap,sN a b] w (I5 (je.bad 1,0) w):=by
 have HCP:Hid (decide (1<=cap/\cap<=449849)=false):=zH (zf (by omega));have hc2:¬ cap<1:=by omega
 go_enter func162,ntmps162;go_wp2_with fail;refine zr (v:=.tuple #[aN 0 false (.slice none 0 0),.int .i64 0,.int .i64 1]) (by simp[results,results162,go_sem]) rfl ⟨_,rfl,bQ.nil _,?_⟩;exact((zB _ _).alloc (zl _) _).alloc (by simp) _
theorem aaJ(cap:Int)(a b:List UInt8)(w:World)(hla:a.length<=20000)(hlb:b.length<=20000)(hc:1<=cap)(hc2:cap<=449849)(o:Bool)(HO:Hid (jI cap a b=o))(Z:je×Int)(HZ:Hid ((if o=false then(je.bad 6,0) else(⟨tu (gz cap a b),dI (gz cap a b),jE (gz cap a b) (pX (gz cap a b)),0⟩,fK (gz cap a b)):je×Int)=Z)):Calls prog 162 #[.int .i64 cap,sN a b] w (I5 Z w):=by
 have HCP:Hid (decide (1<=cap/\cap<=449849)=true):=zH (zt ⟨hc,hc2⟩);have HCU:=zH (λW=>mO cap a b W hla hlb);have VC:=zH (CuW.new w a b);have hd1:¬ cap<1:=by omega
 have hd2:¬ 449849<cap:=by omega
 clear hla hlb;go_enter func162,ntmps162;go_upto_region 1 with (fail)
 have hcw:=VC.out;generalize (w.alloc (.cells #[.string (str a),.string (str b)] 39)).alloc (.cells #[.int .i64 0,.bool false,.slice none 0 0] 37)=w1 at hcw ⊢;have s0:=hcw.s.cell (i:=0) rfl;have s1:=hcw.s.cell (i:=1) rfl;go_wp2_with fail;refine(HCU.out _).mono ?_;rintro e w2 ⟨SQ,fin1,v1,Vs,q1,rfl,hr1,hb2,ht1⟩;rw[HO.out];obtain⟨a1,c1,rfl,_⟩:=dU.form hr1;have hcw2:=hcw.call hb2;have HT1:Hid (jI cap a b=true->alf (gz cap a b) SQ fin1 Vs q1):=zH ht1;clear s0 s1 hcw hb2 ht1;have hcw3:=hcw2.call ((zB w2.heap.size w2).alloc (zl _) (.cells #[.int .i64 SQ,.bool fin1,.slice a1 Vs.length c1] 37));have hB1:=Bx.new w2 37 [.int .i64 SQ,.bool fin1,.slice a1 Vs.length c1];have hr2:=hr1.keep ((zB w2.heap.size w2).alloc (zl _) (.cells #[.int .i64 SQ,.bool fin1,.slice a1 Vs.length c1] 37));clear hcw2 hr1;go_upto_region 4 with (fail)
 obtain⟨g1,hg1⟩:∃g1,g1=w2.heap.size:=⟨_,rfl⟩;rw[<-hg1]at hB1;simp only[<-hg1];generalize w2.alloc (.cells #[.int .i64 SQ,.bool fin1,.slice a1 Vs.length c1] 37)=w5 at hcw3 hB1 hr2 ⊢;clear hg1;have z0:=hcw3.z.cell (i:=0) rfl;have z1:=hcw3.z.cell (i:=1) rfl;have z2:=hcw3.z.cell (i:=2) rfl;have zf:=hcw3.z.free;have zl:=hcw3.z.lt;have x0:=hB1.cell (i:=0) rfl;have x1:=hB1.cell (i:=1) rfl;have x2:=hB1.cell (i:=2) rfl;have lQ:=zH hcw3.le;have HR5:=zH (bQ.ake hr2 hcw3.z);clear hcw3 hB1 hr2;cases o with
 | false=>
   obtain rfl:=(zj rfl).symm.trans HZ.out;go_wp2_with fail;refine zr (v:=.tuple #[aN 0 false (.slice none 0 0),.int .i64 0,.int .i64 6]) (by simp[results,results162,go_sem,z0,z1,z2]) rfl ⟨_,rfl,bQ.nil _,?_⟩;exact((lQ.out.setCell (by simp) _).setCell (by simp) _).setCell (by simp) _
 | true=>
   obtain rfl:=(zi (by decide)).symm.trans HZ.out;go_wp2_with fail;refine zr (v:=.tuple #[aN SQ fin1 (.slice a1 Vs.length c1),.int .i64 q1,.int .i64 0]) (by simp[results,results162,go_sem,z0,z1,z2]) rfl ?_;obtain⟨e1,e2,e3,e4⟩:=HT1.out HO.out;subst e1 e2 e3 e4;exact⟨_,rfl,HR5.out _ _ _,((lQ.out.setCell (by simp) _).setCell (by simp) _).setCell (by simp) _⟩
theorem aaI(cap:Int)(a b:List UInt8)(w:World)(hla:a.length<=20000)(hlb:b.length<=20000):Calls prog 162 #[.int .i64 cap,sN a b] w (I5 (lZ cap a b) w):=by
 unfold lZ;by_cases h1:cap<1
 ·rw[zj (by omega)];exact UL cap a b w h1
 by_cases h2:449849<cap
 ·rw[zj (by omega)];exact UM cap a b w h2
 rw[zi (by omega)];exact aaJ cap a b w hla hlb (by omega) (by omega) _ (zH rfl) _ (zH rfl)
theorem aaP(cap:Int)(a b:List UInt8)(cl:Int)(fin:Bool)(sv:Value)(l:List T.ax)(w:World)(hr:bQ w sv l)(hf:Fine l)(hv:T.az cap cl fin l=false):Calls prog 85 #[.int .i64 cap,sN a b,aN cl fin sv] w (DT (([],[]),1) w):=by have hsw:=SvW.new w a b cl fin sv;have HV:=zH (oG cap cl fin sv l _ (hr.keep hsw.le) hf);rw[hv]at HV;have HSW:=zH hsw;obtain⟨a1,c1,rfl,_⟩:=dU.form hr;clear hv hsw hr hf;go_enter func85,ntmps85;go_wp2_with fail;refine HV.out.mono ?_;rintro e w1 ⟨rfl,hb1⟩;have aaj:=HSW.out.call hb1;have z0:=aaj.z.cell (i:=0) rfl;have z1:=aaj.z.cell (i:=1) rfl;have zf:=aaj.z.free;have zl:=aaj.z.lt;have lQ:=zH aaj.le;clear aaj hb1;go_wp2_with fail;refine zr (v:=.tuple #[sN [] [],.int .i64 1]) (by simp[results,results85,go_sem,z0,z1,str]) rfl ⟨rfl,?_⟩;exact(lQ.out.setCell (by simp <;> omega) _).setCell (by simp <;> omega) _
theorem aaQ(cap:Int)(a b:List UInt8)(cl:Int)(fin:Bool)(sv:Value)(l:List T.ax)(w:World)(hr:bQ w sv l)(hf:Fine l)(hv:T.az cap cl fin l=true)(hcl:cl<=9223372036854775807)(hla:a.length<=20000)(hlb:b.length<=20000)(HO:Hid (jI cap a b=false))(HA:Hid (kL cap a b=false)):Calls prog 85 #[.int .i64 cap,sN a b,aN cl fin sv] w (DT ((dV 0 cl fin l,b),0) w):=by
 have hsw:=SvW.new w a b cl fin sv;have HV:=zH (oG cap cl fin sv l _ (hr.keep hsw.le) hf);rw[hv]at HV;have HEN:=zH (λq W hW=>oM cap q cl fin sv l W hW hf hcl);have HER:Hid (iE cap 0 cl fin l=(dV 0 cl fin l,0)):=zH (by
  unfold iE;rw[hv,zi (by decide)];rw[zj (by omega)])
 have HCU:=zH (λW=>mO cap a b W hla hlb);have HSW:=zH hsw;have HR:=zH hr;obtain⟨a1,c1,rfl,_⟩:=dU.form hr;clear hv hsw hr hf hla hlb hcl;obtain⟨E,hE⟩:∃E,E=dV 0 cl fin l:=⟨_,rfl⟩;rw[<-hE]at HER;rw[<-hE];clear hE;go_enter func85,ntmps85;go_upto_region 1 with (fail)
 have hsw:=HSW.out;generalize ((w.alloc (.cells #[.string (str a),.string (str b)] 39)).alloc (.cells #[.int .i64 cl,.bool fin,.slice a1 l.length c1] 37)).alloc (.cells #[.string ⟨#[]⟩,.string ⟨#[]⟩] 39)=w1 at hsw HV ⊢;have t0:=hsw.t.cell (i:=0) rfl;have t1:=hsw.t.cell (i:=1) rfl;have t2:=hsw.t.cell (i:=2) rfl;go_wp2_with fail;refine HV.out.mono ?_;rintro e w2 ⟨rfl,hb2⟩;have yt:=hsw.call hb2;have s0:=yt.s.cell (i:=0) rfl;have s1:=yt.s.cell (i:=1) rfl;clear t0 t1 t2 hsw hb2 HV HSW;go_wp2_with fail;refine(HCU.out _).mono ?_;rintro e w3 ⟨Ij,fin2,v2,IP,q2,rfl,hr2,hb3,ht2⟩;rw[HO.out];rw[HA.out];obtain⟨a2,c2,rfl,_⟩:=dU.form hr2;have nO:=yt.call (hb3.trans ((zB w3.heap.size w3).alloc (zl _) (.cells #[.int .i64 Ij,.bool fin2,.slice a2 IP.length c2] 37) |>.mono hb3.size));clear s0 s1 yt hb3 ht2 hr2;go_upto_region 4 with (fail)
 generalize w3.alloc (.cells #[.int .i64 Ij,.bool fin2,.slice a2 IP.length c2] 37)=w4 at nO ⊢;have t0:=nO.t.cell (i:=0) rfl;have t1:=nO.t.cell (i:=1) rfl;have t2:=nO.t.cell (i:=2) rfl;have HRK:=HR.out.keep nO.le;go_wp2_with fail;refine(HEN.out _ _ HRK).mono ?_;rw[HER.out];rintro e w5 ⟨rfl,hb5⟩;have jT:=nO.call hb5;have s0:=jT.s.cell (i:=0) rfl;have s1:=jT.s.cell (i:=1) rfl;have sf:=jT.s.free;have z0:=jT.z.cell (i:=0) rfl;have z1:=jT.z.cell (i:=1) rfl;have zf:=jT.z.free;have zl:=jT.z.lt;have lQ:=zH jT.le;clear t0 t1 t2 nO hb5 jT HRK;go_wp2_with fail;refine zr (v:=.tuple #[sN E b,.int .i64 0]) (by simp[results,results85,go_sem,z0,z1,str]) rfl ⟨rfl,?_⟩;exact((lQ.out.setCell (by simp <;> omega) _).setCell (by simp <;> omega) _).setCell (by simp <;> omega) _
theorem ahm(cap:Int)(a b:List UInt8)(cl:Int)(fin:Bool)(sv:Value)(l:List T.ax)(w:World)(hr:bQ w sv l)(hf:Fine l)(hv:T.az cap cl fin l=true)(hcl:cl<=9223372036854775807)(hla:a.length<=20000)(hlb:b.length<=20000)(HO:Hid (jI cap a b=true))(ba:Bool)(HA:Hid (kL cap a b=ba))(hq:¬ 2147483647<(fK (gz cap a b):Int)+1):Calls prog 85 #[.int .i64 cap,sN a b,aN cl fin sv] w (DT (if ba=true then(a,dV ((fK (gz cap a b):Int)+1) cl fin l) else(dV ((fK (gz cap a b):Int)+1) cl fin l,b),0) w):=by
 have hsw:=SvW.new w a b cl fin sv;have HV:=zH (oG cap cl fin sv l _ (hr.keep hsw.le) hf);rw[hv]at HV;have HEN:=zH (λq W hW=>oM cap q cl fin sv l W hW hf hcl);have HER:Hid (iE cap ((fK (gz cap a b):Int)+1) cl fin l=(dV ((fK (gz cap a b):Int)+1) cl fin l,0)):=zH (by
  unfold iE;rw[hv,zi (by decide)];rw[zj (by omega)])
 have HCU:=zH (λW=>mO cap a b W hla hlb);have HSW:=zH hsw;have HR:=zH hr;obtain⟨a1,c1,rfl,_⟩:=dU.form hr;clear hv hsw hr hf hla hlb hcl hq;obtain⟨E,hE⟩:∃E,E=dV ((fK (gz cap a b):Int)+1) cl fin l:=⟨_,rfl⟩;rw[<-hE]at HER;rw[<-hE];clear hE;generalize hZ:(if ba=true then(a,E) else(E,b))=Z;have HZ:=zH hZ;clear hZ;go_enter func85,ntmps85;go_upto_region 1 with (fail)
 have hsw:=HSW.out;generalize ((w.alloc (.cells #[.string (str a),.string (str b)] 39)).alloc (.cells #[.int .i64 cl,.bool fin,.slice a1 l.length c1] 37)).alloc (.cells #[.string ⟨#[]⟩,.string ⟨#[]⟩] 39)=w1 at hsw HV ⊢;have t0:=hsw.t.cell (i:=0) rfl;have t1:=hsw.t.cell (i:=1) rfl;have t2:=hsw.t.cell (i:=2) rfl;go_wp2_with fail;refine HV.out.mono ?_;rintro e w2 ⟨rfl,hb2⟩;have yt:=hsw.call hb2;have s0:=yt.s.cell (i:=0) rfl;have s1:=yt.s.cell (i:=1) rfl;clear t0 t1 t2 hsw hb2 HV HSW;go_wp2_with fail;refine(HCU.out _).mono ?_;rintro e w3 ⟨Ij,fin2,v2,IP,q2,rfl,hr2,hb3,ht2⟩;rw[HO.out];rw[HA.out];obtain⟨a2,c2,rfl,_⟩:=dU.form hr2;have nO:=yt.call (hb3.trans ((zB w3.heap.size w3).alloc (zl _) (.cells #[.int .i64 Ij,.bool fin2,.slice a2 IP.length c2] 37) |>.mono hb3.size));have hq2:q2=fK (gz cap a b):=(ht2 HO.out).2.2.2;subst hq2;have hqb:=pJ (gz cap a b) 4 4 (by omega);have hqc:(0:Int)<=fK (gz cap a b)/\(fK (gz cap a b):Int)<4294967296:=⟨by omega,by unfold fK;omega⟩;have aou:=hqc.1;have aov:=hqc.2;clear hqb hqc;clear s0 s1 yt hb3 ht2 hr2;go_upto_region 4 with (fail)
 generalize w3.alloc (.cells #[.int .i64 Ij,.bool fin2,.slice a2 IP.length c2] 37)=w4 at nO ⊢;have t0:=nO.t.cell (i:=0) rfl;have t1:=nO.t.cell (i:=1) rfl;have t2:=nO.t.cell (i:=2) rfl;have HRK:=HR.out.keep nO.le;go_wp2_with fail;refine(HEN.out _ _ HRK).mono ?_;rw[HER.out];rintro e w5 ⟨rfl,hb5⟩;have jT:=nO.call hb5;have s0:=jT.s.cell (i:=0) rfl;have s1:=jT.s.cell (i:=1) rfl;have sf:=jT.s.free;have z0:=jT.z.cell (i:=0) rfl;have z1:=jT.z.cell (i:=1) rfl;have zf:=jT.z.free;have zl:=jT.z.lt;have lQ:=zH jT.le;clear t0 t1 t2 nO hb5 jT HRK;cases ba with
 | false=>
   obtain rfl:=(zi (by decide)).symm.trans HZ.out;go_wp2_with fail;refine zr (v:=.tuple #[sN E b,.int .i64 0]) (by simp[results,results85,go_sem,z0,z1,str]) rfl ⟨rfl,?_⟩;exact((lQ.out.setCell (by simp <;> omega) _).setCell (by simp <;> omega) _).setCell (by simp <;> omega) _
 | true=>
   obtain rfl:=(zj rfl).symm.trans HZ.out;go_wp2_with fail;refine zr (v:=.tuple #[sN a E,.int .i64 0]) (by simp[results,results85,go_sem,z0,z1,str]) rfl ⟨rfl,?_⟩;exact((lQ.out.setCell (by simp <;> omega) _).setCell (by simp <;> omega) _).setCell (by simp <;> omega) _
theorem aaR(cap:Int)(a b:List UInt8)(cl:Int)(fin:Bool)(sv:Value)(l:List T.ax)(w:World)(hr:bQ w sv l)(hf:Fine l)(hv:T.az cap cl fin l=true)(hcl:cl<=9223372036854775807)(hla:a.length<=20000)(hlb:b.length<=20000)(HO:Hid (jI cap a b=true))(hq:2147483647<(fK (gz cap a b):Int)+1):Calls prog 85 #[.int .i64 cap,sN a b,aN cl fin sv] w (DT (([],[]),7) w):=by
 have hsw:=SvW.new w a b cl fin sv;have HV:=zH (oG cap cl fin sv l _ (hr.keep hsw.le) hf);rw[hv]at HV;have HEN:=zH (λq W hW=>oM cap q cl fin sv l W hW hf hcl);have HER:Hid (iE cap ((fK (gz cap a b):Int)+1) cl fin l=([],2)):=zH (by
  unfold iE;rw[hv,zi (by decide)];rw[zi (by omega)])
 have HCU:=zH (λW=>mO cap a b W hla hlb);have HSW:=zH hsw;have HR:=zH hr;obtain⟨a1,c1,rfl,_⟩:=dU.form hr;clear hv hsw hr hf hla hlb hcl hq;go_enter func85,ntmps85;go_upto_region 1 with (fail)
 have hsw:=HSW.out;generalize ((w.alloc (.cells #[.string (str a),.string (str b)] 39)).alloc (.cells #[.int .i64 cl,.bool fin,.slice a1 l.length c1] 37)).alloc (.cells #[.string ⟨#[]⟩,.string ⟨#[]⟩] 39)=w1 at hsw HV ⊢;have t0:=hsw.t.cell (i:=0) rfl;have t1:=hsw.t.cell (i:=1) rfl;have t2:=hsw.t.cell (i:=2) rfl;go_wp2_with fail;refine HV.out.mono ?_;rintro e w2 ⟨rfl,hb2⟩;have yt:=hsw.call hb2;have s0:=yt.s.cell (i:=0) rfl;have s1:=yt.s.cell (i:=1) rfl;clear t0 t1 t2 hsw hb2 HV HSW;go_wp2_with fail;refine(HCU.out _).mono ?_;rintro e w3 ⟨Ij,fin2,v2,IP,q2,rfl,hr2,hb3,ht2⟩;rw[HO.out];obtain⟨a2,c2,rfl,_⟩:=dU.form hr2;have nO:=yt.call (hb3.trans ((zB w3.heap.size w3).alloc (zl _) (.cells #[.int .i64 Ij,.bool fin2,.slice a2 IP.length c2] 37) |>.mono hb3.size));have hq2:q2=fK (gz cap a b):=(ht2 HO.out).2.2.2;subst hq2;have hqb:=pJ (gz cap a b) 4 4 (by omega);have hqc:(0:Int)<=fK (gz cap a b)/\(fK (gz cap a b):Int)<4294967296:=⟨by omega,by unfold fK;omega⟩;have aou:=hqc.1;have aov:=hqc.2;clear hqb hqc;clear s0 s1 yt hb3 ht2 hr2;go_upto_region 4 with (fail)
 generalize w3.alloc (.cells #[.int .i64 Ij,.bool fin2,.slice a2 IP.length c2] 37)=w4 at nO ⊢;have t0:=nO.t.cell (i:=0) rfl;have t1:=nO.t.cell (i:=1) rfl;have t2:=nO.t.cell (i:=2) rfl;have HRK:=HR.out.keep nO.le;go_wp2_with fail;refine(HEN.out _ _ HRK).mono ?_;rw[HER.out];rintro e w5 ⟨rfl,hb5⟩;have jT:=nO.call hb5;have s0:=jT.s.cell (i:=0) rfl;have s1:=jT.s.cell (i:=1) rfl;have sf:=jT.s.free;have z0:=jT.z.cell (i:=0) rfl;have z1:=jT.z.cell (i:=1) rfl;have zf:=jT.z.free;have zl:=jT.z.lt;have lQ:=zH jT.le;clear t0 t1 t2 nO hb5 jT HRK;go_wp2_with fail;refine zr (v:=.tuple #[sN [] [],.int .i64 7]) (by simp[results,results85,go_sem,z0,z1,str]) rfl ⟨rfl,?_⟩;exact(lQ.out.setCell (by simp <;> omega) _).setCell (by simp <;> omega) _
theorem aaO(cap:Int)(a b:List UInt8)(cl:Int)(fin:Bool)(sv:Value)(l:List T.ax)(w:World)(hr:bQ w sv l)(hf:Fine l)(hcl:cl<=9223372036854775807)(hla:a.length<=20000)(hlb:b.length<=20000):Calls prog 85 #[.int .i64 cap,sN a b,aN cl fin sv] w (DT (mi cap a b cl fin l) w):=by
 unfold mi uk;cases hv:T.az cap cl fin l with
 | false=>
   rw[zj rfl];exact aaP cap a b cl fin sv l w hr hf hv
 | true=>
   rw[zi (by decide)];cases ho:jI cap a b with
   | false=>
     have ha:kL cap a b=false:=by unfold jI at ho;unfold kL;rw[Bool.or_eq_false_iff]at ho;rw[ho.1];rfl
     rw[zi (by decide:¬ false=true),zi (by decide),zi (by rw[ha];decide)];exact aaQ cap a b cl fin sv l w hr hf hv hcl hla hlb ho ha
   | true=>
     rw[zj rfl];by_cases hq:2147483647<(fK (gz cap a b):Int)+1
     ·rw[zj hq];exact aaR cap a b cl fin sv l w hr hf hv hcl hla hlb ho hq
     ·rw[zi hq];exact ahm cap a b cl fin sv l w hr hf hv hcl hla hlb ho _ (zH rfl) hq
theorem MM(cap:Int):okD cap []=false:=by rw[YZ];intro h;have:=(yK.1 h).1.1;simp at this
structure Oi (cap:Int) (c o:List UInt8) (q:Nat) (cl:Int) (fin:Bool) (l:List T.ax):Prop where
 v:T.aK cap cl fin l
 hc:c=dV q cl fin l
 hq:q<=1000
 ho:okD cap o=true->fK o<q
 n:o.length<=3000
section
variable {cap:Int} {c o:List UInt8} {q:Nat} {cl:Int} {fin:Bool} {l:List T.ax}
theorem Oi.read(h:Oi cap c o q cl fin l):okD cap c=true/\fK c=q/\(tu c:Int)=cl/\dI c=fin/\jE c (pX c)=l/\c.length=16+20*l.length:=by have h1:=ag3 (q:=q) h.v (by omega) (by have:=h.hq;omega);rw[<-h.hc]at h1;exact⟨h1.1,by have:=h1.2.1;omega,h1.2.2.1,h1.2.2.2.1,h1.2.2.2.2.2.1,h1.2.2.2.2.2.2⟩
theorem Oi.len(h:Oi cap c o q cl fin l):c.length<=3000:=by have:=h.read.2.2.2.2.2;have:=h.v.2.2.1;omega
theorem Oi.first(h:Oi cap c o q cl fin l):kL cap c o=true/\jI cap c o=true/\gz cap c o=c:=by
 have h1:=h.read;have hA:kL cap c o=true:=by
  unfold kL;rw[h1.1,Bool.true_and];cases ho:okD cap o with
  |false=>rfl
  | true=>
    have:=h.ho ho;simp;omega
 refine⟨hA,by unfold jI;rw[h1.1];rfl,by unfold gz;rw[zj hA]⟩
theorem Oi.second(h:Oi cap c o q cl fin l):kL cap o c=false/\jI cap o c=true/\gz cap o c=c:=by
 have h1:=h.read;have hA:kL cap o c=false:=by
  unfold kL;cases ho:okD cap o with
  |false=>rfl
  | true=>
    have:=h.ho ho;rw[h1.1];simp;omega
 refine⟨hA,by unfold jI;rw[h1.1];simp,by unfold gz;rw[zi (by rw[hA];decide)]⟩
theorem Oi.load(h:Oi cap c o q cl fin l):lZ cap c o=((⟨cl,fin,l,0⟩:je),(q:Int))/\lZ cap o c=((⟨cl,fin,l,0⟩:je),(q:Int)):=by obtain⟨_,f2,f3⟩:=h.first;obtain⟨_,s2,s3⟩:=h.second;obtain⟨r1,r2,r3,r4,r5,_⟩:=h.read;have hcap:¬ ¬ (1<=cap/\cap<=449849):=XE ⟨h.v.1,h.v.2.1⟩;unfold lZ;rw[zi hcap,zi hcap,f2,s2,f3,s3,r2,r3,r4,r5];exact⟨rfl,rfl⟩
theorem Oi.save(h:Oi cap c o q cl fin l){cl':Int}{fin':Bool}{l':List T.ax}(hv:T.aK cap cl' fin' l')(hq:q<1000):
 mi cap c o cl' fin' l'=((c,dV (q+1:Nat) cl' fin' l'),0)/\mi cap o c cl' fin' l'=((dV (q+1:Nat) cl' fin' l',c),0)/\Oi cap (dV (q+1:Nat) cl' fin' l') c (q+1) cl' fin' l'/\dV (q+1:Nat) cl' fin' l'≠o:=by
 obtain⟨f1,f2,f3⟩:=h.first;obtain⟨s1,s2,s3⟩:=h.second;obtain⟨r1,r2,r3,r4,r5,r6⟩:=h.read;have hB:¬ T.az cap cl' fin' l'=false:=by rw[T.bz.2 hv];decide
 have hn1:uk cap c o=(q+1:Nat):=by unfold uk;rw[zj f2,f3,r2];simp
 have hn2:uk cap o c=(q+1:Nat):=by unfold uk;rw[zj s2,s3,r2];simp
 have hC:Oi cap (dV (q+1:Nat) cl' fin' l') c (q+1) cl' fin' l':=⟨hv,rfl,by omega,λ_=>by omega,h.len⟩;refine⟨?_,?_,hC,λe=>?_⟩
 ·unfold mi;rw[zi hB,hn1,zi (by omega),zj f1]
 ·unfold mi;rw[zi hB,hn2,zi (by omega),zi (by rw[s1];decide)]
 ·have h2:=hC.read;rw[e]at h2;have:=h.ho h2.1;omega
end
theorem U6{cap:Int}(h1:1<=cap)(h2:cap<=449849):mi cap [] [] 0 false []=((dV (0:Nat) 0 false [],[]),0)/\Oi cap (dV (0:Nat) 0 false []) [] 0 0 false []:=by
 have hv:=T.abI h1 h2;have hB:¬ T.az cap 0 false []=false:=by rw[T.bz.2 hv];decide
 have hO:jI cap [] []=false:=by unfold jI;rw[MM];rfl
 have hA:kL cap [] []=false:=by unfold kL;rw[MM];rfl
 have hn:uk cap [] []=0:=by unfold uk;rw[zi (by rw[hO];decide)]
 refine⟨?_,hv,rfl,by omega,λh=>(by rw[MM]at h;cases h),by simp⟩;unfold mi;rw[zi hB,hn,zi (by omega),zi (by rw[hA];decide)];rfl
end E1
end Go.Proofs.YtfnehkmhcmkhjaaGreat
