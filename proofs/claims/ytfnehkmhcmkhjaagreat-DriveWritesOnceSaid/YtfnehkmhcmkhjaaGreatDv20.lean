/- Parts:XSeqI XIb XIc -/
import Derived.Test.YtfnehkmhcmkhjaaGreatDvAl
import Derived.Test.YtfnehkmhcmkhjaaGreatDv14
import Derived.Test.YtfnehkmhcmkhjaaGreatDv15
import Derived.Sort.LoopGhostIn
import Derived.Test.YtfnehkmhcmkhjaaGreatDv17
import Derived.Sort.CutIn
set_option maxRecDepth 100000
set_option maxHeartbeats 8000000
set_option linter.unusedVariables false
namespace Go.Proofs.YtfnehkmhcmkhjaaGreat
open Tryz
section
open Go.RowKit
section
variable {P:Program} {Q:Exit->Act->World->Prop} {n2 l₀:Nat}
theorem xw{id:Nat}{l:List Oper}{a0:Act}{w:World}(hQ:¬ LetsOut Q)(hd:l.all lN=true)(hm:P.follows .mixedOrders=true)(R:Nat->World->World->Prop)(C:Nat->World->Prop)(V:Nat->Value->World->Prop)(sk:Nat->Bool)(eff:Nat->Option Nat)(n:Nat)(hf:kT l a0.tmps.size=true)
 (hch:chainB l eff sk n=true)(hn:((List.range l.length).any fun i=>eff i == some (n - 1))=true\/n=0)
 (hV:∀i r v w w',(∀k,eff i=some k->k<r)->R r w w'->V i v w->V i v w')(h0:C 0 w.drew)
 (hstep:rO P Q R C V sk eff l a0 0 l)
 (hend:∀a w,C n w->a.defers=a0.defers->a.tmps.size=a0.tmps.size->(∀t,eP l t=true->a.tmps.getD t undef=a0.tmps.getD t undef)->
  (∀(i:Nat)(o:Oper),l[i]? = some o->sk i=false->V i (dC o.dst a) w)->Q .normal a w):(Code.region id l.toArray true).wpIn (Fence.wide.inRound l₀) n2 P Q a0 w:=by
 refine wpIn_region_any hm (pX hd hQ _ _ _ _ ?_);have hnn:(Array.replicate l.toArray.size false).size=l.length:=by simp
 have hz:∀i,i<l.length->(Array.replicate l.toArray.size false).getD i false=false:=fun i hi=>by simp[Array.getD,hi]
 refine Cj hf hch hn hV hstep hend _ _ _ _ hnn ?_ ⟨⟨0,Nat.zero_le _,h0,fun i k hi _=>?_⟩,rfl,rfl,fun t _=>rfl,fun i o ho _ hl=>?_,fun _ _ _ _ _ _=>rfl,fun j oj hoj hl=>?_⟩
 ·have:=List.length_filter_le (fun i=>!(Array.replicate l.toArray.size false).getD i true) (List.range l.length);unfold left;simpa using this
 ·rw[hz i hi]; simp
 ·rw[hz i (List.getElem?_eq_some_iff.1 ho).1]at hl; cases hl
 ·rw[hz j (List.getElem?_eq_some_iff.1 hoj).1]at hl; cases hl
end
end
namespace T7
open Go Go.RowKit
def rs(r:Nat):Nat:=(r / 2) ||| (((r % 2) ^^^ (r / 2 % 2)) * 16384)
def reg:Nat->Nat
 | 0=>1
 | k+1=>rs (reg k)
theorem adN{r:Nat}(h:r<32768):rs r<32768:=by unfold rs;have hx:(r % 2) ^^^ (r / 2 % 2)<2:=Nat.xor_lt_two_pow (n:=1) (by omega) (by omega);exact Nat.or_lt_two_pow (n:=15) (by omega) (by omega)
theorem KJ:∀k,reg k<32768
 | 0=>by decide
 | k+1=>adN (KJ k)
theorem OO(a b:Nat)(ha:a<65536)(hb:b<65536):bits .and .i64 (a:Int) (b:Int)=((a &&& b:Nat):Int):=by have hx:a &&& b<=a:=Nat.and_le_left;show IntKind.i64.wrap ((BitVec.ofInt 64 (a:Int) &&& BitVec.ofInt 64 (b:Int)).toNat:Int)=_;rw[BitVec.toNat_and,ofInt_u64 a (by omega),ofInt_u64 b (by omega)];exact IntWalk.i64_in _ (by omega)
theorem TI(a b:Nat)(ha:a<65536)(hb:b<65536):bits .or .i64 (a:Int) (b:Int)=((a ||| b:Nat):Int):=by
 have hx:a ||| b<2 ^ 16:=Nat.or_lt_two_pow (by omega) (by omega)
 show IntKind.i64.wrap ((BitVec.ofInt 64 (a:Int) ||| BitVec.ofInt 64 (b:Int)).toNat:Int)=_;rw[BitVec.toNat_or,ofInt_u64 a (by omega),ofInt_u64 b (by omega)];exact IntWalk.i64_in _ (by omega)
theorem OQ(a b:Nat)(ha:a<65536)(hb:b<65536):bits .xor .i64 (a:Int) (b:Int)=((a ^^^ b:Nat):Int):=by have hx:a ^^^ b<2 ^ 16:=Nat.xor_lt_two_pow (by omega) (by omega);show IntKind.i64.wrap ((BitVec.ofInt 64 (a:Int) ^^^ BitVec.ofInt 64 (b:Int)).toNat:Int)=_;rw[BitVec.toNat_xor,ofInt_u64 a (by omega),ofInt_u64 b (by omega)];exact IntWalk.i64_in _ (by omega)
theorem CS{x:Nat}(h:x<65536):bits .and .i64 (x:Int) 1=((x % 2:Nat):Int):=by have e:=OO x 1 h (by omega);rw[Nat.and_one_is_mod]at e;exact e
theorem AO(w:World):Calls prog 219 #[] w fun e w'=>e=.returned (.func (.func 291) #[] #[])/\w=w':=by go_enter func219,ntmps219;go_wp2_with fail;go_ret;exact⟨rfl,rfl⟩
def GR(k:Nat)(v:Value)(W:World):Prop:=v=.int .i64 (reg k:Nat)
theorem KL(n N:Nat)(hn:2<=n)(w:World):IK Fence.wide n prog 291 #[] N GR w:=fun l J Jx W hW hNJ hJ hY h0=>by
 refine callsIn_of_wp func291 rfl trivial ?_ rfl;simp only[ntmps291,List.size_toArray,List.length_cons,List.length_nil,Nat.reduceAdd,Nat.reduceSub,Array.replicate_succ,Array.replicate_zero,List.push_toArray,List.append_toArray,List.nil_append,List.cons_append];have hW0:=hW.size;have hn1:1<=n:=by omega
 have hn2:1<=n - 1:=by omega
 clear hW;have hN0:0<N:=by
  rcases Nat.eq_zero_or_pos N with h | h
  ·subst h; exact absurd h0 (hNJ _)
  ·exact h
 gi_wp2
 gi_loopg [2] N (fun m v wr=>∃k:Nat,m+k=N/\k<N/\v=.int .i64 (reg k:Nat)/\J k wr/\w.heap.size<=wr.heap.size)
 case atStart=>exact⟨0,by omega,hN0,rfl,h0,hW0⟩
 case round=>
  obtain⟨k,hk,hkN,rfl,Ze,hs⟩:=hrel;clear h0 hW0;have hr:=KJ k;have hgr:GR k (.int .i64 (reg k:Nat)) wr:=rfl;have HRS:Hid (reg (k+1)=rs (reg k)):=zH rfl;have HRU:Hid (rs (reg k)=(reg k / 2) ||| (((reg k % 2) ^^^ (reg k / 2 % 2)) * 16384)):=zH rfl;generalize hrk:reg k=r at *;have hx:(r % 2) ^^^ (r / 2 % 2)<2:=Nat.xor_lt_two_pow (n:=1) (by omega) (by omega);have e1:=CS (x:=r) (by omega);have e2:=CS (x:=r / 2) (by omega);have e3:=OQ (r % 2) (r / 2 % 2) (by omega) (by omega);obtain⟨x,hxx⟩:∃x,x=(r % 2) ^^^ (r / 2 % 2):=⟨_,rfl⟩;rw[<-hxx]at hx e3 HRU;have e4:=TI (r / 2) (x * 16384) (by omega) (by omega);clear hxx hrk;obtain⟨fn,tmps,assign,body,hy,hR⟩:=hY k (.int .i64 (r:Nat)) wr hkN Ze hgr;have E1:=zH e1;have E2:=zH e2;have E3:=zH e3;have E4:=zH e4;clear e1 e2 e3 e4;gi_wp2;refine hR.mono ?_;rintro e W3 (⟨rfl,hJ3,hs3⟩ | ⟨rfl,hJx3⟩)
  ·have e1:=E1.out;have e2:=E2.out;have e3:=E3.out;have e4:=E4.out;gi_wp2
   gi_roundg (gk - 1)
   case measure=>omega
   case rel=>
    refine⟨k+1,by omega,?_,congrArg (Value.int .i64) ?_,hJ3,by omega⟩
    ·rcases Nat.lt_or_ge (k+1) N with h | h
     ·exact h
     ·have h2:k+1=N:=by omega
      rw[h2]at hJ3;exact absurd hJ3 (hNJ _)
    ·rw[HRS.out,HRU.out];have a2:bits .and .i64 ((r:Int) / 2) 1=((r / 2 % 2:Nat):Int):=E2.out;have a3:bits .xor .i64 ((r:Int) % 2) ((r / 2 % 2:Nat):Int)=(x:Int):=E3.out;have a4:bits .or .i64 ((r:Int) / 2) ((x:Int) * 16384)=((r / 2 ||| x * 16384:Nat):Int):=E4.out;have a5:wrap64 ((x:Int) * 16384)=(x:Int) * 16384:=by unfold wrap64; omega
     rw[a2,a3,a5,a4]
  ·gi_wp2;go_end0;exact⟨⟨_,rfl⟩,hJx3⟩
end T7
namespace T7
open Go Go.RowKit W8
attribute [local go_sem] Oper.semAt_some
theorem infoU8s:(prog.info? 5).map (fun i=>(i.zero,i.size,i.bytes))=some (some (.int .u8 0),1,1):=by kernel_rfl
def MP(p:Nat):Nat->Nat
 | 0=>0
 | m+1=>MP p m ||| ((reg (8 * p+m) % 2) * 2 ^ m)
theorem TT(p:Nat):∀m,MP p m<2 ^ m
 | 0=>by simp[MP]
 | m+1=>by
   have h:=TT p m;refine Nat.or_lt_two_pow (zL h (Nat.pow_le_pow_right (by omega) (by omega))) ?_;have h2:reg (8 * p+m) % 2<=1:=by omega
   calc (reg (8 * p+m) % 2) * 2 ^ m<=1 * 2 ^ m:=Nat.mul_le_mul_right _ h2
    _<2 ^ (m+1):=by rw[Nat.pow_succ]; have:=Nat.two_pow_pos m; omega
theorem MQ(p:Nat){m:Nat}(h:m<=8):MP p m<256:=zL (TT p m) (Nat.pow_le_pow_right (n:=2) (by omega) h)
def Gq(p m:Nat):UInt8:=UInt8.ofNat (MP p m)
theorem MR(p:Nat){m:Nat}(h:m<=8):(Gq p m).toNat=MP p m:=by have:=MQ p h;unfold Gq;rw[UInt8.toNat_ofNat'];omega
def uA(n i:Nat):List UInt8:=(List.range n).map fun p=>Gq p (min 8 (i - 8 * p))
theorem pR(n i:Nat):(uA n i).length=n:=by simp[uA]
theorem Qd(n:Nat):uA n 0=List.replicate n 0:=by
 apply List.ext_getElem?;intro p;by_cases h:p<n
 ·simp[uA,h,Gq,MP]
 ·rw[List.getElem?_eq_none (by rw[pR]; omega),List.getElem?_eq_none (by simp; omega)]
theorem Eo{n i p:Nat}(h:p<n):(uA n i)[p]? = some (Gq p (min 8 (i - 8 * p))):=by simp[uA,h]
theorem Yn{n i:Nat}(h:i<8 * n):G.ix (uA n i) (i / 8)=Gq (i / 8) (i % 8):=by
 have hp:i / 8<n:=by omega
 unfold G.ix;rw[List.getD_eq_getElem?_getD,Eo hp,show min 8 (i - 8 * (i / 8))=i % 8 from by omega];rfl
theorem Qc{n i:Nat}(h:i<8 * n):(uA n i).set (i / 8) (Gq (i / 8) (i % 8+1))=uA n (i+1):=by
 have hp:i / 8<n:=by omega
 apply List.ext_getElem?;intro p;by_cases hn:p<n
 ·rw[Eo hn,List.getElem?_set];by_cases e:i / 8=p
  ·rw[zj e,zj (by rw[pR]; exact hp),<-e,show min 8 (i+1 - 8 * (i / 8))=i % 8+1 from by omega]
  ·rw[zi e,Eo hn,show min 8 (i - 8 * p)=min 8 (i+1 - 8 * p) from by omega]
 ·rw[List.getElem?_eq_none (by rw[List.length_set,pR]; omega),List.getElem?_eq_none (by rw[pR]; omega)]
def sH(n:Nat):List UInt8:=(List.range n).map fun p=>Gq p 8
theorem UX(n:Nat):uA n (8 * n)=sH n:=by
 unfold uA sH;refine List.map_congr_left fun p hp=>?_
 have:=List.mem_range.1 hp;rw[show min 8 (8 * n - 8 * p)=8 from by omega]
theorem XE(i:Nat):MP (i / 8) (i % 8+1)=MP (i / 8) (i % 8) ||| ((reg i % 2) * 2 ^ (i % 8)):=by
 show MP (i / 8) (i % 8) ||| ((reg (8 * (i / 8)+i % 8) % 2) * 2 ^ (i % 8))=_
 rw[show 8 * (i / 8)+i % 8=i from by omega]
theorem Ed(n:Nat)(w:World):CallsIn Fence.wide n prog 219 #[] w fun e w'=>e=.returned (.func (.func 291) #[] #[])/\w=w':=callsIn_wide.2 (AO w)
theorem GR.stays(B k:Nat)(v:Value):dJ B (GR k v):=dJ.const _ _
def aan(r:Nat)(W W':World):Prop:=True
theorem fV(r:Nat)(w w':World):aan r w w':=trivial
theorem sizeU8s:(prog.info? 5).map (·.size)=some 1:=by kernel_rfl
def Ym(W1:World)(p:Addr)(v:Value)(r:Nat)(W:World):Prop:=W=if r=0 then W1.drew else W1.drew.setCell p v
theorem vP{W1 W:World}{p:Addr}{v:Value}{r:Nat}(h:Ym W1 p v r W)(hr:r<=0):W=W1.drew:=by unfold Ym at h;rwa[zj (by omega)]at h
theorem Yo{r m:Nat}(hm:m<8):IntKind.u8.wrap (((r % 2:Nat):Int) * 2 ^ min m 8)=(((r % 2) * 2 ^ m:Nat):Int):=by have h2:(r % 2) * 2 ^ m<=1 * 2 ^ m:=Nat.mul_le_mul_right _ (by omega);have h3:2 ^ m<=2 ^ 7:=Nat.pow_le_pow_right (by omega) (by omega);rw[Nat.min_eq_left (by omega),show((r % 2:Nat):Int) * 2 ^ m=(((r % 2) * 2 ^ m:Nat):Int) from by push_cast; rfl];exact IntWalk.u8_in _ (by omega)
theorem Qq{a r m:Nat}(ha:a<256)(hm:m<8):bits .or .u8 (a:Int) (((r % 2) * 2 ^ m:Nat):Int)=((a ||| (r % 2) * 2 ^ m:Nat):Int):=by refine u8_or_nat a _ ha ?_;have h2:(r % 2) * 2 ^ m<=1 * 2 ^ m:=Nat.mul_le_mul_right _ (by omega);have h3:2 ^ m<=2 ^ 7:=Nat.pow_le_pow_right (by omega) (by omega);omega
def sqV(b c g n ix old ry p m rb sh nw:Nat)(i:Nat)(v:Value)(W:World):Prop:=match i with
 | 0=>v=.slice (some ⟨g,0,none⟩) n n
 | 1=>v=.int .i64 (ix:Nat)
 | 2=>v=.int .i64 (p:Nat)
 | 3=>v=.pointer (some ⟨g,p,none⟩)
 | 4=>v=.int .u8 (old:Nat)
 | 5=>v=.int .i64 (ry:Nat)
 | 6=>v=.int .i64 (rb:Nat)
 | 7=>v=.int .u8 (rb:Nat)
 | 8=>v=.int .i64 (ix:Nat)
 | 9=>v=.int .i64 (m:Nat)
 | 10=>v=.int .u8 (sh:Nat)
 | 11=>v=.int .u8 (nw:Nat)
 | 12=>v=.pointer (some ⟨g,p,none⟩)
 | _=>True
def adO:Nat->Option Nat
 | 13=>some 0
 | _=>none
theorem U1(b c g n ix old ry p m rb sh nw:Nat)(i r:Nat)(v:Value)(W W':World)(hk:∀k,adO i=some k->k<r)(hR:(aan) r W W')(h:sqV b c g n ix old ry p m rb sh nw i v W):sqV b c g n ix old ry p m rb sh nw i v W':=by unfold sqV at h ⊢;split at h <;> first | exact h
theorem Ep(n:Nat)(hn1:1<=n)(hn:n<=100000)(w:World):
 Calls prog 133 #[.int .i64 (n:Nat)] w fun e w'=>∃g,e=.returned (.slice (some ⟨g,0,none⟩) n n)/\w.heap.size<=g/\Bx w' g 5 (bs (sH n))/\Below w.heap.size w w':=by
 refine(callsIn_wide (n:=5)).1 ?_;refine callsIn_of_wp_marks func133 rfl trivial ?_ rfl;simp only[ntmps133,List.size_toArray,List.length_cons,List.length_nil,Nat.reduceAdd,Nat.reduceSub,Array.replicate_succ,Array.replicate_zero,List.push_toArray,List.append_toArray,List.nil_append,List.cons_append];obtain⟨b,hb⟩:∃b,b=w.heap.size:=⟨_,rfl⟩;obtain⟨w1,hw1⟩:∃w1,w1=w.alloc (.cells #[.int .i64 (n:Nat)] 3):=⟨_,rfl⟩;have hA1:=(zB w.heap.size w).alloc (zl _) (.cells #[.int .i64 (n:Nat)] 3);rw[<-hw1]at hA1;have hx1:Bx w1 b 3 [.int .i64 (n:Nat)]:=by rw[hw1,hb]; exact Bx.new w _ _
 have hs1:w1.heap.size=b+1:=by rw[hw1,hb]; simp
 obtain⟨i0,hi,hz0,hz1,hz2⟩:=info_parts infoU8s;obtain⟨w2,hmk,r1,r2⟩:=run_make_full (P:=prog) (w:=w1) (b+1) 65 5 i0 _ 1 underlying65 hi hz0 hz1 .i64 .i64 n (by rw[hz2]; omega) (by unfold maxLen; omega) (by omega);have r1':=Bx.bM (vJ r1);rw[hs1]at hmk r1';have hb2:=(zB w1.heap.size w1).grown r2 (zl _) (fun k hk=>by cases hk);have hx2:=hx1.call hb2;have hA2:=hA1.trans (hb2.mono hA1.size);obtain⟨g,hg⟩:∃g,g=b+1:=⟨_,rfl⟩;rw[<-hg]at hmk r1';obtain⟨c,hc⟩:∃c,c=w2.heap.size:=⟨_,rfl⟩;have hgc:g<c:=by rw[hc]; exact r1'.lt
 obtain⟨w4,hw4⟩:∃w4,w4=(w2.alloc (.cells #[.slice (some ⟨g,0,none⟩) n n] 65)).alloc (.cells #[.int .i64 0] 3):=⟨_,rfl⟩;have hx3:Bx w4 c 65 [.slice (some ⟨g,0,none⟩) n n]:=by rw[hw4,hc]; exact(Bx.new w2 _ _).alloc _
 have hx4:Bx w4 (c+1) 3 [.int .i64 0]:=by have:=Bx.new (w2.alloc (.cells #[.slice (some ⟨g,0,none⟩) n n] 65)) 3 [.int .i64 0];rw[hw4,hc];rwa[World.size_alloc]at this
 have wH:=((zB w2.heap.size w2).alloc (zl _) (.cells #[.slice (some ⟨g,0,none⟩) n n] 65)).alloc (by simp) (.cells #[.int .i64 0] 3);rw[<-hw4]at wH;have hx5:=hx2.call wH;have rD:=r1'.call wH;rw[<-Qd]at rD;have hA5:=hA2.trans (wH.mono hA2.size);have hs4:w4.heap.size=c+1+1:=by rw[hw4,hc]; simp
 have V7:Hid ((w2.alloc (.cells #[.slice (some ⟨g,0,none⟩) n n] 65)).alloc (.cells #[.int .i64 0] 3)=w4):=zH hw4.symm;have HW1:Hid (w.alloc (.cells #[.int .i64 (n:Nat)] 3)=w1):=zH hw1.symm;have HC:=zH hc;have HB:=zH hb;have hq0:=hx1.cell (i:=0) rfl;have hbg:b<g:=by omega
 have hbw:w.heap.size<=g:=by omega
 have hbw2:w.heap.size<=c:=by omega
 have YV:=zH hx5;have IQ:=zH rD;have CP:=zH hx3;have ny:=zH hx4;have ZG:=zH hA5;have wX:=zH hs4;clear hb hx1 hx2 hA1 hA2 wH hx5 rD hx3 hx4 hA5 r1 r1' r2 hb2 hw1 hw4 hc hs1 hs4 hi hz0 hz1 hz2 hg
 gi_upto_region 1 with (fail)
 rw[HW1.out,<-HB.out]
 gi_wp2_with (refine⟨trivial,?_⟩; gi_at_call 219; refine(Ed 4 _).mono ?_; rintro e w' ⟨rfl,rfl⟩)
 rw[V7.out,<-HC.out];have hseq:=KL 4 (8 * n+1) (by omega) w4;clear hmk hq0;refine sN (n:=5) rfl (by omega) (gf:=291) (lb:=#[]) rfl trivial (enters_of func291 (by kernel_rfl) rfl) hseq rfl
  (fun k W=>((k<=8 * n)/\Bx W b 3 [.int .i64 (n:Nat)]/\Bx W g 5 (bs (uA n k))/\Bx W c 65 [.slice (some ⟨g,0,none⟩) n n]/\Bx W (c+1) 3 [.int .i64 (k:Nat)])/\Below w.heap.size w W)
  (fun cd W=>((cd=.exit 0)/\Bx W g 5 (bs (sH n))/\Bx W c 65 [.slice (some ⟨g,0,none⟩) n n])/\Below w.heap.size w W)
  (fun v=>{ tmps:=#[.int .i64 (n:Nat),.pointer (some ⟨b,0,none⟩),.slice none 0 0,.pointer (some ⟨c,0,none⟩),.pointer (some ⟨c+1,0,none⟩),v,.int .i64 (n:Nat),.slice (some ⟨g,0,none⟩) n n,.func (.func 291) #[] #[],v,undef,undef,undef,undef,undef,undef,undef,undef,undef,undef,undef,undef,undef,undef,undef,undef,undef,undef,undef,undef],defers:=[] })
  (fun k=>((dJ.const _ _).and ((je _ _ _ _).and ((je _ _ _ _).and ((je _ _ _ _).and (je _ _ _ _))))).and (pU (zl _) (by rw[wX.out]; omega)))
  (fun c=>((dJ.const _ _).and ((je _ _ _ _).and (je _ _ _ _))).and (pU (zl _) (by rw[wX.out]; omega)))
  (fun k v=>GR.stays _ _ _) ⟨⟨by omega,YV.out,IQ.out,CP.out,ny.out⟩,ZG.out⟩ (fun W h=>by have:=h.1.1; omega) ?assign ?body ?stop
 case assign=>
  intro l v W K _ hK;gi_wp2;exact hK
 case body=>
  rintro l i v W1 hk ⟨⟨hi8,x1,xr,x3,x4⟩,hbz⟩ rfl;have HBZ:=zH hbz;have HXR:=zH xr;have HX1:=zH x1;have HXC:=zH x3;have HXI:=zH x4;have c1:=x1.cell (i:=0) rfl;have c3:=x3.cell (i:=0) rfl;have c4:=x4.cell (i:=0) rfl;have hrl:=KJ i;have HKN:=zH (XE i);generalize reg i=ry at *;have hw1:IntKind.i64.wrap (8 * (n:Int))=8 * (n:Int):=IntWalk.i64_in _ (by omega);clear hbz xr x1 x3 x4 hseq YV IQ CP ny ZG;by_cases hlt:i<8 * n
  ·have hpn:i / 8<n:=by omega
   have hq:((i:Int) == 8 * (n:Int))=false:=beq_eq_false_iff_ne.2 (by omega);have hkl:=MQ (i / 8) (m:=i % 8) (by omega);have hcell:W1.cell? ⟨g,i / 8,none⟩=some (.int .u8 (MP (i / 8) (i % 8):Nat)):=by have h1:=HXR.out.cell (i:=i / 8) (jK (by rw[pR]; exact hpn));rw[Yn hlt]at h1;rw[h1];unfold B;rw[MR _ (by omega)]
   have hfree:=HXR.out.free (i / 8);have HST:Hid (Bx (W1.setCell ⟨g,i / 8,none⟩ (.int .u8 ((MP (i / 8) (i % 8) ||| (ry % 2) * 2 ^ (i % 8):Nat):Int))) g 5 (bs (uA n (i+1)))):=zH (by
    have h1:=HXR.out.set (i / 8) (B (Gq (i / 8) (i % 8+1)));rw[yx,Qc hlt]at h1;have e:B (Gq (i / 8) (i % 8+1))=.int .u8 ((MP (i / 8) (i % 8) ||| (ry % 2) * 2 ^ (i % 8):Nat):Int):=by unfold B;rw[MR _ (by omega),HKN.out]
    rwa[e]at h1)
   generalize MP (i / 8) (i % 8)=old at *;have hpe:(i:Int) / 8=((i / 8:Nat):Int):=rfl;have hme:(i:Int) % 8=((i % 8:Nat):Int):=rfl;have hre:(ry:Int) % 2=((ry % 2:Nat):Int):=rfl;have hta:(i:Int).tmod 8=((i % 8:Nat):Int):=by rw[Int.tmod_eq_emod_of_nonneg (by omega)]; rfl
   have hea:=CS (x:=ry) (by omega);have hm8:i % 8<8:=by omega
   have hr2:ry % 2<2:=by omega
   have HE3:=zH (Qq (a:=old) (r:=ry) (m:=i % 8) hkl (by omega));generalize i / 8=p at *;generalize i % 8=m at *;have HE4:=zH (Yo (r:=ry) hm8);generalize ry % 2=rb at *;have HP:=zH hpe;have HM:=zH hme;have YU:=zH hre;have HTM:=zH hta;have HEA:=zH hea;clear hta hea;have HPW:Hid (IntKind.i64.wrap (p:Int)=(p:Int)):=zH (IntWalk.i64_in _ (by omega));have HMW:Hid (IntKind.i64.wrap (m:Int)=(m:Int)):=zH (IntWalk.i64_in _ (by omega));have HRW:Hid (IntKind.u8.wrap (rb:Int)=(rb:Int)):=zH (IntWalk.u8_in _ (by omega));generalize hsh:rb * 2 ^ m=sh at *;generalize hnw:old ||| sh=nw at *
   have HNW:=HE3;have HSH:=HE4;clear hpe hme hre hm8 hr2 hsh hnw HE3 HE4;have HQ:Hid (W1.drew.cell? ⟨c,0,none⟩=some (.slice (some ⟨g,0,none⟩) n n)/\W1.drew.cell? ⟨c+1,0,none⟩=some (.int .i64 (i:Nat))/\W1.drew.cell? ⟨g,p,none⟩=some (.int .u8 (old:Nat))/\W1.drew.frozen? ⟨g,p,none⟩=false):=zH ⟨c3,c4,hcell,hfree⟩
   gi_upto_region 6 with (fail)
   refine xw (by rintro⟨_,_,h⟩; exact h) (by kernel_rfl) (by kernel_rfl) (aan) (Ym W1 ⟨g,p,none⟩ (.int .u8 (nw:Nat))) (sqV b c g n i old ry p m rb sh nw) (fun _=>false) adO 1 (by kernel_rfl) (by kernel_rfl) (.inl (by kernel_rfl)) (U1 b c g n i old ry p m rb sh nw) (rfl) ⟨?s0,?s1,?s2,?s3,?s4,?_,?s6,?s7,?s8,?s9,?s10,?s11,?s12,?s13,trivial⟩ ?_;all_goals first
    | (intro r a W hc hsz hold ah hnot hlo hhi hrk
       have o5:a.tmps.getD 5 undef=.int .i64 (ry:Nat):=hold 5 (by kernel_rfl);clear hsz hold ah hnot hlo hhi hrk;refine ai rfl (ag rfl) ?_;refine aJ (fV _ _ _) hc rfl fun K hK=>?_
       go_simp;exact hK)
    | skip
   try case s0=>
    intro r a W hc hsz hold ah hnot hlo hhi hrk;have o3:a.tmps.getD 3 undef=.pointer (some ⟨c,0,none⟩):=hold 3 (by kernel_rfl);obtain rfl:=vP hc (hhi 13 0 rfl (by kernel_rfl));have q0:=HQ.out.1;clear hsz hold ah hnot hlo hhi hrk;refine ai rfl (ag rfl) ?_;refine aJ (v:=.slice (some ⟨g,0,none⟩) n n) (fV _ _ _) hc rfl fun K hK=>?_
    go_simp;exact hK
   try case s1=>
    intro r a W hc hsz hold ah hnot hlo hhi hrk;have o4:a.tmps.getD 4 undef=.pointer (some ⟨c+1,0,none⟩):=hold 4 (by kernel_rfl);obtain rfl:=vP hc (hhi 13 0 rfl (by kernel_rfl));have q0:=HQ.out.2.1;clear hsz hold ah hnot hlo hhi hrk;refine ai rfl (ag rfl) ?_;refine aJ (v:=.int .i64 (i:Nat)) (fV _ _ _) hc rfl fun K hK=>?_
    go_simp;exact hK
   try case s2=>
    intro r a W hc hsz hold ah hnot hlo hhi hrk;have d1:=zV 15 (.int .i64 (i:Nat)) (ah 1 (by kernel_rfl) rfl _ rfl);clear hsz hold ah hnot hlo hhi hrk;refine ai rfl (ag rfl) ?_;refine aJ (v:=.int .i64 (p:Nat)) (fV _ _ _) hc rfl fun K hK=>?_
    go_simp;first
     | exact hK
     | (rw[HP.out,HPW.out]
        exact hK)
     | (rw[HP.out]
        exact hK)
   try case s3=>
    intro r a W hc hsz hold ah hnot hlo hhi hrk;have d0:=zV 14 (.slice (some ⟨g,0,none⟩) n n) (ah 0 (by kernel_rfl) rfl _ rfl);have d2:=zV 16 (.int .i64 (p:Nat)) (ah 2 (by kernel_rfl) rfl _ rfl);have q1:=fun w'=>aH underlying65 sizeU8s (a:=some ⟨g,0,none⟩) (n:=n) (cap:=n) (k:=p) (b:=g) (off:=0) rfl hpn (p:Int) rfl w'
    simp only[Nat.mul_one,Nat.zero_add]at q1;clear hsz hold ah hnot hlo hhi hrk;refine ai rfl (ag rfl) ?_;refine aJ (v:=.pointer (some ⟨g,p,none⟩)) (fV _ _ _) hc rfl fun K hK=>?_
    go_simp;exact hK
   try case s4=>
    intro r a W hc hsz hold ah hnot hlo hhi hrk;have d3:=zV 17 (.pointer (some ⟨g,p,none⟩)) (ah 3 (by kernel_rfl) rfl _ rfl);obtain rfl:=vP hc (hhi 13 0 rfl (by kernel_rfl));have q0:=HQ.out.2.2.1;clear hsz hold ah hnot hlo hhi hrk;refine ai rfl (ag rfl) ?_;refine aJ (v:=.int .u8 (old:Nat)) (fV _ _ _) hc rfl fun K hK=>?_
    go_simp;exact hK
   try case s6=>
    intro r a W hc hsz hold ah hnot hlo hhi hrk;have d5:=zV 19 (.int .i64 (ry:Nat)) (ah 5 (by kernel_rfl) rfl _ rfl);clear hsz hold ah hnot hlo hhi hrk;refine ai rfl (ag rfl) ?_;refine aJ (v:=.int .i64 (rb:Nat)) (fV _ _ _) hc rfl fun K hK=>?_
    go_simp;first
     | exact hK
     | (rw[HEA.out]
        exact hK)
     | (rw[HEA.out]
        exact hK)
   try case s7=>
    intro r a W hc hsz hold ah hnot hlo hhi hrk;have d6:=zV 20 (.int .i64 (rb:Nat)) (ah 6 (by kernel_rfl) rfl _ rfl);clear hsz hold ah hnot hlo hhi hrk;refine ai rfl (ag rfl) ?_;refine aJ (v:=.int .u8 (rb:Nat)) (fV _ _ _) hc rfl fun K hK=>?_
    go_simp;first
     | exact hK
     | (rw[HRW.out]
        exact hK)
     | (rw[HRW.out]
        exact hK)
   try case s8=>
    intro r a W hc hsz hold ah hnot hlo hhi hrk;have o4:a.tmps.getD 4 undef=.pointer (some ⟨c+1,0,none⟩):=hold 4 (by kernel_rfl);obtain rfl:=vP hc (hhi 13 0 rfl (by kernel_rfl));have q0:=HQ.out.2.1;clear hsz hold ah hnot hlo hhi hrk;refine ai rfl (ag rfl) ?_;refine aJ (v:=.int .i64 (i:Nat)) (fV _ _ _) hc rfl fun K hK=>?_
    go_simp;exact hK
   try case s9=>
    intro r a W hc hsz hold ah hnot hlo hhi hrk;have d8:=zV 22 (.int .i64 (i:Nat)) (ah 8 (by kernel_rfl) rfl _ rfl);clear hsz hold ah hnot hlo hhi hrk;refine ai rfl (ag rfl) ?_;refine aJ (v:=.int .i64 (m:Nat)) (fV _ _ _) hc rfl fun K hK=>?_
    go_simp;first
     | exact hK
     | (rw[HTM.out]
        exact hK)
     | (rw[HTM.out]
        exact hK)
   try case s10=>
    intro r a W hc hsz hold ah hnot hlo hhi hrk;have d7:=zV 21 (.int .u8 (rb:Nat)) (ah 7 (by kernel_rfl) rfl _ rfl);have d9:=zV 23 (.int .i64 (m:Nat)) (ah 9 (by kernel_rfl) rfl _ rfl);clear hsz hold ah hnot hlo hhi hrk;refine ai rfl (ag rfl) ?_;refine aJ (v:=.int .u8 (sh:Nat)) (fV _ _ _) hc rfl fun K hK=>?_
    go_simp;first
     | exact hK
     | (rw[HSH.out]
        exact hK)
     | (rw[HSH.out]
        exact hK)
   try case s11=>
    intro r a W hc hsz hold ah hnot hlo hhi hrk;have d4:=zV 18 (.int .u8 (old:Nat)) (ah 4 (by kernel_rfl) rfl _ rfl);have d10:=zV 24 (.int .u8 (sh:Nat)) (ah 10 (by kernel_rfl) rfl _ rfl);clear hsz hold ah hnot hlo hhi hrk;refine ai rfl (ag rfl) ?_;refine aJ (v:=.int .u8 (nw:Nat)) (fV _ _ _) hc rfl fun K hK=>?_
    go_simp;first
     | exact hK
     | (rw[HNW.out]
        exact hK)
     | (rw[HNW.out]
        exact hK)
   try case s12=>
    intro r a W hc hsz hold ah hnot hlo hhi hrk;have d0:=zV 14 (.slice (some ⟨g,0,none⟩) n n) (ah 0 (by kernel_rfl) rfl _ rfl);have d2:=zV 16 (.int .i64 (p:Nat)) (ah 2 (by kernel_rfl) rfl _ rfl);have q1:=fun w'=>aH underlying65 sizeU8s (a:=some ⟨g,0,none⟩) (n:=n) (cap:=n) (k:=p) (b:=g) (off:=0) rfl hpn (p:Int) rfl w'
    simp only[Nat.mul_one,Nat.zero_add]at q1;clear hsz hold ah hnot hlo hhi hrk;refine ai rfl (ag rfl) ?_;refine aJ (v:=.pointer (some ⟨g,p,none⟩)) (fV _ _ _) hc rfl fun K hK=>?_
    go_simp;exact hK
   try case s13=>
    intro r a W hc hsz hold ah hnot hlo hhi hrk;have hr:=hrk 0 rfl;subst hr;have d12:=zV 26 (.pointer (some ⟨g,p,none⟩)) (ah 12 (by kernel_rfl) rfl _ rfl);have d11:=zV 25 (.int .u8 (nw:Nat)) (ah 11 (by kernel_rfl) rfl _ rfl);clear hsz hold ah hnot hlo hhi hrk;refine ai rfl (ag rfl) ?_;refine jw (v:=undef) (w':=W.setCell ⟨g,p,none⟩ (.int .u8 (nw:Nat))) (fV _ _ _) (show Ym _ _ _ 1 _ from ?_) trivial fun K hK=>?_
    ·obtain rfl:=vP hc (zl _);rfl
    ·obtain rfl:=vP hc (zl _);have q0:=HQ.out.2.2.1;have q1:=HQ.out.2.2.2;go_simp;exact hK
   ·intro a W hC hd hsz hold hval;obtain⟨G,hG,ha⟩:=cO [14,15,16,17,18,19,20,21,22,23,24,25,26] (by kernel_rfl) hd hsz hold;rw[ha];clear ha hG hd hsz hold;simp only[bI,List.setIfInBounds_toArray,List.set];obtain rfl:W=W1.drew.setCell ⟨g,p,none⟩ (.int .u8 (nw:Nat)):=hC;have hdr:=(zB W1.heap.size W1).drew;have hsz:w.heap.size<=W1.heap.size:=HBZ.out.size;have y1:=(HX1.out.call hdr).far (p:=⟨g,p,none⟩) (by simp only; omega) (.int .u8 (nw:Nat));have y3:=(HXC.out.call hdr).far (p:=⟨g,p,none⟩) (by simp only; omega) (.int .u8 (nw:Nat));have y4:=(HXI.out.call hdr).far (p:=⟨g,p,none⟩) (by simp only; omega) (.int .u8 (nw:Nat));have yr:Bx (W1.drew.setCell ⟨g,p,none⟩ (.int .u8 (nw:Nat))) g 5 (bs (uA n (i+1))):=HST.out;have yb:=(HBZ.out.drew).setCell (p:=⟨g,p,none⟩) (by simp only; omega) (.int .u8 (nw:Nat));have yk:KeepsFrom w4.heap.size W1 (W1.drew.setCell ⟨g,p,none⟩ (.int .u8 (nw:Nat))):=(Gt hdr).trans (TU _ _ _ _);clear hval;generalize W1.drew.setCell ⟨g,p,none⟩ (.int .u8 (nw:Nat))=W2 at *;have c4:=y4.cell (i:=0) rfl;have f4:=y4.free 0;have hwi:IntKind.i64.wrap ((i:Int)+1)=(i:Int)+1:=IntWalk.i64_in _ (by omega);have Y1:=zH (y1.far (p:=⟨c+1,0,none⟩) (by simp only; omega) (.int .i64 ((i:Int)+1)));have Y3:=zH (y3.far (p:=⟨c+1,0,none⟩) (by simp only; omega) (.int .i64 ((i:Int)+1)));have YR:=zH (yr.far (p:=⟨c+1,0,none⟩) (by simp only; omega) (.int .i64 ((i:Int)+1)));have Y4:=zH (y4.set 0 (.int .i64 ((i:Int)+1)));have YB:=zH (yb.setCell (p:=⟨c+1,0,none⟩) (by simp only; omega) (.int .i64 ((i:Int)+1)));have YK:=zH (yk.trans (TU w4.heap.size W2 ⟨c+1,0,none⟩ (.int .i64 ((i:Int)+1))));clear y1 y3 y4 yr yb yk;gi_wp2;exact⟨YK.out,⟨by omega,Y1.out,YR.out,Y3.out,Y4.out⟩,YB.out⟩
  ·obtain rfl:i=8 * n:=by omega
   have hq:(((8 * n:Nat):Int) == 8 * (n:Int))=true:=beq_iff_eq.2 (by omega);have hq2:((8 * n:Nat):Int)=8 * (n:Int):=by omega
   have hxr:=HXR.out;rw[UX]at hxr;have aeQ:=zH hxr;clear hxr;gi_wp2;exact⟨KeepsFrom.refl _ _,⟨rfl,aeQ.out,HXC.out⟩,HBZ.out⟩
 case stop=>
  rintro D cd W hD ⟨⟨rfl,hx,hx3⟩,hb⟩ hK;have c3:=hx3.cell (i:=0) rfl;have HX:=zH hx;have NU:=zH hb;have HK:=zH hK;have hs4:=wX.out;clear hx hb hK hseq;gi_wp2;refine⟨by simp,.inl ⟨_,_,rfl,run_takeDeferred HK.out,?_⟩⟩;refine⟨.slice (some ⟨g,0,none⟩) n n,by simp[results,results133,go_sem],g,rfl,hbw,(je (w.heap.size+1+1) _ _ _).putObj (.deferred none) HX.out (by omega) HK.out rfl,NU.out.trans (belowK_b (w:=w) (zl _) _ D _ _ (by omega) HK.out rfl rfl)⟩
end T7
end Go.Proofs.YtfnehkmhcmkhjaaGreat
