/- Parts:XGc -/
import Derived.Test.YtfnehkmhcmkhjaaGreatDvAl
import Derived.Test.YtfnehkmhcmkhjaaGreatDv21
import Derived.Laws.IdiomRangeMap
set_option maxRecDepth 100000
set_option maxHeartbeats 8000000
set_option linter.unusedVariables false
namespace Go.Proofs.YtfnehkmhcmkhjaaGreat
open Tryz
namespace oH
open Go.RowKit Go.Maps C9
open W8 (is)
def xx(raw:List UInt8)(ch:Nat->UInt8)(left:Lit->Bool):List UInt8:=(List.range 2352).map fun k=>if left (.int .i64 (k:Nat))=true then jF raw k else jF raw k ^^^ ch k
def Ac(raw:List UInt8)(ch:Nat->UInt8):List UInt8:=(List.range 2352).map fun k=>jF raw k ^^^ ch k
def xy(b:List UInt8)(G:List Int):List UInt8:=(List.range 2352).map fun k=>if ((k:Nat):Int) ∈ G then 0 else jF b k
theorem Ad(raw:List UInt8)(ch:Nat->UInt8)(left:Lit->Bool):(xx raw ch left).length=2352:=by simp[xx]
theorem Ip(raw:List UInt8)(ch:Nat->UInt8):(Ac raw ch).length=2352:=by simp[Ac]
theorem mZ(b:List UInt8)(G:List Int):(xy b G).length=2352:=by simp[xy]
theorem JR{f:Nat->UInt8}{k:Nat}(h:k<2352):G.ix ((List.range 2352).map f) k=f k:=by unfold G.ix;rw[List.getD_eq_getElem?_getD,List.getElem?_map,List.getElem?_range h];rfl
theorem map_set{f g:Nat->UInt8}{k:Nat}{c:UInt8}(hk:g k=c)(ho:∀j,j≠k->g j=f j):((List.range 2352).map f).set k c=(List.range 2352).map g:=by
 apply List.ext_getElem?;intro j;rw[List.getElem?_set];by_cases e:k=j
 ·subst e;rw[zj rfl];by_cases hj:k<2352
  ·simp[hj,hk]
  ·simp[hj]
 ·rw[zi e,List.getElem?_map,List.getElem?_map];by_cases hj:j<2352
  ·rw[List.getElem?_range hj,Option.map_some,Option.map_some,ho j (fun h=>e h.symm)]
  ·rw[List.getElem?_eq_none (by simpa using hj)]; rfl
theorem YL{raw:List UInt8}{ch:Nat->UInt8}{left:Lit->Bool}{k:Nat}(hk:k<2352)(h:left (.int .i64 (k:Nat))=true):G.ix (xx raw ch left) k=jF raw k:=by unfold xx;rw[JR hk,zj h]
theorem QB{raw:List UInt8}{ch:Nat->UInt8}{left:Lit->Bool}{k:Nat}(h:left (.int .i64 (k:Nat))=true):(xx raw ch left).set k (jF raw k ^^^ ch k)=xx raw ch (fun z=>left z && !z.sameKey (.int .i64 (k:Nat))):=by
 unfold xx;refine map_set ?_ fun j hj=>?_
 ·simp[Lit.sameKey]
 ·have:¬ ((j:Nat):Int)=(k:Nat):=by omega
  simp[Lit.sameKey,this]
theorem Vx{raw:List UInt8}{ch:Nat->UInt8}{left:Lit->Bool}(h:∀kl,left kl=false):xx raw ch left=Ac raw ch:=by unfold xx Ac;exact List.map_congr_left fun k _=>by rw[h,zi (by decide)]
theorem Lr{raw:List UInt8}{ch:Nat->UInt8}{D:DataW Unit}(hr:raw.length=2352)(hf:∀k:Nat,k<2352->D.atKey (.int .i64 k) (.lit (.int .u8 0))=.lit (.int .u8 (ch k).toNat)):raw=xx raw ch (Maps.has D):=by
 unfold xx;apply List.ext_getElem?;intro k;by_cases hk:k<2352
 ·rw[List.getElem?_map,List.getElem?_range hk,Option.map_some,List.getElem?_eq_getElem (by omega)];have e:jF raw k=raw[k]'(by omega):=by unfold jF bF; rw[List.getElem?_eq_getElem (by omega)]; rfl
  cases hh:Maps.has D (.int .i64 (k:Nat)) with
  | true=>rw[zj rfl,e]
  | false=>
    have h1:=hf k hk;rw[Maps.atKey_of_not_has hh]at h1;have h2:(ch k).toNat=0:=by simp at h1; omega
    have h3:ch k=0:=UInt8.toNat_inj.1 h2;rw[zi (by decide),h3,e];simp
 ·rw[List.getElem?_eq_none (by omega),List.getElem?_eq_none (by simpa using hk)]
theorem Cm{b:List UInt8}{G:List Int}{x:Nat}:(xy b G).set x 0=xy b (G++[(x:Int)]):=by
 unfold xy;refine map_set ?_ fun j hj=>?_
 ·simp
 ·have:¬ ((j:Nat):Int)=(x:Nat):=by omega
  simp[this]
theorem Ae{b:List UInt8}(h:b.length=2352):b=xy b []:=by
 unfold xy;apply List.ext_getElem?;intro k;by_cases hk:k<2352
 ·rw[List.getElem?_map,List.getElem?_range hk,Option.map_some,List.getElem?_eq_getElem (by omega)];simp[jF,bF,show k<b.length by omega]
 ·rw[List.getElem?_eq_none (by omega),List.getElem?_eq_none (by simpa using hk)]
theorem Iq(M:aP)(i:Nat):xy (Ac (M.sec i).raw (M.sec i).ch) (M.gone i)=M.out i:=by
 unfold xy aP.out;refine List.map_congr_left fun k hk=>?_
 have hk':=List.mem_range.1 hk;have e:jF (Ac (M.sec i).raw (M.sec i).ch) k=jF (M.sec i).raw k ^^^ (M.sec i).ch k:=by have:=JR (f:=fun k=>jF (M.sec i).raw k ^^^ (M.sec i).ch k) hk';exact this
 rw[e];by_cases h:M.rq i k=true
 ·rw[zj h,zj ((pI M i _).2 ⟨k,hk',h,rfl⟩)]
 ·rw[zi h,zi fun h2=>by
  obtain⟨j,_,h3,h4⟩:=(pI M i _).1 h2;have:k=j:=by omega
  exact h (this ▸ h3)]
def oM(R:List UInt8×List Int×Int)(w:World)(e:Ending)(w':World):Prop:=∃v,e=.returned (.tuple #[.string (str R.1),v,.int .i64 R.2.2])/\w'.ownsRow w.heap.size 3 1 v R.2.1.length (is R.2.1)/\Below w.heap.size w w'
theorem oM.bad(c:Int){w w':World}{e:Ending}(he:e=.returned (.tuple #[.string (str []),.slice none 0 0,.int .i64 c]))(hb:Below w.heap.size w w'):oM ([],[],c) w e w':=⟨_,he,⟨rfl,.inl ⟨rfl,rfl⟩⟩,hb⟩
theorem Eb{w:World}{g:Nat}{M:aP}{X R:Nat->Prop}{N:Nat}(h:gZ w g M X R)(ho:M.Ok N)(a:Int)(hr:¬ (0<=a/\a<(M.n:Int))):
 Calls prog 50 #[.pointer (some ⟨g,0,none⟩),.int .i64 a] w (oM ([],[],2) w):=by
 obtain⟨L,hc⟩:=h;have HH:=zH (nY hc ho.n.2 a);rw[zf hr]at HH;clear hc ho hr;go_enter func50,ntmps50;go_wp2_with fail;refine HH.out.mono ?_;rintro e w' ⟨rfl,rfl⟩;go_wp2_with fail
 go_ret3
 exact .bad 2 rfl (zB _ _)
theorem KE{w:World}{g:Nat}{M:aP}{X R:Nat->Prop}{N:Nat}(h:gZ w g M X R)(ho:M.Ok N){k:Nat}(hk:k<M.n)(h1:(M.sec k).st≠1):
 Calls prog 50 #[.pointer (some ⟨g,0,none⟩),.int .i64 (k:Nat)] w (oM ([],[],if (M.sec k).st=0 then 8 else 9) w):=by
 obtain⟨L,hc⟩:=h;have HH:=zH (nY hc ho.n.2 (k:Int));rw[zt (show 0<=(k:Int)/\(k:Int)<(M.n:Int) by omega)]at HH;obtain⟨c0,c1,c2,c3,c4⟩:=hc.cells;rw[hc.n]at c2;have nz:k<L.S.length:=by rw[hc.n]; exact hk
 have hst3:=(ho.sec k hk).st;have s0:=hc.gJ nz (j:=0) (by decide);have s1:=hc.gJ nz (j:=1) (by decide);have s2:=hc.gJ nz (j:=2) (by decide);have s3:=hc.gJ nz (j:=3) (by decide);have s4:=hc.gJ nz (j:=4) (by decide);simp only[rH,List.getElem?_cons_zero,List.getElem?_cons_succ,hc.at_,Nat.add_zero]at s0 s1 s2 s3 s4;generalize (bF jS L.S k).e=mE at *;generalize (bF jS L.S k).c=mC at *;generalize str (M.sec k).raw=xq at *;clear hc ho c0 c1 c3 c4;generalize M.n=n at *;by_cases h0:(M.sec k).st=0
 ·rw[zj h0];have q0:(((M.sec k).st:Int) == 0)=true:=by rw[h0]; rfl
  clear h0;go_enter func50,ntmps50;go_wp2_with fail;refine HH.out.mono ?_;rintro e w' ⟨rfl,rfl⟩;go_wp2_with fail
  go_ret3
  exact .bad 8 rfl ((zB _ _).alloc (zl _) _)
 ·rw[zi h0];have q0:(((M.sec k).st:Int) == 0)=false:=by rw[beq_eq_false_iff_ne]; omega
  by_cases h2:(M.sec k).st=2
  ·have q2:(((M.sec k).st:Int) == 2)=true:=by rw[h2]; rfl
   clear h0 h2;go_enter func50,ntmps50;go_wp2_with fail;refine HH.out.mono ?_;rintro e w' ⟨rfl,rfl⟩;go_wp2_with fail
   go_ret3
   exact .bad 9 rfl ((zB _ _).alloc (zl _) _)
  ·have q2:(((M.sec k).st:Int) == 2)=false:=by rw[beq_eq_false_iff_ne]; omega
   have q3:(((M.sec k).st:Int) == 3)=true:=by rw[beq_iff_eq]; omega
   clear h0 h2;go_enter func50,ntmps50;go_wp2_with fail;refine HH.out.mono ?_;rintro e w' ⟨rfl,rfl⟩;go_wp2_with fail
   go_ret3
   exact .bad 9 rfl ((zB _ _).alloc (zl _) _)
theorem QA{raw:List UInt8}{ch:Nat->UInt8}(hr:raw.length=2352)(h:∀k,ch k=0):Ac raw ch=raw:=by
 have e:=Ae hr
 conv=>rhs; rw[e]
 unfold Ac xy;exact List.map_congr_left fun k _=>by rw[h]; simp
theorem sizeU8:(prog.info? 5).map (·.size)=some 1:=by kernel_rfl
theorem KG{w:World}{g:Nat}{L:Lay}{M:aP}{X R:Nat->Prop}{N:Nat}(h:fE w g L M X R)(ho:M.Ok N){k:Nat}(hk:k<M.n)(h1:(M.sec k).st=1)(hch:(bF jS L.S k).c=none):
 Calls prog 50 #[.pointer (some ⟨g,0,none⟩),.int .i64 (k:Nat)] w (oM (M.out k,M.gone k,0) w):=by
 have hc:=h;have HM:Hid (gZ w g M X R):=zH ⟨L,h⟩;clear h;have HH:=zH (nY hc ho.n.2 (k:Int));rw[zt (show 0<=(k:Int)/\(k:Int)<(M.n:Int) by omega)]at HH;obtain⟨c0,c1,c2,c3,c4⟩:=hc.cells;rw[hc.n]at c2;have nz:k<L.S.length:=by rw[hc.n]; exact hk
 have hst3:=(ho.sec k hk).st;have s0:=hc.gJ nz (j:=0) (by decide);have s1:=hc.gJ nz (j:=1) (by decide);have s2:=hc.gJ nz (j:=2) (by decide);have s3:=hc.gJ nz (j:=3) (by decide);have s4:=hc.gJ nz (j:=4) (by decide);simp only[rH,List.getElem?_cons_zero,List.getElem?_cons_succ,hc.at_,Nat.add_zero]at s0 s1 s2 s3 s4;have hcm:QD w (bF jS L.S k).c (M.sec k).ch:=by have:=hc.maps k false nz;unfold SM.W at this;rwa[zi (by decide),hc.at_]at this
 have hrl:=(ho.sec k hk).one h1;rw[hch]at s4 hcm;have HO:=zH ho;have q0:(((M.sec k).st:Int) == 0)=false:=by rw[h1]; rfl
 have q2:(((M.sec k).st:Int) == 2)=false:=by rw[h1]; rfl
 have q3:(((M.sec k).st:Int) == 3)=false:=by rw[h1]; rfl
 generalize (bF jS L.S k).e=mE at *;obtain⟨xq,EI⟩:∃s,s=str (M.sec k).raw:=⟨_,rfl⟩;have hsz:xq.size=2352:=by rw[EI,ax,hrl]
 have hsd:xq.data.toList=(M.sec k).raw:=by rw[EI]; rfl
 rw[<-EI]at s2;have QJ:=zH hsz;have QI:=zH hsd;have HRL:=zH hrl;have HCM:=zH hcm;clear hc ho c0 c1 c3 c4 h1 EI hsz hsd hrl hcm hch hst3;obtain⟨n,Zf⟩:∃n,n=M.n:=⟨_,rfl⟩;rw[<-Zf]at c2;have hkn:k<n:=by omega
 have A8:=zH Zf;clear Zf;go_enter func50,ntmps50;go_wp2_with fail;refine HH.out.mono ?_;rintro e w' ⟨rfl,rfl⟩;go_upto_region 11 with (refine jh rfl _ rfl underlying9 underlying65 underlying5 rfl ?_; intro w1 cap hr1 hb1 hcap1)
 rw[QJ.out];rw[QI.out]at hr1;have hA:=(zB w.heap.size w).alloc (zl _) (.cells #[.int .i64 (M.sec k).st,.int .i64 (M.sec k).cnt,.string xq,.map mE,.map none] 175);have hsb:=(Bx.new w 175 [.int .i64 (M.sec k).st,.int .i64 (M.sec k).cnt,.string xq,.map mE,.map none]).call hb1;have d4:=hsb.cell (i:=4) rfl;have hbw:=hA.trans (hb1.mono hA.size);have Tt:(w.alloc (.cells #[.int .i64 (M.sec k).st,.int .i64 (M.sec k).cnt,.string xq,.map mE,.map none] 175)).heap.size=w.heap.size+1:=by simp
 rw[Tt]at hr1;obtain⟨g1,hg1⟩:∃g1,g1=w.heap.size+1:=⟨_,rfl⟩;rw[<-hg1]at hr1 ⊢;have HG1:Hid (w.heap.size<=g1):=zH (by omega);have HR1:=zH hr1;have HB1:=zH hbw;have HCAP:=zH hcap1;clear hA hb1 hsb hbw Tt hr1 hg1 hcap1 c2 s0 s1 s2 s3 s4 HH;have hrg:=run_range_nilMap (P:=prog) w1 173 3 5 underlying173;have hnx:∀ty,(Instr.next (.pointer (some ⟨w1.heap.size,0,none⟩)) false ty).run prog (w1.alloc (.mapIter none 0 #[] 0))=_:=fun ty=>run_next_nilMap _ ty 0 0 #[]
 go_wp2_with fail;refine wp_loop_rounds 1 ?_;rw[rounds_succ];have hA:=(zB w1.heap.size w1).alloc (zl _) (.mapIter none 0 #[] 0);have hxa:Ac (M.sec k).raw (M.sec k).ch=(M.sec k).raw:=QA HRL.out HCM.out;have HB2:=zH (HB1.out.trans (hA.mono HB1.out.size));have hr2:=HR1.out.below hA;rw[<-hxa]at hr2;have HR2:=zH hr2;clear hr2 hxa hA;go_upto_region 15 with (fail)
 clear hrg hnx;generalize w1.alloc (.mapIter none 0 #[] 0)=w2 at *;go_wp2_with fail;refine((mD (HM.out.below HB2.out) HO.out hk).mono ?_);rintro e w3 ⟨v3,rfl,ho3,hb3⟩;have HB3:=zH (HB2.out.trans (hb3.mono HB2.out.size));have HR3:=zH (HR2.out.below hb3);obtain⟨a3,c3,hv3⟩:=bu ho3;subst hv3;have EP:=zH ho3;have HGb:=zH (xG M k);have hgl:(M.gone k).length<=2352:=by unfold aP.gone;rw[List.length_map];exact zT (List.length_filter_le _ _) (by simp)
 have HG2:Hid (g1<w2.heap.size):=zH HR2.out.lt;clear ho3 hb3;go_wp2_with fail;have hst:=HR3.out;rw[Ae (Ip (M.sec k).raw (M.sec k).ch)]at hst
 go_loopw [55] (fun vk wr=>∃j:Nat,j<=(M.gone k).length/\vk=.int .i64 j/\Row wr 5 g1 cap (xy (Ac (M.sec k).raw (M.sec k).ch) ((M.gone k).take j))/\wr.ownsRow w2.heap.size 3 1 (.slice a3 (M.gone k).length c3) (M.gone k).length (is (M.gone k))/\Below w.heap.size w wr) (fun vk _=>(M.gone k).length - (RowKit.intOf vk).toNat)
 case atStart=>exact⟨0,by omega,rfl,hst,EP.out,HB3.out⟩
 case round=>
  clear hst;obtain⟨j,hj,rfl,hrw,hro,hbb⟩:=hrel;by_cases hlt:j<(M.gone k).length
  ·obtain⟨ga,ca,hva,aaY,aaZ⟩:=qF hro (by omega);simp only[Value.slice.injEq]at hva;obtain⟨hva,aa4,aa5⟩:=hva;clear aa4 aa5;have hcl:wr.cell? ⟨ga,j,none⟩=some (.int .i64 (dm (M.gone k) j)):=by have h1:=hro;rw[hva]at h1;have:=h1.cells (g:=ga) rfl j _ (W8.vz hlt);rwa[Addr.add_lit,Nat.zero_add]at this
   have hix:=fun w'=>aH underlying31 sizeInt9 (cap:=c3) (n:=(M.gone k).length) (k:=j) (b:=ga) (off:=0) hva hlt _ rfl w'
   simp only[Nat.mul_one,Nat.zero_add]at hix;have hxb:=HGb.out _ (W8.iZ hlt);have HTK:Hid ((M.gone k).take (j+1)=(M.gone k).take j++[dm (M.gone k) j]):=zH (by rw[List.take_succ_eq_append_getElem hlt,<-W8.nK hlt]);generalize hxe:dm (M.gone k) j=x at *;clear hxe;obtain⟨y,rfl⟩:∃y:Nat,x=y:=⟨x.toNat,by omega⟩;have hy:y<2352:=by omega
   have hix2:=fun w'=>aH underlying65 sizeU8 (cap:=cap) (n:=2352) (k:=y) (b:=g1) (off:=0) rfl hy _ rfl w'
   simp only[Nat.mul_one,Nat.zero_add]at hix2;have hcy:=hrw.cell y (by rw[mZ]; exact hy);have hfy:=hrw.frozen y (by have:=hrw.le; rw[mZ]at this; omega);have hset:=hrw.store y 0 (by rw[mZ]; exact hy);rw[Cm,<-HTK.out]at hset;have Q4:=zH (show Row (wr.setCell ⟨g1,y,none⟩ (.int .u8 0)) _ _ _ _ from hset);have HRO:=zH (kW hro (p:=⟨g1,y,none⟩) HG2.out (.int .u8 0));have NU:=zH (hbb.setCell (p:=⟨g1,y,none⟩) HG1.out (.int .u8 0));clear hset hrw hro hbb hxb HTK aaY aaZ hva;generalize hold:B (G.ix _ y)=old at hcy;clear hold;go_wp2_with fail;go_roundw;case rel=>exact⟨j+1,by omega,by go_num,Q4.out,HRO.out,NU.out⟩
   case measure=>simp[RowKit.intOf]; omega
  ·obtain rfl:j=(M.gone k).length:=by omega
   rw[List.take_length,Iq]at hrw;have hl:(M.out k).length=2352:=nP M k;have hrd:=hrw.rd (by omega);rw[hl]at hrd;have hcx:=dV (P:=prog) underlying65 underlying5 underlying9 hrd;have EO:Hid (oM (M.out k,M.gone k,0) w (.returned (.tuple #[.string (str (M.out k)),.slice a3 (M.gone k).length c3,.int .i64 0])) wr):=zH ⟨_,rfl,jb hro HB2.out.size,hbb⟩;clear hrw hro hrd hbb;go_wp2_with fail
   go_ret3
   exact EO.out
theorem KF{w:World}{g:Nat}{L:Lay}{M:aP}{X R:Nat->Prop}{N:Nat}(h:fE w g L M X R)(ho:M.Ok N){k:Nat}(hk:k<M.n)(h1:(M.sec k).st=1){b:Nat}(hch:(bF jS L.S k).c=some b):
 Calls prog 50 #[.pointer (some ⟨g,0,none⟩),.int .i64 (k:Nat)] w (oM (M.out k,M.gone k,0) w):=by
 have hc:=h;have HM:Hid (gZ w g M X R):=zH ⟨L,h⟩;clear h;have HH:=zH (nY hc ho.n.2 (k:Int));rw[zt (show 0<=(k:Int)/\(k:Int)<(M.n:Int) by omega)]at HH;obtain⟨c0,c1,c2,c3,c4⟩:=hc.cells;rw[hc.n]at c2;have nz:k<L.S.length:=by rw[hc.n]; exact hk
 have hst3:=(ho.sec k hk).st;have s0:=hc.gJ nz (j:=0) (by decide);have s1:=hc.gJ nz (j:=1) (by decide);have s2:=hc.gJ nz (j:=2) (by decide);have s3:=hc.gJ nz (j:=3) (by decide);have s4:=hc.gJ nz (j:=4) (by decide);simp only[rH,List.getElem?_cons_zero,List.getElem?_cons_succ,hc.at_,Nat.add_zero]at s0 s1 s2 s3 s4;have hcm:QD w (bF jS L.S k).c (M.sec k).ch:=by have:=hc.maps k false nz;unfold SM.W at this;rwa[zi (by decide),hc.at_]at this
 have hrl:=(ho.sec k hk).one h1;rw[hch]at s4 hcm;have HO:=zH ho;have q0:(((M.sec k).st:Int) == 0)=false:=by rw[h1]; rfl
 have q2:(((M.sec k).st:Int) == 2)=false:=by rw[h1]; rfl
 have q3:(((M.sec k).st:Int) == 3)=false:=by rw[h1]; rfl
 generalize (bF jS L.S k).e=mE at *;obtain⟨xq,EI⟩:∃s,s=str (M.sec k).raw:=⟨_,rfl⟩;have hsz:xq.size=2352:=by rw[EI,ax,hrl]
 have hsd:xq.data.toList=(M.sec k).raw:=by rw[EI]; rfl
 rw[<-EI]at s2;have QJ:=zH hsz;have QI:=zH hsd;have HRL:=zH hrl;have HCM:=zH hcm;clear hc ho c0 c1 c3 c4 h1 EI hsz hsd hrl hcm hch hst3;obtain⟨n,Zf⟩:∃n,n=M.n:=⟨_,rfl⟩;rw[<-Zf]at c2;have hkn:k<n:=by omega
 have A8:=zH Zf;clear Zf;go_enter func50,ntmps50;go_wp2_with fail;refine HH.out.mono ?_;rintro e w' ⟨rfl,rfl⟩;go_upto_region 11 with (refine jh rfl _ rfl underlying9 underlying65 underlying5 rfl ?_; intro w1 cap hr1 hb1 hcap1)
 rw[QJ.out];rw[QI.out]at hr1;have hA:=(zB w.heap.size w).alloc (zl _) (.cells #[.int .i64 (M.sec k).st,.int .i64 (M.sec k).cnt,.string xq,.map mE,.map (some b)] 175);have hsb:=(Bx.new w 175 [.int .i64 (M.sec k).st,.int .i64 (M.sec k).cnt,.string xq,.map mE,.map (some b)]).call hb1;have d4:=hsb.cell (i:=4) rfl;have hbw:=hA.trans (hb1.mono hA.size);have Tt:(w.alloc (.cells #[.int .i64 (M.sec k).st,.int .i64 (M.sec k).cnt,.string xq,.map mE,.map (some b)] 175)).heap.size=w.heap.size+1:=by simp
 rw[Tt]at hr1;obtain⟨g1,hg1⟩:∃g1,g1=w.heap.size+1:=⟨_,rfl⟩;rw[<-hg1]at hr1 ⊢;have HG1:Hid (w.heap.size<=g1):=zH (by omega);have HR1:=zH hr1;have HB1:=zH hbw;have HCAP:=zH hcap1;clear hA hb1 hsb hbw Tt hr1 hg1 hcap1 c2 s0 s1 s2 s3 s4 HH;obtain⟨D,hown,hbd,hat⟩:=HCM.out.kept (w':=w1) fun c hc=>HB1.out.block c (by
  obtain rfl:=zs hc;obtain⟨es,clock,hb⟩:=HCM.out.map;exact(Array.getElem?_eq_some_iff.1 hb).1)
 have HBD:=zH hbd;have HAT:=zH hat;clear hbd hat;go_wp2_with (first
  | (at_range; refine wpList_range_own _ rfl _ 173 rfl 3 5 sD underlying173 _ b 2352 D rfl hown ?_; intro w0 hrg0 hg0 hs0)
  | fail)
 go_frame
 have hb0:Below w1.heap.size w1 w0:=(zB _ _).grown hg0 (zl _) (fun k hk=>by cases hk);have HB0:=zH (HB1.out.trans (hb0.mono HB1.out.size));have hr0:=HR1.out.below hb0;rw[Lr HRL.out HAT.out]at hr0;have HR0:=zH hr0;have V5:=zH hrg0;have ael:Hid (g1<w1.heap.size):=zH HR1.out.lt;have VV:Hid (b<w.heap.size):=zH (by
  obtain⟨es,clock,hb⟩:=HCM.out.map;exact(Array.getElem?_eq_some_iff.1 hb).1)
 clear hb0 hown hg0 hrg0 hs0 hr0 d4;obtain⟨r,hr⟩:∃r,r=w1.heap.size:=⟨_,rfl⟩;have HRE:=zH hr;rw[<-hr]at V5 ⊢;clear hr
 go_loopw [9] (fun _ wr=>∃(left:Lit->Bool)(cnt:Nat),wr.ranges prog 3 (plainElem prog 5) b r 2352 D left cnt/\Row wr 5 g1 cap (xx (M.sec k).raw (M.sec k).ch left)/\Below w.heap.size w wr) (fun _ wr=>wr.rangeLeft b r)
 case atStart=>exact⟨_,_,V5.out,HR0.out,HB0.out⟩
 case round=>
  obtain⟨left,cnt,hrg,hrw,hb⟩:=hrel;have HRW:=zH hrw;have HB:=zH hb;clear hrw hb V5 HR0 HB0;obtain⟨w2,rfl⟩:∃w2:World,w2=wr:=⟨_,rfl⟩;go_wp2_with (first
   | (at_next; refine wpList_next_ranges_ii _ rfl _ rfl 3 5 .i64 .u8 sD underlying3 underlying5 b r 2352 _ _ _ rfl hrg ?_ ?_)
   | fail)
  ·intro _ hl0;have HB2:=HB;have hr2:=HRW.out;rw[Vx hl0]at hr2;have HR2:=zH hr2;clear hr2 hrg hl0;go_wp2_with fail;refine((mD (HM.out.below HB2.out) HO.out hk).mono ?_);rintro e w3 ⟨v3,rfl,ho3,hb3⟩;have HB3:=zH (HB2.out.trans (hb3.mono HB2.out.size));have HR3:=zH (HR2.out.below hb3);obtain⟨a3,c3,hv3⟩:=bu ho3;subst hv3;have EP:=zH ho3;have HGb:=zH (xG M k);have hgl:(M.gone k).length<=2352:=by unfold aP.gone;rw[List.length_map];exact zT (List.length_filter_le _ _) (by simp)
   have HG2:Hid (g1<w2.heap.size):=zH HR2.out.lt;clear ho3 hb3;go_wp2_with fail;have hst:=HR3.out;rw[Ae (Ip (M.sec k).raw (M.sec k).ch)]at hst
   go_loopw [55] (fun vk wr=>∃j:Nat,j<=(M.gone k).length/\vk=.int .i64 j/\Row wr 5 g1 cap (xy (Ac (M.sec k).raw (M.sec k).ch) ((M.gone k).take j))/\wr.ownsRow w2.heap.size 3 1 (.slice a3 (M.gone k).length c3) (M.gone k).length (is (M.gone k))/\Below w.heap.size w wr) (fun vk _=>(M.gone k).length - (RowKit.intOf vk).toNat)
   case atStart=>exact⟨0,by omega,rfl,hst,EP.out,HB3.out⟩
   case round=>
    clear hst;obtain⟨j,hj,rfl,hrw,hro,hbb⟩:=hrel;by_cases hlt:j<(M.gone k).length
    ·obtain⟨ga,ca,hva,aaY,aaZ⟩:=qF hro (by omega);simp only[Value.slice.injEq]at hva;obtain⟨hva,aa4,aa5⟩:=hva;clear aa4 aa5;have hcl:wr.cell? ⟨ga,j,none⟩=some (.int .i64 (dm (M.gone k) j)):=by have h1:=hro;rw[hva]at h1;have:=h1.cells (g:=ga) rfl j _ (W8.vz hlt);rwa[Addr.add_lit,Nat.zero_add]at this
     have hix:=fun w'=>aH underlying31 sizeInt9 (cap:=c3) (n:=(M.gone k).length) (k:=j) (b:=ga) (off:=0) hva hlt _ rfl w'
     simp only[Nat.mul_one,Nat.zero_add]at hix;have hxb:=HGb.out _ (W8.iZ hlt);have HTK:Hid ((M.gone k).take (j+1)=(M.gone k).take j++[dm (M.gone k) j]):=zH (by rw[List.take_succ_eq_append_getElem hlt,<-W8.nK hlt]);generalize hxe:dm (M.gone k) j=x at *;clear hxe;obtain⟨y,rfl⟩:∃y:Nat,x=y:=⟨x.toNat,by omega⟩;have hy:y<2352:=by omega
     have hix2:=fun w'=>aH underlying65 sizeU8 (cap:=cap) (n:=2352) (k:=y) (b:=g1) (off:=0) rfl hy _ rfl w'
     simp only[Nat.mul_one,Nat.zero_add]at hix2;have hcy:=hrw.cell y (by rw[mZ]; exact hy);have hfy:=hrw.frozen y (by have:=hrw.le; rw[mZ]at this; omega);have hset:=hrw.store y 0 (by rw[mZ]; exact hy);rw[Cm,<-HTK.out]at hset;have Q4:=zH (show Row (wr.setCell ⟨g1,y,none⟩ (.int .u8 0)) _ _ _ _ from hset);have HRO:=zH (kW hro (p:=⟨g1,y,none⟩) HG2.out (.int .u8 0));have NU:=zH (hbb.setCell (p:=⟨g1,y,none⟩) HG1.out (.int .u8 0));clear hset hrw hro hbb hxb HTK aaY aaZ hva;generalize hold:B (G.ix _ y)=old at hcy;clear hold;go_wp2_with fail;go_roundw;case rel=>exact⟨j+1,by omega,by go_num,Q4.out,HRO.out,NU.out⟩
     case measure=>simp[RowKit.intOf]; omega
    ·obtain rfl:j=(M.gone k).length:=by omega
     rw[List.take_length,Iq]at hrw;have hl:(M.out k).length=2352:=nP M k;have hrd:=hrw.rd (by omega);rw[hl]at hrd;have hcx:=dV (P:=prog) underlying65 underlying5 underlying9 hrd;have EO:Hid (oM (M.out k,M.gone k,0) w (.returned (.tuple #[.string (str (M.out k)),.slice a3 (M.gone k).length c3,.int .i64 0])) wr):=zH ⟨_,rfl,jb hro HB2.out.size,hbb⟩;clear hrw hro hrd hbb;go_wp2_with fail
     go_ret3
     exact EO.out
  ·intro x c w3 cnt3 hwx hwc hlx aaN hrg3 hlt3 hg3 hs3 afz;have hx:=HBD.out x (Maps.has_true_of_atKey aaN);obtain⟨y,rfl⟩:∃y:Nat,x=y:=⟨x.toNat,by omega⟩;have hy:y<2352:=by omega
   obtain⟨cy,hcy⟩:∃cy,cy=(M.sec k).ch y:=⟨_,rfl⟩;have hc:c=(cy.toNat:Int):=by have h1:=HAT.out y hy;rw[aaN]at h1;rw[hcy];simpa using h1
   subst hc;obtain⟨by_,hby⟩:∃c,c=jF (M.sec k).raw y:=⟨_,rfl⟩;have hgr:g1<r:=by rw[HRE.out]; exact ael.out
   have hbg:b<g1:=zL VV.out HG1.out;have hrw3:=HRW.out.keep (hg3.block g1 HRW.out.lt (fun e=>by have:=zs e; omega));have hcl:=hrw3.cell y (by rw[Ad]; exact hy);have hfz:=hrw3.frozen y (by have:=hrw3.le; rw[Ad]at this; omega);rw[YL hy hlx,<-hby]at hcl;change w3.cell? ⟨g1,y,none⟩=some (.int .u8 by_.toNat) at hcl;have hset:=hrw3.store y (by_ ^^^ cy) (by rw[Ad]; exact hy);rw[hby,hcy,QB hlx,<-hcy,<-hby]at hset;have Q4:=zH (show Row (w3.setCell ⟨g1,y,none⟩ (.int .u8 (by_ ^^^ cy).toNat)) _ _ _ _ from hset);have hgs:w3.grownBy (w3.setCell ⟨g1,y,none⟩ (.int .u8 (by_ ^^^ cy).toNat)) (some g1):=⟨rfl,rfl,rfl,by simp,fun k h1 h2=>zh _ _ _ k (fun e=>h2 (by rw[e]))⟩;have HRN:=zH (hrg3.kept hgs (fun e=>by have:=zs e; omega) (fun e=>by have:=zs e; omega));have hb3:=HB.out.grown hg3 HB.out.size (fun k hk=>by obtain rfl:=zs hk; have:=HG1.out; omega);have HBN:=zH (hb3.setCell (p:=⟨g1,y,none⟩) HG1.out (.int .u8 (by_ ^^^ cy).toNat));have hix:=fun w'=>aH underlying65 sizeU8 (cap:=cap) (n:=2352) (k:=y) (b:=g1) (off:=0) rfl hy _ rfl w'
   simp only[Nat.mul_one,Nat.zero_add]at hix;have hxr:=YJ by_ cy;have jE:=zH (show cnt3<cnt from hlt3);have Z9:=zH hrg;clear hset hgs hrg3 hrw3 hb3 hgr hbg aaN hg3 hlx hcy hby hwx hwc hlt3 hrg;go_wp2_with fail;go_roundw;case rel=>exact⟨_,cnt3,HRN.out,Q4.out,HBN.out⟩
   case measure=>rw[<-UInt8.toNat_xor,HRN.out.left_eq,Z9.out.left_eq]; exact jE.out
theorem UA{w:World}{g:Nat}{M:aP}{X R:Nat->Prop}{N:Nat}(h:gZ w g M X R)(ho:M.Ok N)(a:Int):
 Calls prog 50 #[.pointer (some ⟨g,0,none⟩),.int .i64 a] w (oM (M.BK a) w):=by
 unfold aP.BK;by_cases hr:0<=a/\a<(M.n:Int)
 ·rw[zj hr];obtain⟨k,rfl⟩:∃k:Nat,a=k:=⟨a.toNat,by omega⟩;rw[Int.toNat_natCast];have hk:k<M.n:=by omega
  by_cases h1:(M.sec k).st=1
  ·rw[zi (by omega),zj h1];obtain⟨L,h⟩:=h;cases hch:(bF jS L.S k).c with
   | none=>exact KG h ho hk h1 hch
   | some b=>exact KF h ho hk h1 hch
  ·have hb:=KE h ho hk h1;by_cases h0:(M.sec k).st=0
   ·rw[zj h0];rw[zj h0]at hb;exact hb
   ·rw[zi h0,zi h1];rw[zi h0]at hb;exact hb
 ·rw[zi hr];exact Eb h ho a hr
end oH
end Go.Proofs.YtfnehkmhcmkhjaaGreat
