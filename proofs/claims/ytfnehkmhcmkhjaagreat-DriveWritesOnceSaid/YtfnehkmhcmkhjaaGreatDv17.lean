/- Parts:XChg XWt XWs XQa XQf XQz XInx -/
import Derived.Test.YtfnehkmhcmkhjaaGreatDvAl
import Derived.Test.YtfnehkmhcmkhjaaGreatDv11
import Derived.Test.YtfnehkmhcmkhjaaGreatDv07
import Derived.Test.YtfnehkmhcmkhjaaGreatDv12
import Derived.Maps.RangeWalk
import Derived.Deep.DeepMust
import Derived.Test.YtfnehkmhcmkhjaaGreatDv13
set_option maxRecDepth 100000
set_option maxHeartbeats 8000000
set_option linter.unusedVariables false
namespace Go.Proofs.YtfnehkmhcmkhjaaGreat
open Tryz
section
open Go.RowKit
theorem iZ{l:List Int}{i:Nat}(h:i<l.length):dm l i ∈ l:=by unfold dm; rw[List.getD_eq_getElem?_getD,List.getElem?_eq_getElem h]; exact List.getElem_mem h
theorem zK{P:Program}{t:TypeId}(ht:P.underlying t=some .string)(l:List UInt8)(k:Nat)(hk:k<l.length)(i:Int)(hi:i=k)(w:World):
 (Instr.index t (.string (str l)) (.int .i64 i)).run P w=.ok (B (G.ix l k)) w:=by
 subst hi;have h1:(str l).size=l.length:=ax l;have h2:((str l)[k]'(by rw[h1]; exact hk))=l[k]:=by simp[str,ByteArray.getElem_eq_getElem_data]
 simp[Instr.index,asIntOf,run_underlying ht,h1,hk,h2,G.ix]
end
namespace W8
open Go.RowKit
def sym(raw:List UInt8)(f x:Int):UInt8:=if x<f then 0 else G.ix raw x.toNat
def oD(raw:List UInt8)(ws:List Int)(f:Int):List UInt8:=ws.map (sym raw f)
theorem eX(raw:List UInt8)(ws:List Int)(f:Int):(oD raw ws f).length=ws.length:=by simp[oD]
theorem Gp(raw:List UInt8)(ws:List Int)(f:Int)(i:Nat)(h:i<ws.length):G.ix (oD raw ws f) i=sym raw f (dm ws i):=by simp[oD,G.ix,dm,h]
def tk(raw:List UInt8)(ws:List Int)(f:Int):Nat->List UInt8
 | 0=>List.replicate ws.length 0
 | k+1=>if dm ws k<f then tk raw ws f k else(tk raw ws f k).set k (G.ix raw (dm ws k).toNat)
theorem kM(raw:List UInt8)(ws:List Int)(f:Int):∀k,(tk raw ws f k).length=ws.length
 | 0=>by simp[tk]
 | k+1=>by unfold tk; split <;> simp[kM raw ws f k]
theorem DL(l:List UInt8)(k i:Nat)(c:UInt8)(h:k<l.length):G.ix (l.set k c) i=if i=k then c else G.ix l i:=by
 unfold G.ix;simp only[List.getD_eq_getElem?_getD];by_cases e:i=k
 ·subst e; simp[h]
 ·rw[zi e,List.getElem?_set_ne (Ne.symm e)]
theorem Zu(raw:List UInt8)(ws:List Int)(f:Int):∀(k i:Nat),k<=ws.length->G.ix (tk raw ws f k) i=if i<k then sym raw f (dm ws i) else 0
 | 0,i,_=>by rw[zi (by omega)];unfold tk G.ix;by_cases h:i<ws.length <;> simp[h]
 | k+1,i,hk=>by
   have ih:=Zu raw ws f k i (by omega);unfold tk;by_cases hf:dm ws k<f
   ·rw[zj hf,ih];by_cases e:i=k
    ·subst e; rw[zi (by omega),zj (by omega)]; simp[sym,hf]
    ·by_cases h:i<k
     ·rw[zj h,zj (by omega)]
     ·rw[zi h,zi (by omega)]
   ·rw[zi hf,DL _ _ _ _ (by rw[kM]; omega),ih];by_cases e:i=k
    ·subst e; rw[zj rfl,zj (by omega)]; simp[sym,hf]
    ·rw[zi e];by_cases h:i<k
     ·rw[zj h,zj (by omega)]
     ·rw[zi h,zi (by omega)]
theorem abL(raw:List UInt8)(ws:List Int)(f:Int):tk raw ws f ws.length=oD raw ws f:=by
 apply G.Dp
 ·rw[kM,eX]
 ·intro i hi;rw[kM]at hi;rw[Zu raw ws f _ i (zl _),zj hi,Gp _ _ _ _ hi]
theorem take_any(rv:Value)(raw:List UInt8)(wv:Value)(ws:List Int)(f:Int)(w:World)(hr:Rd w rv raw)(hw:uS w wv ws)(hl:ws.length<=1000)(hb:∀x ∈ ws,0<=x/\x<raw.length):
 Calls prog 168 #[rv,wv,.int .i64 f] w fun e w'=>e=.returned (.string (str (oD raw ws f)))/\Below w.heap.size w w':=by
 obtain⟨hr0,ra,rc,rb,ro,rfl,hrc,TD⟩:=hr;obtain⟨hw0,⟨wa,wc,wb,wo,rfl,hwc,TF⟩,hwr⟩:=hw;have HR:=zH TD;have HW:=zH TF;have HB:Hid (∀k,k<ws.length->0<=dm ws k/\dm ws k<raw.length):=zH fun k hk=>hb _ (iZ hk)
 clear TD TF hwr hb;go_enter func168,ntmps168;go_wp2_with (refine lC (base:=w.heap.size) rfl _ _ rfl underlying65 infoU8 ws.length rfl rfl rfl rfl (by omega) (zl _) ?_; intro w1 hown1 F8);have hb1:Below w.heap.size w w1:=(zB _ _).grown F8 (zl _) (by simp);have hr1:Row w1 5 w.heap.size ws.length (tk raw ws f 0):=Row.cells hown1;clear hown1 F8
 go_loopw [15] (fun vk wr=>∃k:Nat,k<=ws.length/\vk=.int .i64 k/\Row wr 5 w.heap.size ws.length (tk raw ws f k)/\Below w.heap.size w wr) (fun vk _=>ws.length - (RowKit.intOf vk).toNat)
 case atStart=>exact⟨0,by omega,rfl,hr1,hb1⟩
 case round=>
  clear hr1 hb1;obtain⟨k,hk,rfl,hr,hb⟩:=hrel;by_cases hlt:k<ws.length
  ·obtain⟨ha,hcw⟩:=HW.out k hlt;obtain⟨hx1,hx2⟩:=HB.out k hlt;have HK:Hid (tk raw ws f (k+1)=if dm ws k<f then tk raw ws f k else(tk raw ws f k).set k (G.ix raw (dm ws k).toNat)):=zH rfl;obtain⟨j,hj⟩:∃j:Nat,dm ws k=j:=⟨(dm ws k).toNat,by omega⟩;rw[hj]at hcw hx1 hx2;have HJ:=zH hj; clear hj;have hj2:j<raw.length:=by omega
   obtain⟨ha2,hcr⟩:=HR.out j hj2;have afy:wr.cell? ⟨wb,wo+k,none⟩=some (.int .i64 j):=(hb.cell (p:=⟨wb,wo+k,none⟩) (zc w _ hcw)).trans hcw;have afx:wr.cell? ⟨rb,ro+j,none⟩=some (B (G.ix raw j)):=(hb.cell (p:=⟨rb,ro+j,none⟩) (zc w _ hcr)).trans hcr;have hix:=ku (P:=prog) underlying31 sizeInt (cap:=wc) ha hlt _ rfl wr;have hiy:=ku (P:=prog) underlying65 sizeU8 (cap:=rc) ha2 hj2 _ rfl wr;have hc:=hr.cell k (by rw[kM]; exact hlt);have hf:=hr.frozen k hlt;have hst:=hr.store k (G.ix raw j) (by rw[kM]; exact hlt);have ac2:=hb.setCell (p:=⟨w.heap.size,k,none⟩) (zl _) (B (G.ix raw j));have Ha:=zH ha; clear ha;have Ha2:=zH ha2; clear ha2 hcw hcr;by_cases hge:(j:Int)<f
   ·have hd:decide (f<=(j:Int))=false:=by simp; omega
    rw[HJ.out,zj hge]at HK;clear hst ac2;go_wp2_with fail;go_roundw;case rel=>exact⟨k+1,by omega,by go_num,by rw[HK.out]; exact hr,hb⟩
    case measure=>simp[RowKit.intOf]; omega
   ·have hd:decide (f<=(j:Int))=true:=by simp; omega
    rw[HJ.out,zi hge,Int.toNat_natCast]at HK;have hge':f<=(j:Int):=by omega
    clear hge;go_wp2_with fail;go_roundw;case rel=>exact⟨k+1,by omega,by go_num,by rw[HK.out]; exact hst,ac2⟩
    case measure=>simp[RowKit.intOf]; omega
  ·obtain rfl:k=ws.length:=by omega
   rw[abL]at hr;have hrd:Rd wr (.slice (some ⟨w.heap.size,0,none⟩) ws.length ws.length) (oD raw ws f):=by have:=hr.rd (by rw[eX]; omega);rwa[eX]at this
   have hcx:=dV (P:=prog) underlying65 underlying5 underlying9 hrd;clear hr hrd;go_wp2_with fail;go_ret;exact⟨rfl,hb⟩
def V9(g:Nat)(w:World)(v:Value)(l:List Int):Prop:=∀W:World,(∀k,k<w.heap.size->k≠g->W.heap[k]? = w.heap[k]?)->uS W v l
theorem V9.rd{g:Nat}{w:World}{v:Value}{l:List Int}(h:V9 g w v l):uS w v l:=h w fun _ _ _=>rfl
theorem Uf{g base e n:Nat}{w:World}{v:Value}{l:List Int}(h:w.ownsRow base e 1 v n (is l))(hg:g<base)(hn:l.length=n)(hl:n<=17592186044416)(hr:∀x ∈ l,-9223372036854775808<=x/\x<=9223372036854775807):V9 g w v l:=fun W hW=>by
 refine Ea (w:=W) (base:=base) (e:=e) ⟨h.1,?_⟩ hn hl hr;rcases h.2 with h2 | ⟨b,cap,cur,h1,h2,h3,h4⟩
 ·exact .inl h2
 ·exact .inr ⟨b,cap,cur,h1,h2,(hW b (Array.getElem?_eq_some_iff.1 h3).1 (by omega)).trans h3,h4⟩
theorem yM{w W:World}{r:Option Nat}(h:w.grownBy W r)(n:Nat):w.grownBy (W.drewN n) r:=⟨h.1,h.2,h.3,h.4,h.5⟩
theorem pg{w W:World}{g:Nat}(h:w.grownBy W (some g))(j:Nat)(v:Value):w.grownBy (W.setCell ⟨g,j,none⟩ v) (some g):=
 ⟨h.1,h.2,h.3,by have:=h.4; simpa using this,fun k hk hne=>(zh W ⟨g,j,none⟩ v k (fun e=>hne (congrArg some e))).trans (h.5 k hk hne)⟩
def EJ(raw:List UInt8)(ws:List Int)(f:Int)(s:List UInt8):Nat->List UInt8
 | 0=>raw
 | k+1=>if dm ws k<f then EJ raw ws f s k else(EJ raw ws f s k).set (dm ws k).toNat (G.ix s k)
def Zq(raw:List UInt8)(ws:List Int)(f:Int)(s:List UInt8):Nat->Bool
 | 0=>false
 | k+1=>if dm ws k<f then Zq raw ws f s k else Zq raw ws f s k || !decide (G.ix (EJ raw ws f s k) (dm ws k).toNat=G.ix s k)
theorem zu(raw:List UInt8)(ws:List Int)(f:Int)(s:List UInt8):∀k,(EJ raw ws f s k).length=raw.length
 | 0=>rfl
 | k+1=>by unfold EJ; split <;> simp[zu raw ws f s k]
def XY(raw:List UInt8)(ws:List Int)(f:Int)(s:List UInt8):List UInt8:=EJ raw ws f s ws.length
def afh(raw:List UInt8)(ws:List Int)(f:Int)(s:List UInt8):Bool:=Zq raw ws f s ws.length
def aah(e0 g cap:Nat)(raw:List UInt8)(ws:List Int)(f:Int)(s:List UInt8)(w:World)(e:Ending)(w':World):Prop:=
 e=.returned (.bool (afh raw ws f s))/\Row w' e0 g cap (XY raw ws f s)/\w.grownBy w' (some g)
theorem put_any(g n cap:Nat)(raw:List UInt8)(wv:Value)(ws:List Int)(f:Int)(s:List UInt8)(w:World)(hn:n=raw.length)(hrow:Row w 5 g cap raw)(hw:V9 g w wv ws)(hl:ws.length<=1000)(hb:∀x ∈ ws,0<=x/\x<raw.length)(hs:ws.length<=s.length):
 Calls prog 170 #[.slice (some ⟨g,0,none⟩) n cap,wv,.int .i64 f,.string (str s)] w (aah 5 g cap raw ws f s w):=by
 have HB:Hid (∀k,k<ws.length->0<=dm ws k/\dm ws k<n):=zH fun k hk=>by rw[hn]; exact hb _ (iZ hk)
 have HN:=zH hn;have HS:=zH hs;obtain⟨hw0,⟨wa,wc,wb,wo,rfl,hwc,_⟩,_⟩:=hw.rd;have hncap:n<=cap:=by rw[hn]; exact hrow.le
 have aeu:=zH hw;clear hn hb hs hw;go_enter func170,ntmps170;go_wp2_with fail
 go_loopw [9,14] (fun vc vk wr=>∃k:Nat,k<=ws.length/\vk=.int .i64 k/\vc=.bool (Zq raw ws f s k)/\Row wr 5 g cap (EJ raw ws f s k)/\w.grownBy wr (some g)) (fun _ vk _=>ws.length - (RowKit.intOf vk).toNat)
 case atStart=>exact⟨0,by omega,rfl,rfl,hrow,World.grownBy.refl _ _⟩
 case round=>
  clear hrow;obtain⟨k,hk,rfl,rfl,hr,hb⟩:=hrel;by_cases hlt:k<ws.length
  ·have hwr:uS wr (.slice wa ws.length wc) ws:=aeu.out wr fun j hj hjg=>hb.block j hj (fun e=>hjg (zs e))
   obtain⟨_,⟨a2,c2,b2,o2,hv2,_,hcell⟩,_⟩:=hwr;injection hv2 with e1 e2 e3
   subst e1 e3;obtain⟨ha,hcw⟩:=hcell k hlt;obtain⟨hx1,hx2⟩:=HB.out k hlt;clear hcell e2;have HK:Hid (EJ raw ws f s (k+1)=if dm ws k<f then EJ raw ws f s k else(EJ raw ws f s k).set (dm ws k).toNat (G.ix s k)):=zH rfl;have HKB:Hid (Zq raw ws f s (k+1)=if dm ws k<f then Zq raw ws f s k else Zq raw ws f s k || !decide (G.ix (EJ raw ws f s k) (dm ws k).toNat=G.ix s k)):=zH rfl;have hl2:=zu raw ws f s k;generalize EJ raw ws f s k=R at *;generalize Zq raw ws f s k=bb at *;obtain⟨j,hj⟩:∃j:Nat,dm ws k=j:=⟨(dm ws k).toNat,by omega⟩;rw[hj]at hcw hx1 hx2 HK HKB;have HJ:=zH hj; clear hj;rw[Int.toNat_natCast]at HK HKB;have hj2:j<n:=by omega
   have hjR:j<R.length:=by rw[hl2,<-HN.out]; exact hj2
   have hix:=ku (P:=prog) underlying31 sizeInt (cap:=wc) ha hlt _ rfl wr;have hc:=hr.cell j hjR;have hf:=hr.frozen j (by omega);have HL2:=zH hl2; clear hl2;have Ha:=zH ha; clear ha;by_cases hge:(j:Int)<f
   ·have hd:decide (f<=(j:Int))=false:=by simp; omega
    rw[zj hge]at HK HKB;go_wp2_with fail;go_roundw;case rel=>exact⟨k+1,by omega,by go_num,by rw[HKB.out],by rw[HK.out]; exact hr,hb⟩
    case measure=>simp[RowKit.intOf]; omega
   ·have hd:decide (f<=(j:Int))=true:=by simp; omega
    rw[zi hge]at HK HKB;have hge':f<=(j:Int):=by omega
    clear hge;have hi1:=fun wx=>zK (P:=prog) underlying9 s k (by have:=HS.out; omega) _ rfl wx
    have hcb:(((G.ix R j).toNat:Int) != ((G.ix s k).toNat:Int)) = !decide (G.ix R j=G.ix s k):=by rw[RI]; simp
    generalize hch:(!decide (G.ix R j=G.ix s k))=ch at hcb HKB;have Ir:=zH hch; clear hch;have HSt:=zH (hr.store j (G.ix s k) hjR);cases bb with
    | true=>
      go_wp2_with fail;go_quiet (fail);have hr3:Row (wr.drewN nq) 5 g cap R:=hr;have hb3:w.grownBy (wr.drewN nq) (some g):=yM hb nq;generalize wr.drewN nq=w2 at hr3 hb3 ⊢;have hc3:=hr3.cell j hjR;have hf3:=hr3.frozen j (by omega);have HSt:=zH (hr3.store j (G.ix s k) hjR);have HBt:Hid (w.grownBy (w2.setCell ⟨g,j,none⟩ (B (G.ix s k))) (some g)):=zH (pg hb3 j _);clear hr3 hb3 hr hb hc hf;go_wp2_with fail;go_roundw;case rel=>exact⟨k+1,by omega,by go_num,by rw[HKB.out]; rfl,by rw[HK.out]; exact HSt.out,HBt.out⟩
      case measure=>simp[RowKit.intOf]; omega
    | false=>
      go_wp2_with fail;go_quiet (fail);have hr3:Row (wr.drewN nq) 5 g cap R:=hr;have hb3:w.grownBy (wr.drewN nq) (some g):=yM hb nq;generalize wr.drewN nq=w2 at hr3 hb3 ⊢;have hc3:=hr3.cell j hjR;have hf3:=hr3.frozen j (by omega);have HSt:=zH (hr3.store j (G.ix s k) hjR);have HBt:Hid (w.grownBy (w2.setCell ⟨g,j,none⟩ (B (G.ix s k))) (some g)):=zH (pg hb3 j _);clear hr3 hb3 hr hb hc hf;go_wp2_with fail;go_roundw;case rel=>exact⟨k+1,by omega,by go_num,by rw[HKB.out]; rfl,by rw[HK.out]; exact HSt.out,HBt.out⟩
      case measure=>simp[RowKit.intOf]; omega
  ·obtain rfl:k=ws.length:=by omega
   go_wp2_with fail;go_ret;exact⟨rfl,hr,hb⟩
end W8
namespace W8
open Go.RowKit Go.Shelf
attribute [local go_sem] Oper.semAt_some
theorem pF{W W':World}{row:Option Nat}{g:Nat}{cs:Array Value}{t:TypeId}{fz:Nat×Nat}(h:W.heap[g]? = some (.cells cs t fz))(hg:W.grownBy W' row)(hr:∀r,row=some r->∃o:Obj,W.heap[r]? = some o/\o.isCells=false):W'.heap[g]? = some (.cells cs t fz):=
 (hg.block g (Array.getElem?_eq_some_iff.1 h).1 (fun e=>by
  obtain⟨o,ho,hc⟩:=hr g e.symm;rw[h]at ho;obtain rfl:=zs ho;cases hc)).trans h
theorem Qh(B base e sz n:Nat)(v:Value)(xs:List Value):dJ B fun W=>W.ownsRow base e sz v n xs:=fun _ W W' row h hg hr=>by
 refine⟨h.1,?_⟩;rcases h.2 with h2 | ⟨b,cap,cur,h1,h2,h3,h4⟩
 ·exact .inl h2
 ·exact .inr ⟨b,cap,cur,h1,h2,pF h3 hg (fun r e=>(hr r e).2),h4⟩
theorem Qi(B e g cap:Nat)(l:List UInt8):dJ B fun W=>Row W e g cap l:=fun _ W W' row h hg hr=>by obtain⟨cur,fz,h1,h2⟩:=h;exact⟨cur,fz,pF h1 hg (fun r e=>(hr r e).2),h2⟩
theorem je(B g t:Nat)(cs:List Value):dJ B fun W=>Bx W g t cs:=fun _ W W' row h hg hr=>pF h hg (fun r e=>(hr r e).2)
theorem pU{n₀ B:Nat}{w₀:World}(hn:n₀<=w₀.heap.size)(hB:n₀<=B):dJ B fun W=>Below n₀ w₀ W:=ownFrom_below hn hB
theorem Gt{B:Nat}{W W':World}(hb:Below W.heap.size W W'):KeepsFrom B W W':=⟨hb.size,fun k o _ hk _=>(hb.block k (Array.getElem?_eq_some_iff.1 hk).1).trans hk⟩
theorem TU(B:Nat)(W:World)(p:Addr)(v:Value):KeepsFrom B W (W.setCell p v):=(KeepsOthers.setCell W p v).from B
def GW(B:Nat)(k:Nat)(v:Value)(W:World):Prop:=W.ownsRow B 3 1 v (wd k).length (is (wd k))
theorem GW.stays(B0 B k:Nat)(v:Value):dJ B0 (GW B k v):=Qh _ _ _ _ _ _ _
theorem Ij(n:Nat)(hn:2<=n)(w:World):Gives Fence.wide n prog 248 #[] 138 (GW w.heap.size) w:=fun l J Jx W hW hJ hY h0=>by
 refine callsIn_of_wp func248 rfl trivial ?_ rfl;simp only[ntmps248,List.size_toArray,List.length_cons,List.length_nil,Nat.reduceAdd,Nat.reduceSub,Array.replicate_succ,Array.replicate_zero,List.push_toArray,List.append_toArray,List.nil_append,List.cons_append];have hW0:=hW.size;have hn1:1<=n:=by omega
 have hn2:1<=n - 1:=by omega
 clear hW;gi_wp2
 gi_loopw [8] (fun i wr=>∃k:Nat,k<=86/\i=.int .i64 k/\J k wr/\w.heap.size<=wr.heap.size) (fun i _=>86 - (RowKit.intOf i).toNat)
 case atStart=>exact⟨0,by omega,rfl,h0,hW0⟩
 case round=>
  obtain⟨k,hk,rfl,Ze,hs⟩:=hrel;clear h0 hW0;by_cases hlt:k<86
  ·have hlt':(k:Int)<86:=by omega
   have hG:∀(v:Value)(w1:World),w1.ownsRow wr.heap.size 3 1 v 26 (is (pw k))->GW w.heap.size k v w1:=fun v w1 ho=>by have e:wd k=pw k:=zj hlt;unfold GW;rw[e,BI];exact jb ho hs
   have HG:=zH hG; clear hG
   gi_wp2_with (refine⟨trivial,?_⟩; gi_at_call 249; refine(callsIn_wide.2 (Uu k _ _ rfl hlt)).mono ?_; rintro e w1 ⟨v,rfl,ho,hb⟩; have hs1:=hb.size; obtain⟨fn,tmps,assign,body,hy,hR⟩:=hY k v w1 (by omega) (hJ k wr w1 Ze hb) (HG.out v w1 ho); clear ho hb)
   refine hR.mono ?_;rintro e W3 (⟨rfl,hJ3,hs3⟩ | ⟨rfl,hJx3⟩)
   ·gi_wp2;go_roundw;case rel=>exact⟨k+1,by omega,by go_num,hJ3,by omega⟩
    case measure=>simp[RowKit.intOf]; omega
   ·gi_wp2;exact zr (results_none rfl _ _ _) rfl ⟨⟨_,rfl⟩,.inr hJx3⟩
  ·obtain rfl:k=86:=by omega
   rw[show((86:Nat):Int)=86 from rfl];gi_wp2
   gi_loopw [21] (fun i wr=>∃k:Nat,k<=52/\i=.int .i64 k/\J (86+k) wr/\w.heap.size<=wr.heap.size) (fun i _=>52 - (RowKit.intOf i).toNat)
   case atStart=>exact⟨0,by omega,rfl,Ze,hs⟩
   case round=>
    clear Ze hs hlt;obtain⟨k,hk,rfl,Ze,hs⟩:=hrel;by_cases hlt:k<52
    ·have hlt':(k:Int)<52:=by omega
     have hG:∀(v:Value)(w1:World),w1.ownsRow wr.heap.size 3 1 v 45 (is (qw k))->GW w.heap.size (86+k) v w1:=fun v w1 ho=>by
      have e:wd (86+k)=qw k:=by unfold wd; rw[zi (by omega)]; congr 1; omega
      unfold GW;rw[e,BJ];exact jb ho hs
     have HG:=zH hG; clear hG
     gi_wp2_with (refine⟨trivial,?_⟩; gi_at_call 250; refine(callsIn_wide.2 (Uw k _ _ rfl hlt)).mono ?_; rintro e w1 ⟨v,rfl,ho,hb⟩; have hs1:=hb.size; obtain⟨fn,tmps,assign,body,hy,hR⟩:=hY (86+k) v w1 (by omega) (hJ _ _ w1 Ze hb) (HG.out v w1 ho); clear ho hb)
     refine hR.mono ?_;rintro e W3 (⟨rfl,hJ3,hs3⟩ | ⟨rfl,hJx3⟩)
     ·gi_wp2;go_roundw;case rel=>exact⟨k+1,by omega,by go_num,hJ3,by omega⟩
      case measure=>simp[RowKit.intOf]; omega
     ·gi_wp2;exact zr (results_none rfl _ _ _) rfl ⟨⟨_,rfl⟩,.inr hJx3⟩
    ·obtain rfl:k=52:=by omega
     gi_wp2;go_end0;exact⟨⟨_,rfl⟩,.inl Ze⟩
end W8
namespace xA
open Go.RowKit
def by8(x:Int):UInt8:=UInt8.ofNat x.toNat
theorem tC{x:Int}(h0:0<=x)(h1:x<256):((by8 x).toNat:Int)=x:=by unfold by8; rw[toNat_ofNat (by omega)]; omega
theorem aau{n:Int}(h0:0<=n)(h1:n<=99):0<=qU n/\qU n<256:=by unfold qU; omega
def Ah(m s f:Int):List UInt8:=[by8 (qU m),by8 (qU s),by8 (qU f)]
def okA(m s f:Int):Prop:=0<=m/\m<=99/\0<=s/\s<=59/\0<=f/\f<=74
theorem XM(x:Int)(w:World)(h0:0<=x)(h1:x<256)(t:TypeId):(convert 65 9 (.slice (some ⟨w.heap.size,0,none⟩) 1 1)).run prog (w.alloc (.cells #[.int .u8 x] t))=.ok (.string (str [by8 x])) (w.alloc (.cells #[.int .u8 x] t)):=by
 have h:=dV (dst:=9) underlying65 underlying5 underlying9 (Rd.lit w [by8 x] t (by simp));have e:(bs [by8 x]).toArray = #[.int .u8 x]:=by simp only[bs,B,List.map_cons,List.map_nil,tC h0 h1]
 rw[e]at h;exact h
theorem zo(n:Int)(w:World)(h0:0<=n)(h1:n<=99):Calls prog 224 #[.int .i64 n] w (RV (.string (str [by8 (qU n)])) w):=by have hb:=aau h0 h1;have hst:=XM (qU n) w hb.1 hb.2 5;clear hb;go_enter func224,ntmps224;go_wp2_with (go_at_call 225; refine(Wu n _ h0 h1).mono ?_; rintro e w2 ⟨rfl,rfl⟩);go_ret;exact⟨rfl,(zB _ _).alloc (zl _) _⟩
theorem nT(l:List UInt8):Lib.strCells (str l)=Lib.byteCells l:=by simp[Lib.strCells,Lib.byteCells,str]
theorem tu{T e:TypeId}{B b:Nat}{cs:List Value}{w w':World}(h:Lib.IsBuilder T e B b cs w)(hb:Below w.heap.size w w'):Lib.IsBuilder T e B b cs w':=by
 have k:∀p,Lib.BuilderAt T e B b p cs w->Lib.BuilderAt T e B b p cs w':=fun p h=>by have hl:=h.lt;obtain⟨h1,v,h2,h3,h4⟩:=h;exact⟨h1,v,(hb.block b hl).trans h2,bz h3 hb,h4⟩
 exact h.imp (k _) (k _)
theorem IZ(m s f:Int)(w:World)(h:okA m s f):Calls prog 223 #[iV m s f,.func (.func 224) #[] #[]] w (RV (.string (str (Ah m s f))) w):=by
 have i0:∀w,(Instr.index 325 (.agg #[.int .i64 m,.int .i64 s,.int .i64 f]) (.int .i64 0)).run prog w=.ok (.int .i64 m) w:=fun _=>by kernel_rfl
 have i1:∀w,(Instr.index 325 (.agg #[.int .i64 m,.int .i64 s,.int .i64 f]) (.int .i64 1)).run prog w=.ok (.int .i64 s) w:=fun _=>by kernel_rfl
 have i2:∀w,(Instr.index 325 (.agg #[.int .i64 m,.int .i64 s,.int .i64 f]) (.int .i64 2)).run prog w=.ok (.int .i64 f) w:=fun _=>by kernel_rfl
 obtain⟨h1,h2,h3,h4,h5,h6⟩:=h;have HA:Hid (Ah m s f = [by8 (qU m),by8 (qU s),by8 (qU f)]):=zH rfl;go_enter func223,ntmps223;go_upto_region 2 with (fail)
 have hm0:Bx (w.alloc (.cells #[.int .i64 m,.int .i64 s,.int .i64 f] 235)) w.heap.size 235 [.int .i64 m,.int .i64 s,.int .i64 f]:=Bx.new _ _ _;have hb0:=(zB w.heap.size w).alloc (zl _) (.cells #[.int .i64 m,.int .i64 s,.int .i64 f] 235);have hsz0:(w.alloc (.cells #[.int .i64 m,.int .i64 s,.int .i64 f] 235)).heap.size=w.heap.size+1:=by simp
 generalize w.alloc (.cells #[.int .i64 m,.int .i64 s,.int .i64 f] 235)=w0 at hm0 hb0 hsz0 ⊢;have hB0:=Lib.fresh_isBuilder 218 5 w0;have hb1:=hb0.alloc hb0.size (.cells #[.pointer none,.slice none 0 0] 218);have hm1:=hm0.alloc (.cells #[.pointer none,.slice none 0 0] 218);have hg1:w0.heap.size<=(w0.alloc (.cells #[.pointer none,.slice none 0 0] 218)).heap.size:=by simp
 rw[<-hsz0];obtain⟨gB,hgB⟩:∃gB,gB=w0.heap.size:=⟨_,rfl⟩;have hlt:w.heap.size<=gB:=by omega
 rw[<-hgB]at hB0 hg1;simp only[<-hgB];generalize w0.alloc (.cells #[.pointer none,.slice none 0 0] 218)=w1 at hB0 hb1 hm1 hg1 ⊢;clear hsz0 hgB hm0 hb0;have c0:=hm1.cell (i:=0) rfl;have c1:=hm1.cell (i:=1) rfl;have c2:=hm1.cell (i:=2) rfl;have HB0:=zH hB0; clear hB0;go_wp2_with fail;refine(BZ m s f _).mono ?_;rintro e w2 ⟨rfl,hb2⟩;have HB2:=zH (tu HB0.out hb2);have hb3:=hb1.trans (hb2.mono hb1.size);have hg3:=zT hg1 hb2.size;clear hb2 hb1 hg1 c0 c1 c2 hm1 HB0;go_wp2_with fail
 go_loopw [10] (fun vi wr=>∃(k:Nat),k<=3/\vi=.int .i64 k/\Hid (Lib.IsBuilder 218 5 gB gB (Lib.byteCells ((Ah m s f).take k)) wr)/\Below w.heap.size w wr/\gB<=wr.heap.size) (fun vi _=>3 - (RowKit.intOf vi).toNat)
 case atStart=>exact⟨0,by omega,rfl,HB2,hb3,hg3⟩
 case round=>
  clear HB2 hb3 hg3;obtain⟨k,hk,rfl,HB,hb,hg⟩:=hrel;by_cases hk3:k=3
  ·subst hk3;have HT:Hid ((Ah m s f).take 3=Ah m s f):=zH rfl;rw[HT.out]at HB;go_wp2_with fail;refine(Builder_String_any gB gB (Ah m s f) _ HB.out hg).mono ?_;rintro e w3 ⟨rfl,hb3⟩;go_wp2_with fail;go_ret;exact⟨rfl,hb.trans (hb3.mono hlt)⟩
  by_cases hk0:k=0
  ·subst hk0;have HT:Hid (Lib.byteCells ((Ah m s f).take 0)++Lib.strCells (str [by8 (qU m)])=Lib.byteCells ((Ah m s f).take 1)):=zH (by rw[nT]; rfl);have HL:Hid ((Lib.byteCells ((Ah m s f).take 0)).length+(str [by8 (qU m)]).size<=140737488355328):=zH (by rw[ax,Lib.byteCells_length]; simp[Ah]);clear hk3;go_wp2_with fail;refine(zo m _ h1 h2).mono ?_;rintro e w3 ⟨rfl,hb3⟩;have HB3:=zH (tu HB.out hb3);have hb4:=hb.trans (hb3.mono hb.size);have hg4:=zT hg hb3.size;clear hb3 hb hg HB;go_wp2_with fail;refine(rV gB gB _ _ _ HB3.out HL.out hg4).mono ?_;rintro e w5 ⟨rfl,kU,hb5⟩;rw[HT.out]at kU;have Lu:=zH kU;have hb6:=hb4.trans (hb5.mono hlt);have Tu:=zT hg4 hb5.size;clear kU hb5 hb4 hg4 HB3;go_wp2_with fail;first
   | (go_roundw
      case rel=>exact⟨1,by omega,by go_num,zH (.inr Lu.out),hb6,Tu⟩
      case measure=>simp[RowKit.intOf])
   | exact⟨⟨1,by omega,by go_num,zH (.inr Lu.out),hb6,Tu⟩,by simp[RowKit.intOf]⟩
  by_cases hk1:k=1
  ·subst hk1;have HT:Hid (Lib.byteCells ((Ah m s f).take 1)++Lib.strCells (str [by8 (qU s)])=Lib.byteCells ((Ah m s f).take 2)):=zH (by rw[nT]; rfl);have HL:Hid ((Lib.byteCells ((Ah m s f).take 1)).length+(str [by8 (qU s)]).size<=140737488355328):=zH (by rw[ax,Lib.byteCells_length]; simp[Ah]);clear hk3;go_wp2_with fail;refine(zo s _ h3 (by omega)).mono ?_;rintro e w3 ⟨rfl,hb3⟩;have HB3:=zH (tu HB.out hb3);have hb4:=hb.trans (hb3.mono hb.size);have hg4:=zT hg hb3.size;clear hb3 hb hg HB;go_wp2_with fail;refine(rV gB gB _ _ _ HB3.out HL.out hg4).mono ?_;rintro e w5 ⟨rfl,kU,hb5⟩;rw[HT.out]at kU;have Lu:=zH kU;have hb6:=hb4.trans (hb5.mono hlt);have Tu:=zT hg4 hb5.size;clear kU hb5 hb4 hg4 HB3;go_wp2_with fail;first
   | (go_roundw
      case rel=>exact⟨2,by omega,by go_num,zH (.inr Lu.out),hb6,Tu⟩
      case measure=>simp[RowKit.intOf])
   | exact⟨⟨2,by omega,by go_num,zH (.inr Lu.out),hb6,Tu⟩,by simp[RowKit.intOf]⟩
  by_cases hk2:k=2
  ·subst hk2;have HT:Hid (Lib.byteCells ((Ah m s f).take 2)++Lib.strCells (str [by8 (qU f)])=Lib.byteCells ((Ah m s f).take 3)):=zH (by rw[nT]; rfl);have HL:Hid ((Lib.byteCells ((Ah m s f).take 2)).length+(str [by8 (qU f)]).size<=140737488355328):=zH (by rw[ax,Lib.byteCells_length]; simp[Ah]);clear hk3;go_wp2_with fail;refine(zo f _ h5 (by omega)).mono ?_;rintro e w3 ⟨rfl,hb3⟩;have HB3:=zH (tu HB.out hb3);have hb4:=hb.trans (hb3.mono hb.size);have hg4:=zT hg hb3.size;clear hb3 hb hg HB;go_wp2_with fail;refine(rV gB gB _ _ _ HB3.out HL.out hg4).mono ?_;rintro e w5 ⟨rfl,kU,hb5⟩;rw[HT.out]at kU;have Lu:=zH kU;have hb6:=hb4.trans (hb5.mono hlt);have Tu:=zT hg4 hb5.size;clear kU hb5 hb4 hg4 HB3;go_wp2_with fail;first
   | (go_roundw
      case rel=>exact⟨3,by omega,by go_num,zH (.inr Lu.out),hb6,Tu⟩
      case measure=>simp[RowKit.intOf])
   | exact⟨⟨3,by omega,by go_num,zH (.inr Lu.out),hb6,Tu⟩,by simp[RowKit.intOf]⟩
  omega
theorem Rk(m s f:Int)(w:World)(h:okA m s f):Calls prog 137 #[iV m s f] w (R2B (.string (str (Ah m s f))) (.int .i64 0) w):=by have HO:=zH h;have HV:=zH (YC h);clear h;go_enter func137,ntmps137;go_wp2_with fail;refine(rQ m s f _).mono ?_;rw[HV.out];rintro e w1 ⟨rfl,hb⟩;have hM:=(Bx.new w 235 [.int .i64 m,.int .i64 s,.int .i64 f]).call hb;have hle:=((zB w.heap.size w).alloc (zl _) (.cells #[.int .i64 m,.int .i64 s,.int .i64 f] 235)).trans (hb.mono (by simp));have c0:=hM.cell (i:=0) rfl;have c1:=hM.cell (i:=1) rfl;have c2:=hM.cell (i:=2) rfl;clear hb hM;go_wp2_with fail;refine(IZ m s f _ HO.out).mono ?_;rintro e w2 ⟨rfl,hb2⟩;go_wp2_with fail;go_ret2;exact⟨rfl,hle.trans (hb2.mono hle.size)⟩
theorem Rd.adC{W:World}{g:Nat}{t:TypeId}{l:List UInt8}(h:Bx W g t (bs l))(hl:l.length<=140737488351232):Rd W (.slice (some ⟨g,0,none⟩) l.length l.length) l:=
 ⟨hl,some ⟨g,0,none⟩,l.length,g,0,rfl,zl _,fun i hi=>⟨rfl,by rw[Nat.zero_add]; exact h.cell (jK hi)⟩⟩
theorem Qr:∀k:Nat,k<100->aG (qU (k:Int))=((k:Int),0):=by decide+kernel
theorem sK{n:Int}(h0:0<=n)(h1:n<=99):aG (qU n)=(n,0):=by have h:=Qr n.toNat (by omega);rwa[Int.toNat_of_nonneg h0]at h
end xA
section
open Go.RowKit
def aI(B:Nat)(t:TypeId)(m:Nat)(Φ:World->List Value->Prop)(w W:World):Prop:=
 Below B w W/\(∀b,b<w.heap.size->(∀cs:List Value,cs.length=m->¬ Bx w b t cs)->W.heap[b]? = w.heap[b]?)/\∀b (cs:List Value),cs.length=m->Bx w b t cs->∃cs':List Value,cs'.length=m/\Bx W b t cs'/\(cs'=cs\/Φ W cs')
section
variable {B:Nat} {t:TypeId} {m:Nat} {Φ:World->List Value->Prop} {w W:World}
theorem aI.refl:aI B t m Φ w w:=⟨zB _ _,fun _ _ _=>rfl,fun b cs h1 h2=>⟨cs,h1,h2,.inl rfl⟩⟩
theorem aI.call(hB:B<=w.heap.size)(hb:Below w.heap.size w W):aI B t m Φ w W:=⟨hb.mono hB,fun b h _=>hb.block b h,fun b cs h1 h2=>⟨cs,h1,h2.call hb,.inl rfl⟩⟩
theorem aI.alloc(hB:B<=w.heap.size)(o:Obj):aI B t m Φ w (w.alloc o):=aI.call hB ((zB _ _).alloc (zl _) o)
theorem aI.store{g:Nat}{cs0:List Value}(hg:B<=g)(h0:cs0.length=m)(ho:∃cs:List Value,cs.length=m/\Bx w g t cs)(hP:Φ (bg w g 0 cs0) cs0):aI B t m Φ w (bg w g 0 cs0):=by
 obtain⟨cs,h1,h2⟩:=ho;have hfull:Bx (bg w g 0 cs0) g t cs0:=h2.full (h1.trans h0.symm);refine⟨Below.bg hg cs0 0 (zB _ _),fun b hb hn=>?_,fun b cs' h3 h4=>?_⟩
 ·have hne:b≠g:=fun e=>by subst e; exact hn cs h1 h2
  exact(jl.bg cs0 0 (jl.refl (some g) w)).2 b hb (fun e=>hne (zs e))
 ·by_cases e:b=g
  ·subst e; exact⟨cs0,h0,hfull,.inr hP⟩
  ·exact⟨cs',h3,h4.setOther e,.inl rfl⟩
theorem aI.full(hR:aI B t m Φ w W)(hst:∀cs,Φ w cs->Φ W cs){g:Nat}(h:∃cs:List Value,cs.length=m/\Bx w g t cs/\Φ w cs):∃cs:List Value,cs.length=m/\Bx W g t cs/\Φ W cs:=by
 obtain⟨cs,h1,h2,h3⟩:=h;obtain⟨cs',h4,h5,h6⟩:=hR.2.2 g cs h1 h2;refine⟨cs',h4,h5,?_⟩;rcases h6 with rfl | h6
 ·exact hst _ h3
 ·exact h6
theorem aI.some(hR:aI B t m Φ w W){g:Nat}(h:∃cs:List Value,cs.length=m/\Bx w g t cs):∃cs:List Value,cs.length=m/\Bx W g t cs:=by obtain⟨cs,h1,h2⟩:=h;obtain⟨cs',h4,h5,_⟩:=hR.2.2 g cs h1 h2;exact⟨cs',h4,h5⟩
theorem aI.rows(hR:aI B t m Φ w W){sz n:Nat}{v:Value}{f:Nat->List Value}(hm:m<sz)(hf:∀i,i<n->(f i).length=sz)(h:bK w sz v n f):bK W sz v n f:=by
 obtain⟨a,c,b,off,rfl,hac,hcell⟩:=h;refine⟨a,c,b,off,rfl,hac,fun i hi=>?_⟩;obtain⟨ha,hr⟩:=hcell i hi;refine⟨ha,fun j u hu=>?_⟩;have h1:=hr j u hu;have hlast:∃u,(f i)[m]? = Option.some u:=⟨(f i)[m]'(by rw[hf i hi]; exact hm),List.getElem?_eq_getElem _⟩;obtain⟨u2,hu2⟩:=hlast;have h2:=hr m u2 hu2;have hb:=zc w _ h1;have hk:=hR.2.1 b hb (fun cs hl hx=>by
  unfold Bx at hx;simp only[World.cell?,hx]at h2;have h3:m<=off+i * sz+m:=Nat.le_add_left _ _;simp[hl]at h2)
 simp only[World.cell?]at h1 ⊢;rw[hk]; exact h1
theorem aI.dW(hR:aI B t m Φ w W)(hm:m<7){v:Value}{l:List T.az}(h:aW w v l):aW W v l:=aI.rows hR hm (fun i _=>fA _) h
end
end
end Go.Proofs.YtfnehkmhcmkhjaaGreat
