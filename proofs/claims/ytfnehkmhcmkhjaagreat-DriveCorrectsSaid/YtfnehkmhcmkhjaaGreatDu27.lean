/- Parts -/
import Derived.Test.YtfnehkmhcmkhjaaGreatDu24
import Derived.Sort.OwnSortedInts
import Derived.Laws.IdiomRangeMap
set_option maxRecDepth 100000
set_option maxHeartbeats 8000000
set_option linter.unusedVariables false
namespace Go.Proofs.YtfnehkmhcmkhjaaGreat
open Tryz
namespace wu
open Go.RowKit Go.Maps C9 Go.Sort Go.Shelf
open W8 (is)
theorem akl(v:Value)(M:List Int)(w:World)(b n:Nat)(ho:w.ownsRow b 3 1 v n (is M))(hn:M.length=n)(hl:n<=1000000):
 Calls prog 193 #[v] w λe w'=>e=.returned (.tuple #[])/\w'.ownsRow b 3 1 v n (is (M.mergeSort λx y=>decide (x<=y)))/\w.grownBy w' v.ownBlock:=by
 subst hn;rcases ho.2 with ⟨rfl,h0⟩|⟨g,cap,cur,rfl,hg,hb,h1,h2,h3,h4⟩
 ·have e:M = []:=XR.1 h0;subst e;refine(slices_Sort_int_none none 0 w).mono ?_;rintro e w' ⟨rfl,rfl⟩;exact⟨rfl,by simpa using ho,rfl,rfl,rfl,zl _,λ_ _ _=>rfl⟩
 ·have ht:cur.toList.take M.length=M.map (Value.int .i64):=by rw[Yy]at h4;exact h4
  refine(slices_Sort_int g 0 cap M w (holds_of_blockI hb ht) (Yd.1 hb).1 (by omega)).mono ?_;rintro e w' ⟨rfl,k,os,rfl⟩;exact⟨rfl,ownsRow_sortedI (ss:=M) (List.length_mergeSort M) hg hb h1 h2 h3,grownBy_sortedI _⟩
theorem TZ(w:World):grow w #[]=w:=by cases w;simp[grow]
theorem OZ(M:List Int):(Lib.compact M).length<=M.length:=by unfold Lib.compact Lib.compactUpTo;rw[YQ];exact zT (YN _ _) (by simp)
theorem ZL(v:Value)(M:List Int)(w:World)(b n:Nat)(ho:w.ownsRow b 3 1 v n (is M))(hn:M.length=n)(hl:n<=1000000):
 Calls prog 194 #[v] w λe w'=>∃v',e=.returned v'/\w'.ownsRow b 3 1 v' (Lib.compact M).length (is (Lib.compact M))/\w.grownBy w' v.ownBlock:=by
 subst hn;rcases ho.2 with ⟨rfl,h0⟩|⟨g,cap,cur,rfl,hg,hb,h1,h2,h3,h4⟩
 ·have e:M = []:=XR.1 h0;subst e;refine(slices_Compact_int_empty none 0 w).mono ?_;rintro e w' ⟨rfl,rfl⟩;exact⟨_,rfl,ho,World.grownBy.refl _ _⟩
 ·have ht:cur.toList.take M.length=M.map (Value.int .i64):=by rw[Yy]at h4;exact h4
  refine(slices_Compact_int g 0 cap M w (holds_of_blockI hb ht) (by omega) h1).mono ?_;rintro e w' ⟨rfl,q,rfl⟩;have hc:=OZ M;have e1:∀d:Array Int,putRow (Value.int .i64) (Sort.ahead w q) g 0 d=grow (putRow (Value.int .i64) (Sort.ahead w q) g 0 d) #[]:=λd=>(TZ _).symm
  rw[e1];refine⟨_,rfl,?_,grownBy_sortedI _⟩;generalize hts:Lib.compact M++List.replicate (M.length-(Lib.compact M).length) 0=ts;have hl2:ts.length=M.length:=by rw[<-hts];simp;omega
  have h5:=ownsRow_sortedI (n:=q) (os:=#[]) (ss:=M) (ts:=ts) hl2 hg hb h1 h2 h3;rcases h5.2 with ⟨h6,_⟩|⟨g2,cap2,ajh,hv,hg2,hb2,k1,k2,k3,k4⟩
  ·cases h6
  ·simp only[YT,YA,Addr.mk.injEq]at hv;obtain⟨⟨rfl,_⟩,_,rfl⟩:=hv;refine⟨by simp[is],.inr ⟨g,cap,ajh,rfl,hg,hb2,zT hc h1,h2,k3,?_⟩⟩;rw[Yy]at k4 ⊢;have:ajh.toList.take (Lib.compact M).length=(ajh.toList.take M.length).take (Lib.compact M).length:=by rw[List.take_take,XU hc]
   rw[this,k4,<-hts,List.map_append,List.take_left' (by simp)];rfl
theorem La{M:List Int}(h:M.Pairwise (·<=·)):(Lib.compact M).Pairwise (· < ·)/\∀x,x∈Lib.compact M↔x∈M:=by
 have hle:∀i j,i<=j->j<M.length->M.toArray[i]!<=M.toArray[j]!:=λi j hij hj=>by
  have hi:i<M.length:=by omega
  rw[getElem!_pos _ _ (by simpa using hi),getElem!_pos _ _ (by simpa using hj)];simp only[List.getElem_toArray];by_cases e:i=j
  ·subst e;exact Int.le_refl _
  ·exact Vd.1 h i j hi hj (by omega)
 have hk:∀j,Lib.keeps M.toArray j=true->j=0\/M.toArray[j]!≠M.toArray[j-1]!:=λj hj=>by unfold Lib.keeps at hj;exact YU hj
 constructor
 ·unfold Lib.compact Lib.compactUpTo;rw[XH,List.pairwise_filter];refine List.pairwise_lt_range.imp_of_mem λ{a b} ha hb hab _ kb=>?_
  have hb':=Yx.1 hb;have h1:=hle a (b-1) (by omega) (by omega);have h2:=hle (b-1) b (by omega) hb';rcases hk b kb with h3|h3
  ·omega
  ·omega
 ·intro x;unfold Lib.compact Lib.compactUpTo;simp only[YW,YI,Yx];constructor
  ·rintro⟨j,⟨hj,_⟩,rfl⟩;rw[getElem!_pos _ _ (by simpa using hj)];simp
  ·intro hx;obtain⟨j,hj,rfl⟩:=YL hx;have key:∀j,j<M.length->∃i,(i<M.length/\Lib.keeps M.toArray i=true)/\M.toArray[i]! = M.toArray[j]!:=by
    intro j
    induction j with
    |zero=>exact λhj=>⟨0,⟨hj,Lib.keeps_lt_one _ 0 (by omega)⟩,rfl⟩
    | succ j ih=>
      intro hj;by_cases e:M.toArray[j+1]! = M.toArray[j]!
      ·obtain⟨i,h1,h2⟩:=ih (by omega);exact⟨i,h1,h2.trans e.symm⟩
      ·exact⟨j+1,⟨hj,Lib.keeps_pos e⟩,rfl⟩
   obtain⟨i,h1,h2⟩:=key j hj;refine⟨i,h1,h2.trans ?_⟩;rw[getElem!_pos _ _ (by simpa using hj)];simp
theorem keys12(mb:Option Nat)(W:World):Calls prog 192 #[.map mb] W λe w'=>e=.returned (.func (.func 260) #[] #[.pointer (some ⟨W.heap.size,0,none⟩)])/\w'=W.alloc (.cells #[.map mb] 76):=
 (callsIn_wide (n:=5)).1 (AnyZI.keys_in keysA Fence.wide 5 trivial rfl mb W)
def amZ(f:Nat->Bool)(w:World)(e:Ending)(w':World):Prop:=∃v ss,e=.returned v/\(∀x:Int,x∈ss↔0<=x/\f x.toNat=true)/\ss.length<=2352/\w'.ownsRow w.heap.size 3 1 v ss.length (is ss)/\Below w.heap.size w w'
theorem ZK{W:World}{g:Nat}{mb:Option Nat}{f:Nat->Bool}(hb:Bx W g 76 [.map mb])(hm:Kz W mb f)(hfb:∀k,f k=true->k<2352):
 Calls prog 191 #[.func (.func 260) #[] #[.pointer (some ⟨g,0,none⟩)]] W (amZ f W):=by
 cases mb with
 | none=>
   have hseq:SeqGives Fence.wide 3 prog 260 #[.pointer (some ⟨g,0,none⟩)] encZ (λss=>ss = []) 0 W:=
    AnyZI.keys_gives_nil (ρ:=keysA_ren) {keysA with} Fence.wide 3 trivial rfl g W hb.lt (hb.cell (i:=0) rfl)
   have cS:=AnyZI.collect_in collectA Fence.wide 5 trivial trivial rfl (by omega) 260 #[.pointer (some ⟨g,0,none⟩)] trivial (enters_of func260 (by kernel_rfl) rfl) _ _ (by unfold maxLen;omega) (by omega) W hseq;change CallsIn _ _ prog 191 _ _ _ at cS;refine((callsIn_wide (n:=5)).1 cS).mono ?_;rintro e w' ⟨v,ss,rfl,rfl,hrow,_,hb⟩;refine⟨v,[],rfl,λx=>?_,by simp,hrow,hb⟩;have:=hm x.toNat;simp[this]
 | some b=>
   obtain⟨D,hown,hf⟩:=hm;have hsz:=hown.size_le;have hseq:SeqGives Fence.wide 3 prog 260 #[.pointer (some ⟨g,0,none⟩)] encZ (λss=>ss.Perm (intKeys D)) (Maps.size D) W:=
    AnyZI.keys_gives (ρ:=keysA_ren) {keysA with} Fence.wide 3 trivial rfl (by omega) g b 2352 D W hb.lt (hb.cell (i:=0) rfl) hown
   have cS:=AnyZI.collect_in collectA Fence.wide 5 trivial trivial rfl (by omega) 260 #[.pointer (some ⟨g,0,none⟩)] trivial (enters_of func260 (by kernel_rfl) rfl) _ _ (by unfold maxLen;omega) (by omega) W hseq;change CallsIn _ _ prog 191 _ _ _ at cS;refine((callsIn_wide (n:=5)).1 cS).mono ?_;rintro e w' ⟨v,ss,rfl,hS,hrow,_,hb⟩;have hkl:(intKeys D).length<=2352:=by
    obtain⟨es,hD,_,_⟩:=hown.entries jC;subst hD;have e:(intKeys (DataW.map es)).length=Maps.size (DataW.map es):=by simp[intKeys,Maps.size]
    omega
   refine⟨v,ss,rfl,λx=>?_,by rw[hS.length_eq];exact hkl,hrow,hb⟩;rw[hS.mem_iff];have h1:x∈intKeys D↔Maps.has D (.int .i64 x)=true:=by
    have hbd:∀x:Int,Maps.has D (.int .i64 x)=true->0<=x/\x<2352:=λx hx=>by rw[hf x,Yt,Yj]at hx;have:=hfb _ hx.2;omega
    have hp:=Mp.FN hown (K:=Mp.keysB D 2352) ((Mp.yC D 2352).imp λh e=>by omega) (Mp.Ak hbd);rw[<-hp.mem_iff,Mp.Ak hbd]
   rw[h1,hf x];simp
end wu
namespace wu
open Go.RowKit Go.Maps C9
open W8 (is)
theorem agW{w:World}{b:Option Nat}{n:Nat}{scr:List Sc}(h:LoM w b n scr)(hn:n<=4096){i:Nat}(hi:i<n):
 ∃v,lu w v (fE n scr i)/\∀W:World,Below w.heap.size w W->(Instr.lookup 164 (.map b) (.int .i64 (i:Nat)) false).run prog W=.ok v W:=by
 have hkey:=keyOf_int_mk underlying3 (Zi (show i<5000 by omega));cases b with
 | none=>
   have h0:fE n scr i = []:=h i hi;refine⟨.slice none 0 0,?_,λW _=>?_⟩
   ·rw[h0];exact⟨by simp,⟨none,0,0,0,rfl,zl _,λj hj=>by simp at hj⟩,λj hj=>by simp at hj⟩
   ·exact Maps.look_nil false jC underlying164 (xw W) hkey
 | some b=>
   obtain⟨N,hN,D,hown,hat⟩:=h;obtain⟨v,h1,h2⟩:=hat i hi;refine⟨v,h2,λW hW=>?_⟩;have h3:W.ownsMap prog 3 Mp.CO b N D:=by have hl:=hown.lt;obtain⟨es,clock,hb',F,hs,hD⟩:=hown;exact⟨es,clock,(hW.block b hl).trans hb',F,hs,hD⟩
   obtain⟨v2,ps,hrun,LP⟩:=h3.lookup jC underlying164 (xw W) (zd:=.held (.slice none 0 0)) (zp:=[]) rfl hkey;simp only[Mp.CO,YA,XX]at LP;rw[h1]at LP;have:v2=v:=by simpa using LP.1
   rw[hrun,this]
theorem Ju(n:Nat)(scr:List Sc)(i:Nat):(fE n scr i).length<=2352:=by unfold fE;rw[YQ];exact zT (YN _ _) (by simp)
def aiE(f:Nat->Bool)(ss:List Int):Prop:=(∀x:Int,x∈ss↔0<=x/\f x.toNat=true)/\ss.length<=2352
def Zm(w0:World)(mb:Option Nat)(f:Nat->Bool)(lo:List Int)(r:Nat)(vc va vr:Value)(W:World):Prop:=
 Below w0.heap.size w0 W/\match r with
  |0=>W.heap.size=w0.heap.size
  |1=>Bx W w0.heap.size 76 [.map mb]
  |2=>∃ss,aiE f ss/\W.ownsRow w0.heap.size 3 1 vc ss.length (is ss)
  |3=>∃ss,aiE f ss/\W.ownsRow w0.heap.size 3 1 va (ss.length+lo.length) (is (ss++lo))
  |_=>∃ss,aiE f ss/\W.ownsRow w0.heap.size 3 1 vr (ss.length+lo.length) (is (ss++lo))
def age(g gs n cap k hz:Nat)(mb lb:Option Nat)(vlo:Value)(i:Nat)(v:Value)(W:World):Prop:=match i with
 |0=>v=.pointer (some ⟨g,0,none⟩)
 |1=>v=.pointer (some ⟨g,0,none⟩)
 |2=>v=.pointer (some ⟨g,2,none⟩)
 |3=>v=.slice (some ⟨gs,0,none⟩) n cap
 |4=>v=.int .i64 (k:Nat)
 |5=>v=.pointer (some ⟨gs,k*5,none⟩)
 |6=>v=.pointer (some ⟨gs,k*5+3,none⟩)
 |7=>v=.map mb
 |8=>v=.func (.func 260) #[] #[.pointer (some ⟨hz,0,none⟩)]
 |9=>True
 |10=>v=.pointer (some ⟨g,0,none⟩)
 |11=>v=.pointer (some ⟨g,0,none⟩)
 |12=>v=.pointer (some ⟨g,4,none⟩)
 |13=>v=.map lb
 |14=>v=.int .i64 (k:Nat)
 |15=>v=vlo
 |16=>True
 |17=>True
 |_=>True
def aik:Nat->Option Nat
 |8=>some 0
 |9=>some 1
 |16=>some 2
 |17=>some 3
 |_=>none
theorem Z5(g gs n cap k hz:Nat)(mb lb:Option Nat)(vlo:Value)(i r:Nat)(v:Value)(W W':World)(hk:∀k,aik i=some k->k<r)(hR:(abY) r W W')(h:age g gs n cap k hz mb lb vlo i v W):age g gs n cap k hz mb lb vlo i v W':=by unfold age at h ⊢;split at h <;> first|exact h
theorem tJ{w:World}{g:Nat}{M:aA}{X R:Nat->Prop}{N:Nat}(h:fF w g M X R)(ho:M.Ok N){k:Nat}(hk:k<M.n):
 Calls prog 107 #[.pointer (some ⟨g,0,none⟩),.int .i64 (k:Nat)] w λe w'=>∃v,e=.returned v/\w'.ownsRow w.heap.size 3 1 v (M.gone k).length (is (M.gone k))/\Below w.heap.size w w':=by
 obtain⟨L,hc⟩:=h;obtain⟨vlo,amm,hlook⟩:=agW (hc.lost w λ_ _=>rfl) ho.n.2 hk;have vJ:k<L.S.length:=by rw[hc.n];exact hk
 have hm:Kz w (aJ dD L.S k).e (M.sec k).er:=by have:=hc.maps k true vJ;unfold SM.W at this;rwa[zj rfl,hc.at_]at this
 have hfb:=(ho.sec k hk).er;have hn:=ho.n.2;obtain⟨n,hnn⟩:∃n,n=M.n:=⟨_,rfl⟩;have hkn:k<n:=by rw[hnn];exact hk
 have VC:Hid (∀W:World,Below w.heap.size w W->W.cell? ⟨g,2,none⟩=some (.slice (some ⟨L.gs,0,none⟩) n L.cap)/\W.cell? ⟨g,4,none⟩=some (.map L.lo)/\W.cell? ⟨L.gs,k*5+3,none⟩=some (.map (aJ dD L.S k).e)):=zH λW hW=>by have h1:=hc.below hW;obtain⟨c0,c1,c2,c3,c4⟩:=h1.cells;rw[h1.n,<-hnn]at c2;exact⟨c2,c4,h1.fG vJ (j:=3) (by decide)⟩
 have HLK:=zH hlook;have HM:=zH hm;have HFB:=zH hfb;have HVL:=zH amm;generalize L.gs=gs at *;generalize L.cap=cap at *;generalize L.lo=lb at *;generalize (aJ dD L.S k).e=mb at *;have HIX:=zH λw':World=>aB (P:=prog) underlying163 (by kernel_rfl:(prog.info? 175).map (·.size)=some 5) (a:=some ⟨gs,0,none⟩) (n:=n) (cap:=cap) (k:=k) (b:=gs) (off:=0) rfl hkn (k:Int) rfl w'
 simp only[Yf]at HIX;clear hc ho hlook hm hfb amm hnn;go_enter func107,ntmps107;go_upto_region 1 with (fail)
 obtain⟨hz,hhz⟩:∃hz,hz=w.heap.size:=⟨_,rfl⟩;have HHZ:=zH hhz;clear hhz;refine Gz (by kernel_rfl) (abY) (λr a W=>Zm w mb (M.sec k).er (fE M.n M.scr k) r (a.tmps.getD 15 undef) (a.tmps.getD 22 undef) (a.tmps.getD 5 undef) W) (age g gs n cap k hz mb lb vlo) (λ_=>false) aik 4 (by kernel_rfl) (by kernel_rfl) (.inl (by kernel_rfl)) (agQ 15 22 5 (by kernel_rfl) (by kernel_rfl) (by kernel_rfl) (Zm w mb (M.sec k).er (fE M.n M.scr k))) (Z5 g gs n cap k hz mb lb vlo) (⟨(zB _ _).drew,rfl⟩) ⟨?_,?_,?_,?s3,?_,?s5,?_,?s7,?s8,?s9,?_,?_,?_,?s13,?_,?s15,?s16,?s17,trivial⟩ ?_;all_goals first
  | (intro r a W hc hsz hold ah hnot hlo hhi hrk
     have o0:a.tmps.getD 0 undef=.pointer (some ⟨g,0,none⟩):=hold 0 (by kernel_rfl);have o1:a.tmps.getD 1 undef=.int .i64 (k:Nat):=hold 1 (by kernel_rfl);try have d0:=zV 6 (.pointer (some ⟨g,0,none⟩)) (ah 0 rfl rfl _ rfl)
     try have d1:=zV 7 (.pointer (some ⟨g,0,none⟩)) (ah 1 rfl rfl _ rfl)
     try have d5:=zV 11 (.pointer (some ⟨gs,k*5,none⟩)) (ah 5 rfl rfl _ rfl)
     try have d10:=zV 16 (.pointer (some ⟨g,0,none⟩)) (ah 10 rfl rfl _ rfl)
     try have d11:=zV 17 (.pointer (some ⟨g,0,none⟩)) (ah 11 rfl rfl _ rfl)
     clear hsz hold ah hnot hlo hhi hrk;refine ai rfl (ag rfl) ?_;refine mY (eP _ _ _) rfl λK hK=>?_
     go_simp;exact hK)
  |skip
 try case s3=>
  intro r a W hc hsz hold ah hnot hlo hhi hrk;have d2:=zV 8 (.pointer (some ⟨g,2,none⟩)) (ah 2 rfl rfl _ rfl);have q:=(VC.out W hc.1).1;clear hsz hold ah hnot hlo hhi hrk;refine ai rfl (ag rfl) ?_;refine mY (v:=.slice (some ⟨gs,0,none⟩) n cap) (eP _ _ _) rfl λK hK=>?_
  go_simp;exact hK
 try case s5=>
  intro r a W hc hsz hold ah hnot hlo hhi hrk;have d3:=zV 9 (.slice (some ⟨gs,0,none⟩) n cap) (ah 3 rfl rfl _ rfl);have d4:=zV 10 (.int .i64 (k:Nat)) (ah 4 rfl rfl _ rfl);have q:=HIX.out W;clear hsz hold ah hnot hlo hhi hrk;refine ai rfl (ag rfl) ?_;refine mY (v:=.pointer (some ⟨gs,k*5,none⟩)) (eP _ _ _) rfl λK hK=>?_
  go_simp;exact hK
 try case s7=>
  intro r a W hc hsz hold ah hnot hlo hhi hrk;have d6:=zV 12 (.pointer (some ⟨gs,k*5+3,none⟩)) (ah 6 rfl rfl _ rfl);have q:=(VC.out W hc.1).2.2;clear hsz hold ah hnot hlo hhi hrk;refine ai rfl (ag rfl) ?_;refine mY (v:=.map mb) (eP _ _ _) rfl λK hK=>?_
  go_simp;exact hK
 try case s8=>
  intro r a W hc hsz hold ah hnot hlo hhi hrk;have hr:=hrk 0 rfl;subst hr;have d7:=zV 13 (.map mb) (ah 7 rfl rfl _ rfl);have e7:=zq d7;have hs:14<a.tmps.size:=by rw[hsz];exact(by decide:14<27)
  clear hsz hold ah hnot hlo hhi hrk;refine ai rfl (ag rfl) ?_;have e13:a.eval (.tmp 13)=.map mb:=d7;obtain⟨hbw,hz0⟩:=hc;refine uZ (C:=λa W=>Zm w mb (M.sec k).er (fE M.n M.scr k) 1 (a.tmps.getD 15 undef) (a.tmps.getD 22 undef) (a.tmps.getD 5 undef) W) λK hK=>?_
  go_simp;refine(keys12 mb W).mono ?_;rintro e w' ⟨rfl,rfl⟩;refine hK _ _ (eP _ _ _) ⟨hbw.trans ((zB _ _).alloc hbw.size _),?_⟩ ?_
  ·show Bx _ w.heap.size _ _;have:=Bx.new W 76 [.map mb];rwa[hz0]at this
  ·show _=_;rw[HHZ.out,<-hz0];rfl
 try case s9=>
  intro r a W hc hsz hold ah hnot hlo hhi hrk;have hr:=hrk 1 rfl;subst hr;have d8:=zV 14 (.func (.func 260) #[] #[.pointer (some ⟨hz,0,none⟩)]) (ah 8 rfl rfl _ rfl);have e8:=zq d8;have hs:15<a.tmps.size:=by rw[hsz];exact(by decide:15<27)
  clear hsz hold ah hnot hlo hhi hrk;refine ai rfl (ag rfl) ?_;obtain⟨hbw,hbx⟩:=hc;have hbx:Bx W w.heap.size 76 [.map mb]:=hbx;have alU:=ZK hbx (Kz.kept HM.out λc hcb=>hbw.block c (by
   have hm:=HM.out;rw[hcb]at hm;obtain⟨es,clock,hb⟩:=hm.map;exact(Yd.1 hb).1)) HFB.out
  rw[<-HHZ.out]at alU;refine uZ (C:=λa W=>Zm w mb (M.sec k).er (fE M.n M.scr k) 2 (a.tmps.getD 15 undef) (a.tmps.getD 22 undef) (a.tmps.getD 5 undef) W) λK hK=>?_
  go_simp;refine alU.mono ?_;rintro e w' ⟨v,ss,rfl,h1,h2,h3,h4⟩;refine hK _ _ (eP _ _ _) ⟨hbw.trans (h4.mono hbw.size),ss,⟨h1,h2⟩,?_⟩ trivial;rw[lg hs];exact iQ h3 hbw.size
 try case s13=>
  intro r a W hc hsz hold ah hnot hlo hhi hrk;have d12:=zV 18 (.pointer (some ⟨g,4,none⟩)) (ah 12 rfl rfl _ rfl);have q:=(VC.out W hc.1).2.1;clear hsz hold ah hnot hlo hhi hrk;refine ai rfl (ag rfl) ?_;refine mY (v:=.map lb) (eP _ _ _) rfl λK hK=>?_
  go_simp;exact hK
 try case s15=>
  intro r a W hc hsz hold ah hnot hlo hhi hrk;have d13:=zV 19 (.map lb) (ah 13 rfl rfl _ rfl);have d14:=zV 20 (.int .i64 (k:Nat)) (ah 14 rfl rfl _ rfl);have q:=HLK.out W hc.1;clear hsz hold ah hnot hlo hhi hrk;refine ai rfl (ag rfl) ?_;refine mY (v:=vlo) (eP _ _ _) rfl λK hK=>?_
  go_simp;exact hK
 try case s16=>
  intro r a W hc hsz hold ah hnot hlo hhi hrk;have hr:=hrk 2 rfl;subst hr;have x9:=ah 9 rfl rfl _ rfl;have d15:=zV 21 vlo (ah 15 rfl rfl _ rfl);have e15:=zq d15;have hs:22<a.tmps.size:=by rw[hsz];exact(by decide:22<27)
  clear hsz hold ah hnot hlo hhi hrk;refine ai rfl (ag rfl) ?_;obtain⟨hbw,ss,hss,hown⟩:=hc;have e22:a.eval (.tmp 21)=vlo:=d15;obtain⟨i0,hi,hz0,hz1,hz2⟩:=info_parts infoInt9;refine uZ (C:=λa W=>Zm w mb (M.sec k).er (fE M.n M.scr k) 3 (a.tmps.getD 15 undef) (a.tmps.getD 22 undef) (a.tmps.getD 5 undef) W) λK hK=>?_
  have hl:=hss.2;have hll:=Ju M.n M.scr k;refine ad3 (.tmp 15) (.tmp 21) rfl underlying31 hi hz0 hz1 hz2 rfl (by omega) hown rfl (W8.lu.reads (HVL.out.keep hbw)) e22 (W8.adv _) (by unfold maxLen;omega) (by omega) hbw.size λv' w' h1 h2=>?_
  refine hK _ _ (eP _ _ _) ⟨hbw.grown h2 hbw.size (bH hown),ss,hss,?_⟩ trivial;rw[lg hs,W8.uP];exact h1
 try case s17=>
  intro r a W hc hsz hold ah hnot hlo hhi hrk;have hr:=hrk 3 rfl;subst hr;have x16:=ah 16 rfl rfl _ rfl;have hs:5<a.tmps.size:=by rw[hsz];exact(by decide:5<27)
  clear hsz hold ah hnot hlo hhi hrk;refine ai rfl (ag rfl) ?_;obtain⟨hbw,ss,hss,hown⟩:=hc;refine uZ (C:=λa W=>Zm w mb (M.sec k).er (fE M.n M.scr k) 4 (a.tmps.getD 15 undef) (a.tmps.getD 22 undef) (a.tmps.getD 5 undef) W) λK hK=>?_
  go_simp;refine hK _ _ (eP _ _ _) ⟨hbw,ss,hss,?_⟩ trivial;rw[lg hs,<-Array.getD_eq_getD_getElem?];exact hown
 ·intro a W hC hd hsz hold hval;obtain⟨hbw,ss,hss,hown⟩:=hC;obtain⟨u5,hu5⟩:∃u5,u5=a.tmps.getD 5 undef:=⟨_,rfl⟩;rw[<-hu5]at hown;clear hval;have d5:a.tmps.getD 5 undef=u5:=hu5.symm;obtain⟨G,hG,ha⟩:=dK [5,6,7,8,9,10,11,12,13,14,15,16,17,18,19,20,21,22] (by kernel_rfl) hd hsz hold;simp only[hG]at d5;rw[ha];clear ha hG hd hsz hold;simp only[cZ,Ym,List.set,d5];clear d5;have hll:=Ju M.n M.scr k;have hsl:=hss.2;have HSS:=zH hss;clear hss;have G9:=zH (akl _ _ W w.heap.size _ hown (by rw[Yb]) (by omega));have G7:=zH (bH hown);have HBW:=zH hbw;have HSL:=zH hsl;have HLL:=zH hll;clear hown hbw VC HLK HIX hu5 hsl hll;go_wp2_with fail;refine G9.out.mono ?_;rintro e w2 ⟨rfl,ho2,hg2⟩;have hb2:=HBW.out.grown hg2 HBW.out.size G7.out;have HB2:=zH hb2;have anE:=zH (bH ho2);have HC2:=zH (ZL _ _ w2 w.heap.size _ ho2 (by rw[List.length_mergeSort,Yb]) (by have:=HSL.out;have:=HLL.out;omega));clear ho2 hg2 hb2;go_wp2_with fail;refine HC2.out.mono ?_;rintro e w3 ⟨v3,rfl,ho3,hg3⟩;have HB3:=zH (HB2.out.grown hg3 HB2.out.size anE.out);have hsp:=La (M:=(ss++fE M.n M.scr k).mergeSort λx y=>decide (x<=y)) (by
   have:=List.pairwise_mergeSort (le:=λx y:Int=>decide (x<=y)) (λa b c h1 h2=>by simp only[Yj]at *;omega) (λa b=>by simp only[Xq,Yj];omega) (ss++fE M.n M.scr k);exact this.imp λh=>YU h)
  have hgo:Lib.compact ((ss++fE M.n M.scr k).mergeSort λx y=>decide (x<=y))=M.gone k:=by
   refine AU hsp.1 (Bq M k) λz=>?_
   rw[hsp.2,(List.mergeSort_perm _ _).mem_iff,YX,HSS.out.1,uj];unfold fE;simp only[YW,YI,Yx];unfold aA.tY;constructor
   ·rintro(⟨h1,h2⟩|⟨j,⟨h1,h2⟩,rfl⟩)
    ·exact⟨z.toNat,HFB.out _ h2,by rw[h2];rfl,by omega⟩
    ·exact⟨j,h1,by rw[h2,Bool.or_true],rfl⟩
   ·rintro⟨j,h1,h2,rfl⟩;rw[Xq]at h2;rcases h2 with h2|h2
    ·exact .inl ⟨by omega,by simpa using h2⟩
    ·exact .inr ⟨j,⟨h1,h2⟩,rfl⟩
  rw[hgo]at ho3;have HO3:=zH ho3;clear ho3 hg3 hsp hgo;go_wp2_with fail;go_ret;exact⟨_,rfl,HO3.out,HB3.out⟩
def CV(raw:List UInt8)(ch:Nat->UInt8)(left:Lit->Bool):List UInt8:=(List.range 2352).map λk=>if left (.int .i64 (k:Nat))=true then lC raw k else lC raw k^^^ch k
def IW(raw:List UInt8)(ch:Nat->UInt8):List UInt8:=(List.range 2352).map λk=>lC raw k^^^ch k
def GN(b:List UInt8)(G:List Int):List UInt8:=(List.range 2352).map λk=>if ((k:Nat):Int)∈G then 0 else lC b k
theorem GI(raw:List UInt8)(ch:Nat->UInt8)(left:Lit->Bool):(CV raw ch left).length=2352:=by simp[CV]
theorem afi(raw:List UInt8)(ch:Nat->UInt8):(IW raw ch).length=2352:=by simp[IW]
theorem GU(b:List UInt8)(G:List Int):(GN b G).length=2352:=by simp[GN]
theorem UA{f:Nat->UInt8}{k:Nat}(h:k<2352):G.ix ((List.range 2352).map f) k=f k:=by unfold G.ix;rw[Ya,Xp,XJ h];rfl
theorem map_set{f g:Nat->UInt8}{k:Nat}{c:UInt8}(hk:g k=c)(ho:∀j,j≠k->g j=f j):((List.range 2352).map f).set k c=(List.range 2352).map g:=by
 apply YS;intro j;rw[YP];by_cases e:k=j
 ·subst e;rw[zj rfl];by_cases hj:k<2352
  ·simp[hj,hk]
  ·simp[hj]
 ·rw[zi e,Xp,Xp];by_cases hj:j<2352
  ·rw[XJ hj,Option.map_some,Option.map_some,ho j (λh=>e h.symm)]
  ·rw[Yh (by simpa using hj)];rfl
theorem ah6{raw:List UInt8}{ch:Nat->UInt8}{left:Lit->Bool}{k:Nat}(hk:k<2352)(h:left (.int .i64 (k:Nat))=true):G.ix (CV raw ch left) k=lC raw k:=by unfold CV;rw[UA hk,zj h]
theorem abM{raw:List UInt8}{ch:Nat->UInt8}{left:Lit->Bool}{k:Nat}(h:left (.int .i64 (k:Nat))=true):(CV raw ch left).set k (lC raw k^^^ch k)=CV raw ch (λz=>left z && !z.sameKey (.int .i64 (k:Nat))):=by
 unfold CV;refine map_set ?_ λj hj=>?_
 ·simp[Lit.sameKey]
 ·have:¬ ((j:Nat):Int)=(k:Nat):=by omega
  simp[Lit.sameKey,this]
theorem afj{raw:List UInt8}{ch:Nat->UInt8}{left:Lit->Bool}(h:∀kl,left kl=false):CV raw ch left=IW raw ch:=by unfold CV IW;exact Xo λk _=>by rw[h,zi (by decide)]
theorem VB{raw:List UInt8}{ch:Nat->UInt8}{D:DataW Unit}(hr:raw.length=2352)(hf:∀k:Nat,k<2352->D.atKey (.int .i64 k) (.lit (.int .u8 0))=.lit (.int .u8 (ch k).toNat)):raw=CV raw ch (Maps.has D):=by
 unfold CV;apply YS;intro k;by_cases hk:k<2352
 ·rw[Xp,XJ hk,Option.map_some,Ye (by omega)];have e:lC raw k=raw[k]'(by omega):=by unfold lC aJ;rw[Ye (by omega)];rfl
  cases hh:Maps.has D (.int .i64 (k:Nat)) with
  |true=>rw[zj rfl,e]
  | false=>
    have h1:=hf k hk;rw[Maps.atKey_of_not_has hh]at h1;have h2:(ch k).toNat=0:=by simp at h1;omega
    have h3:ch k=0:=UInt8.toNat_inj.1 h2;rw[zi (by decide),h3,e];simp
 ·rw[Yh (by omega),Yh (by simpa using hk)]
theorem abN{b:List UInt8}{G:List Int}{x:Nat}:(GN b G).set x 0=GN b (G++[(x:Int)]):=by
 unfold GN;refine map_set ?_ λj hj=>?_
 ·simp
 ·have:¬ ((j:Nat):Int)=(x:Nat):=by omega
  simp[this]
theorem RD{b:List UInt8}(h:b.length=2352):b=GN b []:=by
 unfold GN;apply YS;intro k;by_cases hk:k<2352
 ·rw[Xp,XJ hk,Option.map_some,Ye (by omega)];simp[lC,aJ,show k<b.length by omega]
 ·rw[Yh (by omega),Yh (by simpa using hk)]
theorem afl(M:aA)(i:Nat):GN (IW (M.sec i).raw (M.sec i).ch) (M.gone i)=M.out i:=by
 unfold GN aA.out;refine Xo λk hk=>?_
 have hk':=Yx.1 hk;have e:lC (IW (M.sec i).raw (M.sec i).ch) k=lC (M.sec i).raw k^^^(M.sec i).ch k:=by have:=UA (f:=λk=>lC (M.sec i).raw k^^^(M.sec i).ch k) hk';exact this
 rw[e];by_cases h:M.tY i k=true
 ·rw[zj h,zj ((uj M i _).2 ⟨k,hk',h,rfl⟩)]
 ·rw[zi h,zi λh2=>by
   obtain⟨j,_,h3,h4⟩:=(uj M i _).1 h2;have:k=j:=by omega
   exact h (this ▸ h3)]
def xI(R:List UInt8×List Int×Int)(w:World)(e:Ending)(w':World):Prop:=∃v,e=.returned (.tuple #[.string (str R.1),v,.int .i64 R.2.2])/\w'.ownsRow w.heap.size 3 1 v R.2.1.length (is R.2.1)/\Below w.heap.size w w'
theorem xI.bad(c:Int){w w':World}{e:Ending}(he:e=.returned (.tuple #[.string (str []),.slice none 0 0,.int .i64 c]))(hb:Below w.heap.size w w'):xI ([],[],c) w e w':=⟨_,he,⟨rfl,.inl ⟨rfl,rfl⟩⟩,hb⟩
theorem Nj{w:World}{g:Nat}{M:aA}{X R:Nat->Prop}{N:Nat}(h:fF w g M X R)(ho:M.Ok N)(a:Int)(hr:¬ (0<=a/\a<(M.n:Int))):
 Calls prog 50 #[.pointer (some ⟨g,0,none⟩),.int .i64 a] w (xI ([],[],2) w):=by
 obtain⟨L,hc⟩:=h;have HH:=zH (su hc ho.n.2 a);rw[zf hr]at HH;clear hc ho hr;go_enter func50,ntmps50;go_wp2_with fail;refine HH.out.mono ?_;rintro e w' ⟨rfl,rfl⟩;go_wp2_with fail
 go_ret3
 exact .bad 2 rfl (zB _ _)
theorem UZ{w:World}{g:Nat}{M:aA}{X R:Nat->Prop}{N:Nat}(h:fF w g M X R)(ho:M.Ok N){k:Nat}(hk:k<M.n)(h1:(M.sec k).st≠1):
 Calls prog 50 #[.pointer (some ⟨g,0,none⟩),.int .i64 (k:Nat)] w (xI ([],[],if (M.sec k).st=0 then 8 else 9) w):=by
 obtain⟨L,hc⟩:=h;have HH:=zH (su hc ho.n.2 (k:Int));rw[zt (show 0<=(k:Int)/\(k:Int)<(M.n:Int) by omega)]at HH;obtain⟨c0,c1,c2,c3,c4⟩:=hc.cells;rw[hc.n]at c2;have vJ:k<L.S.length:=by rw[hc.n];exact hk
 have hst3:=(ho.sec k hk).st;have s0:=hc.fG vJ (j:=0) (by decide);have s1:=hc.fG vJ (j:=1) (by decide);have s2:=hc.fG vJ (j:=2) (by decide);have s3:=hc.fG vJ (j:=3) (by decide);have s4:=hc.fG vJ (j:=4) (by decide);simp only[kU,Yg,Yi,hc.at_,YO]at s0 s1 s2 s3 s4;generalize (aJ dD L.S k).e=mE at *;generalize (aJ dD L.S k).c=mC at *;generalize str (M.sec k).raw=abn at *;clear hc ho c0 c1 c3 c4;generalize M.n=n at *;by_cases h0:(M.sec k).st=0
 ·rw[zj h0];have q0:(((M.sec k).st:Int) == 0)=true:=by rw[h0];rfl
  clear h0;go_enter func50,ntmps50;go_wp2_with fail;refine HH.out.mono ?_;rintro e w' ⟨rfl,rfl⟩;go_wp2_with fail
  go_ret3
  exact .bad 8 rfl ((zB _ _).alloc (zl _) _)
 ·rw[zi h0];have q0:(((M.sec k).st:Int) == 0)=false:=by rw[Yc];omega
  by_cases h2:(M.sec k).st=2
  ·have q2:(((M.sec k).st:Int) == 2)=true:=by rw[h2];rfl
   clear h0 h2;go_enter func50,ntmps50;go_wp2_with fail;refine HH.out.mono ?_;rintro e w' ⟨rfl,rfl⟩;go_wp2_with fail
   go_ret3
   exact .bad 9 rfl ((zB _ _).alloc (zl _) _)
  ·have q2:(((M.sec k).st:Int) == 2)=false:=by rw[Yc];omega
   have q3:(((M.sec k).st:Int) == 3)=true:=by rw[YG];omega
   clear h0 h2;go_enter func50,ntmps50;go_wp2_with fail;refine HH.out.mono ?_;rintro e w' ⟨rfl,rfl⟩;go_wp2_with fail
   go_ret3
   exact .bad 9 rfl ((zB _ _).alloc (zl _) _)
theorem abL{raw:List UInt8}{ch:Nat->UInt8}(hr:raw.length=2352)(h:∀k,ch k=0):IW raw ch=raw:=by
 have e:=RD hr
 conv=>rhs;rw[e]
 unfold IW GN;exact Xo λk _=>by rw[h];simp
theorem sizeU8:(prog.info? 5).map (·.size)=some 1:=by kernel_rfl
theorem aaS{w:World}{g:Nat}{L:Lay}{M:aA}{X R:Nat->Prop}{N:Nat}(h:cu w g L M X R)(ho:M.Ok N){k:Nat}(hk:k<M.n)(h1:(M.sec k).st=1):
 Calls prog 50 #[.pointer (some ⟨g,0,none⟩),.int .i64 (k:Nat)] w (xI (M.out k,M.gone k,0) w):=by
 obtain⟨mC,hch⟩:∃mC,(aJ dD L.S k).c=mC:=⟨_,rfl⟩;have hc:=h;have HM:Hid (fF w g M X R):=zH ⟨L,h⟩;clear h;have HH:=zH (su hc ho.n.2 (k:Int));rw[zt (show 0<=(k:Int)/\(k:Int)<(M.n:Int) by omega)]at HH;obtain⟨c0,c1,c2,c3,c4⟩:=hc.cells;rw[hc.n]at c2;have vJ:k<L.S.length:=by rw[hc.n];exact hk
 have hst3:=(ho.sec k hk).st;have s0:=hc.fG vJ (j:=0) (by decide);have s1:=hc.fG vJ (j:=1) (by decide);have s2:=hc.fG vJ (j:=2) (by decide);have s3:=hc.fG vJ (j:=3) (by decide);have s4:=hc.fG vJ (j:=4) (by decide);simp only[kU,Yg,Yi,hc.at_,YO]at s0 s1 s2 s3 s4;have hcm:DI w (aJ dD L.S k).c (M.sec k).ch:=by have:=hc.maps k false vJ;unfold SM.W at this;rwa[zi (by decide),hc.at_]at this
 have hrl:=(ho.sec k hk).one h1;rw[hch]at s4 hcm;have HO:=zH ho;have q0:(((M.sec k).st:Int) == 0)=false:=by rw[h1];rfl
 have q2:(((M.sec k).st:Int) == 2)=false:=by rw[h1];rfl
 have q3:(((M.sec k).st:Int) == 3)=false:=by rw[h1];rfl
 generalize (aJ dD L.S k).e=mE at *;obtain⟨abn,hsr⟩:∃s,s=str (M.sec k).raw:=⟨_,rfl⟩;have hsz:abn.size=2352:=by rw[hsr,au,hrl]
 have hsd:abn.data.toList=(M.sec k).raw:=by rw[hsr];rfl
 rw[<-hsr]at s2;have HSZ:=zH hsz;have HSD:=zH hsd;have HRL:=zH hrl;have HCM:=zH hcm;clear hc ho c0 c1 c3 c4 h1 hsr hsz hsd hrl hcm hch hst3;obtain⟨n,hMn⟩:∃n,n=M.n:=⟨_,rfl⟩;rw[<-hMn]at c2;have hkn:k<n:=by omega
 have HNN:=zH hMn;clear hMn;go_enter func50,ntmps50;go_wp2_with fail;refine HH.out.mono ?_;rintro e w' ⟨rfl,rfl⟩;go_upto_region 11 with (refine gZ rfl _ rfl underlying9 underlying65 underlying5 rfl ?_;intro w1 cap hr1 hb1 hcap1)
 rw[HSZ.out];rw[HSD.out]at hr1;have hA:=(zB w.heap.size w).alloc (zl _) (.cells #[.int .i64 (M.sec k).st,.int .i64 (M.sec k).cnt,.string abn,.map mE,.map mC] 175);have hsb:=(Bx.new w 175 [.int .i64 (M.sec k).st,.int .i64 (M.sec k).cnt,.string abn,.map mE,.map mC]).call hb1;have d4:=hsb.cell (i:=4) rfl;have hbw:=hA.trans (hb1.mono hA.size);have alY:(w.alloc (.cells #[.int .i64 (M.sec k).st,.int .i64 (M.sec k).cnt,.string abn,.map mE,.map mC] 175)).heap.size=w.heap.size+1:=by simp
 rw[alY]at hr1;obtain⟨g1,hg1⟩:∃g1,g1=w.heap.size+1:=⟨_,rfl⟩;rw[<-hg1]at hr1 ⊢;have HG1:Hid (w.heap.size<=g1):=zH (by omega);have HR1:=zH hr1;have HB1:=zH hbw;have HCAP:=zH hcap1;clear hA hb1 hsb hbw alY hr1 hg1 hcap1 c2 s0 s1 s2 s3 s4 HH;rcases mC with _|b
 focus
  have hrg:=run_range_nilMap (P:=prog) w1 173 3 5 underlying173;have hnx:∀ty,(Instr.next (.pointer (some ⟨w1.heap.size,0,none⟩)) false ty).run prog (w1.alloc (.mapIter none 0 #[] 0))=_:=λty=>run_next_nilMap _ ty 0 0 #[]
  go_wp2_with fail;refine wp_loop_rounds 1 ?_;rw[rounds_succ];have hA:=(zB w1.heap.size w1).alloc (zl _) (.mapIter none 0 #[] 0);have hxa:IW (M.sec k).raw (M.sec k).ch=(M.sec k).raw:=abL HRL.out HCM.out;have HB2:=zH (HB1.out.trans (hA.mono HB1.out.size));have hr2:=HR1.out.below hA;rw[<-hxa]at hr2;have HR2:=zH hr2;clear hr2 hxa hA;go_upto_region 15 with (fail)
  clear hrg hnx;generalize w1.alloc (.mapIter none 0 #[] 0)=w2 at *
 rotate_left
 focus
  obtain⟨D,hown,hbd,hat⟩:=HCM.out.kept (w':=w1) λc hc=>HB1.out.block c (by
   obtain rfl:=zs hc;obtain⟨es,clock,hb⟩:=HCM.out.map;exact(Yd.1 hb).1)
  have HBD:=zH hbd;have HAT:=zH hat;clear hbd hat;go_wp2_with (first
   |(at_range;refine wpList_range_own _ rfl _ 173 rfl 3 5 jC underlying173 _ b 2352 D rfl hown ?_;intro w0 hrg0 hg0 hs0)
   |fail)
  go_frame
  have hb0:Below w1.heap.size w1 w0:=(zB _ _).grown hg0 (zl _) (λk hk=>by cases hk);have HB0:=zH (HB1.out.trans (hb0.mono HB1.out.size));have hr0:=HR1.out.below hb0;rw[VB HRL.out HAT.out]at hr0;have HR0:=zH hr0;have HRG:=zH hrg0;have anw:Hid (g1<w1.heap.size):=zH HR1.out.lt;have HBG:Hid (b<w.heap.size):=zH (by
   obtain⟨es,clock,hb⟩:=HCM.out.map;exact(Yd.1 hb).1)
  clear hb0 hown hg0 hrg0 hs0 hr0 d4;obtain⟨r,hr⟩:∃r,r=w1.heap.size:=⟨_,rfl⟩;have HRE:=zH hr;rw[<-hr]at HRG ⊢;clear hr
  go_loopw [9] (λ_ wr=>∃(left:Lit->Bool)(cnt:Nat),wr.ranges prog 3 (plainElem prog 5) b r 2352 D left cnt/\Row wr 5 g1 cap (CV (M.sec k).raw (M.sec k).ch left)/\Below w.heap.size w wr) (λ_ wr=>wr.rangeLeft b r)
  case atStart=>exact⟨_,_,HRG.out,HR0.out,HB0.out⟩
  case' round=>
   obtain⟨left,cnt,hrg,hrw,hb⟩:=hrel;have HRW:=zH hrw;have HB:=zH hb;clear hrw hb HRG HR0 HB0;obtain⟨w2,rfl⟩:∃w2:World,w2=wr:=⟨_,rfl⟩;go_wp2_with (first
    |(at_next;refine wpList_next_ranges_ii _ rfl _ rfl 3 5 .i64 .u8 jC underlying3 underlying5 b r 2352 _ _ _ rfl hrg ?_ ?_)
    |fail)
   rotate_left
   ·intro x c w3 cnt3 hwx hwc hlx aae hrg3 hlt3 hg3 hs3 ao9;have hx:=HBD.out x (Maps.has_true_of_atKey aae);obtain⟨y,rfl⟩:∃y:Nat,x=y:=⟨x.toNat,by omega⟩;have hy:y<2352:=by omega
    obtain⟨cy,hcy⟩:∃cy,cy=(M.sec k).ch y:=⟨_,rfl⟩;have hc:c=(cy.toNat:Int):=by have h1:=HAT.out y hy;rw[aae]at h1;rw[hcy];simpa using h1
    subst hc;obtain⟨by_,hby⟩:∃c,c=lC (M.sec k).raw y:=⟨_,rfl⟩;have hgr:g1<r:=by rw[HRE.out];exact anw.out
    have hbg:b<g1:=zL HBG.out HG1.out;have hrw3:=HRW.out.keep (hg3.block g1 HRW.out.lt (λe=>by have:=zs e;omega));have hcl:=hrw3.cell y (by rw[GI];exact hy);have hfz:=hrw3.frozen y (by have:=hrw3.le;rw[GI]at this;omega);rw[ah6 hy hlx,<-hby]at hcl;change w3.cell? ⟨g1,y,none⟩=some (.int .u8 by_.toNat) at hcl;have hset:=hrw3.store y (by_^^^cy) (by rw[GI];exact hy);rw[hby,hcy,abM hlx,<-hcy,<-hby]at hset;have KF:=zH (show Row (w3.setCell ⟨g1,y,none⟩ (.int .u8 (by_^^^cy).toNat)) _ _ _ _ from hset);have hgs:w3.grownBy (w3.setCell ⟨g1,y,none⟩ (.int .u8 (by_^^^cy).toNat)) (some g1):=⟨rfl,rfl,rfl,by simp,λk h1 h2=>zh _ _ _ k (λe=>h2 (by rw[e]))⟩;have HRN:=zH (hrg3.kept hgs (λe=>by have:=zs e;omega) (λe=>by have:=zs e;omega));have hb3:=HB.out.grown hg3 HB.out.size (λk hk=>by obtain rfl:=zs hk;have:=HG1.out;omega);have HBN:=zH (hb3.setCell (p:=⟨g1,y,none⟩) HG1.out (.int .u8 (by_^^^cy).toNat));have hix:=λw'=>aB underlying65 sizeU8 (cap:=cap) (n:=2352) (k:=y) (b:=g1) (off:=0) rfl hy _ rfl w'
    simp only[Yy,Yf]at hix;have hxr:=GH by_ cy;have lQ:=zH (show cnt3<cnt from hlt3);have aiV:=zH hrg;clear hset hgs hrg3 hrw3 hb3 hgr hbg aae hg3 hlx hcy hby hwx hwc hlt3 hrg;go_wp2_with fail;go_roundw;case rel=>exact⟨_,cnt3,HRN.out,KF.out,HBN.out⟩
    case measure=>rw[<-UInt8.toNat_xor,HRN.out.left_eq,aiV.out.left_eq];exact lQ.out
   intro _ hl0;have HB2:=HB;have hr2:=HRW.out;rw[afj hl0]at hr2;have HR2:=zH hr2;clear hr2 hrg hl0
 all_goals
  go_wp2_with fail;refine((tJ (HM.out.below HB2.out) HO.out hk).mono ?_);rintro e w3 ⟨v3,rfl,ho3,hb3⟩;have HB3:=zH (HB2.out.trans (hb3.mono HB2.out.size));have HR3:=zH (HR2.out.below hb3);obtain⟨a3,c3,hv3⟩:=aS ho3;subst hv3;have HO3:=zH ho3;have HGb:=zH (Dj M k);have hgl:(M.gone k).length<=2352:=by unfold aA.gone;rw[YQ];exact zT (YN _ _) (by simp)
  have HG2:Hid (g1<w2.heap.size):=zH HR2.out.lt;clear ho3 hb3;go_wp2_with fail;have hst:=HR3.out;rw[RD (afi (M.sec k).raw (M.sec k).ch)]at hst
  go_loopw [55] (λvk wr=>∃j:Nat,j<=(M.gone k).length/\vk=.int .i64 j/\Row wr 5 g1 cap (GN (IW (M.sec k).raw (M.sec k).ch) ((M.gone k).take j))/\wr.ownsRow w2.heap.size 3 1 (.slice a3 (M.gone k).length c3) (M.gone k).length (is (M.gone k))/\Below w.heap.size w wr) (λvk _=>(M.gone k).length-(RowKit.intOf vk).toNat)
  case atStart=>exact⟨0,by omega,rfl,hst,HO3.out,HB3.out⟩
  case round=>
   clear hst;obtain⟨j,hj,rfl,hrw,hro,hbb⟩:=hrel;by_cases hlt:j<(M.gone k).length
   ·obtain⟨ga,ca,hva,ajN,ajO⟩:=kQ hro (by omega);simp only[YT]at hva;obtain⟨hva,aoB,aoC⟩:=hva;clear aoB aoC;have hcl:wr.cell? ⟨ga,j,none⟩=some (.int .i64 (aI (M.gone k) j)):=by have h1:=hro;rw[hva]at h1;have:=h1.cells (g:=ga) rfl j _ (W8.wL hlt);rwa[XF,Yf]at this
    have hix:=λw'=>aB underlying31 sizeInt9 (cap:=c3) (n:=(M.gone k).length) (k:=j) (b:=ga) (off:=0) hva hlt _ rfl w'
    simp only[Yy,Yf]at hix;have hxb:=HGb.out _ (W8.di hlt);have HTK:Hid ((M.gone k).take (j+1)=(M.gone k).take j++[aI (M.gone k) j]):=zH (by rw[Yo hlt,<-W8.bT hlt]);generalize hxe:aI (M.gone k) j=x at *;clear hxe;obtain⟨y,rfl⟩:∃y:Nat,x=y:=⟨x.toNat,by omega⟩;have hy:y<2352:=by omega
    have hix2:=λw'=>aB underlying65 sizeU8 (cap:=cap) (n:=2352) (k:=y) (b:=g1) (off:=0) rfl hy _ rfl w'
    simp only[Yy,Yf]at hix2;have hcy:=hrw.cell y (by rw[GU];exact hy);have hfy:=hrw.frozen y (by have:=hrw.le;rw[GU]at this;omega);have hset:=hrw.store y 0 (by rw[GU];exact hy);rw[abN,<-HTK.out]at hset;have KF:=zH (show Row (wr.setCell ⟨g1,y,none⟩ (.int .u8 0)) _ _ _ _ from hset);have HRO:=zH (lK hro (p:=⟨g1,y,none⟩) HG2.out (.int .u8 0));have zX:=zH (hbb.setCell (p:=⟨g1,y,none⟩) HG1.out (.int .u8 0));clear hset hrw hro hbb hxb HTK ajN ajO hva;generalize hold:B (G.ix _ y)=old at hcy;clear hold;go_wp2_with fail;go_roundw;case rel=>exact⟨j+1,by omega,by go_num,KF.out,HRO.out,zX.out⟩
    case measure=>simp[RowKit.intOf];omega
   ·obtain rfl:j=(M.gone k).length:=by omega
    rw[YD,afl]at hrw;have hl:(M.out k).length=2352:=wW M k;have hrd:=hrw.rd (by omega);rw[hl]at hrd;have hcx:=eX (P:=prog) underlying65 underlying5 underlying9 hrd;have Zq:Hid (xI (M.out k,M.gone k,0) w (.returned (.tuple #[.string (str (M.out k)),.slice a3 (M.gone k).length c3,.int .i64 0])) wr):=zH ⟨_,rfl,iQ hro HB2.out.size,hbb⟩;clear hrw hro hrd hbb;go_wp2_with fail
    go_ret3
    exact Zq.out
theorem aeu{w:World}{g:Nat}{M:aA}{X R:Nat->Prop}{N:Nat}(h:fF w g M X R)(ho:M.Ok N)(a:Int):
 Calls prog 50 #[.pointer (some ⟨g,0,none⟩),.int .i64 a] w (xI (M.JJ a) w):=by
 unfold aA.JJ;by_cases hr:0<=a/\a<(M.n:Int)
 ·rw[zj hr];obtain⟨k,rfl⟩:∃k:Nat,a=k:=⟨a.toNat,by omega⟩;rw[Yw];have hk:k<M.n:=by omega
  by_cases h1:(M.sec k).st=1
  ·rw[zi (by omega),zj h1];obtain⟨L,h⟩:=h;exact aaS h ho hk h1
  ·have hb:=UZ h ho hk h1;by_cases h0:(M.sec k).st=0
   ·rw[zj h0];rw[zj h0]at hb;exact hb
   ·rw[zi h0,zi h1];rw[zi h0]at hb;exact hb
 ·rw[zi hr];exact Nj h ho a hr
def pq(b:Bool)(w:World)(e:Ending)(w':World):Prop:=e=.returned (.bool b)/\Below w.heap.size w w'
theorem jQ{M:aA}{a:Int}(h:¬ ((0<=a/\a<M.n)/\M.SS a.toNat)):M.nG a=false:=by unfold aA.nG;rw[Yv];exact h
theorem tC{M:aA}{a:Int}(h:(0<=a/\a<M.n)/\M.SS a.toNat):M.nG a=true:=by unfold aA.nG;simp only[h,and_self,decide_true]
theorem Ik{w:World}{g:Nat}{M:aA}{X R:Nat->Prop}{N:Nat}(h:fF w g M X R)(ho:M.Ok N)(a:Int)(hr:¬ (0<=a/\a<(M.n:Int))):
 Calls prog 73 #[.pointer (some ⟨g,0,none⟩),.int .i64 a] w (pq false w):=by
 obtain⟨L,hc⟩:=h;have HH:=zH (su hc ho.n.2 a);rw[zf hr]at HH;clear hc ho hr;go_enter func73,ntmps73;go_wp2_with fail;refine HH.out.mono ?_;rintro e w' ⟨rfl,rfl⟩;go_wp2_with fail;go_ret;exact⟨rfl,zB _ _⟩
theorem OQ{w:World}{g:Nat}{M:aA}{X R:Nat->Prop}{N:Nat}(h:fF w g M X R)(ho:M.Ok N){k:Nat}(hk:k<M.n)(h1:(M.sec k).st≠1):
 Calls prog 73 #[.pointer (some ⟨g,0,none⟩),.int .i64 (k:Nat)] w (pq false w):=by
 obtain⟨L,hc⟩:=h;have HM:Hid (fF w g M X R):=zH ⟨L,hc⟩;have HH:=zH (su hc ho.n.2 (k:Int));rw[zt (show 0<=(k:Int)/\(k:Int)<(M.n:Int) by omega)]at HH;obtain⟨c0,c1,c2,c3,c4⟩:=hc.cells;rw[hc.n]at c2;have vJ:k<L.S.length:=by rw[hc.n];exact hk
 have hst3:=(ho.sec k hk).st;have s0:=hc.fG vJ (j:=0) (by decide);have s4:=hc.fG vJ (j:=4) (by decide);simp only[kU,Yg,Yi,hc.at_,YO]at s0 s4;have hHE:=tJ HM.out ho hk;clear hc ho c0 c1 c3 c4 s4 hHE;have q:(((M.sec k).st:Int) != 1)=true:=by rw[XV];omega
 generalize M.n=n at *;clear h1;go_enter func73,ntmps73;go_wp2_with fail;refine HH.out.mono ?_;rintro e w' ⟨rfl,rfl⟩;go_wp2_with fail;go_ret;exact⟨rfl,zB _ _⟩
theorem KX{w:World}{g:Nat}{M:aA}{X R:Nat->Prop}{N:Nat}(h:fF w g M X R)(ho:M.Ok N){k:Nat}(hk:k<M.n)(h1:(M.sec k).st=1)(hg:M.gone k≠[]):
 Calls prog 73 #[.pointer (some ⟨g,0,none⟩),.int .i64 (k:Nat)] w (pq false w):=by
 obtain⟨L,hc⟩:=h;have HM:Hid (fF w g M X R):=zH ⟨L,hc⟩;have HH:=zH (su hc ho.n.2 (k:Int));rw[zt (show 0<=(k:Int)/\(k:Int)<(M.n:Int) by omega)]at HH;obtain⟨c0,c1,c2,c3,c4⟩:=hc.cells;rw[hc.n]at c2;have vJ:k<L.S.length:=by rw[hc.n];exact hk
 have hst3:=(ho.sec k hk).st;have s0:=hc.fG vJ (j:=0) (by decide);have s4:=hc.fG vJ (j:=4) (by decide);simp only[kU,Yg,Yi,hc.at_,YO]at s0 s4;have hHE:=tJ HM.out ho hk;have HE:=zH hHE;have hgl:(M.gone k).length<=2352:=by unfold aA.gone;rw[YQ];exact zT (YN _ _) (by simp)
 have hgp:0<(M.gone k).length:=YM.2 hg;clear hc ho c0 c1 c3 c4 s4 hHE hg;have q:(((M.sec k).st:Int) != 1)=false:=by rw[Xe];omega
 generalize M.n=n at *;clear h1;go_enter func73,ntmps73;go_wp2_with fail;refine HH.out.mono ?_;rintro e w' ⟨rfl,rfl⟩;go_wp2_with fail;refine HE.out.mono ?_;rintro e w3 ⟨v3,rfl,ho3,hb3⟩;obtain⟨a3,c3,rfl⟩:=aS ho3;have hB:decide (0<((M.gone k).length:Int))=true:=zt (by omega);have HB:=zH hb3;clear ho3 hb3;go_wp2_with fail;go_ret;exact⟨rfl,HB.out⟩
theorem OV{w:World}{g:Nat}{M:aA}{X R:Nat->Prop}{N:Nat}{L:Lay}(h:cu w g L M X R)(ho:M.Ok N){k:Nat}(hk:k<M.n)(h1:(M.sec k).st=1)(hg:M.gone k = [])(hch:(aJ dD L.S k).c=none):
 Calls prog 73 #[.pointer (some ⟨g,0,none⟩),.int .i64 (k:Nat)] w (pq (M.nG (k:Nat)) w):=by
 have hc:=h;clear h;have HM:Hid (fF w g M X R):=zH ⟨L,hc⟩;have HH:=zH (su hc ho.n.2 (k:Int));rw[zt (show 0<=(k:Int)/\(k:Int)<(M.n:Int) by omega)]at HH;obtain⟨c0,c1,c2,c3,c4⟩:=hc.cells;rw[hc.n]at c2;have vJ:k<L.S.length:=by rw[hc.n];exact hk
 have hst3:=(ho.sec k hk).st;have s0:=hc.fG vJ (j:=0) (by decide);have s4:=hc.fG vJ (j:=4) (by decide);simp only[kU,Yg,Yi,hc.at_,YO]at s0 s4;have hHE:=tJ HM.out ho hk;have hcm:DI w (aJ dD L.S k).c (M.sec k).ch:=by have:=hc.maps k false vJ;unfold SM.W at this;rwa[zi (by decide),hc.at_]at this
 rw[hch]at s4 hcm;have HE:=zH hHE;have HC:=zH hc;have HG:=zH hg;have H1:=zH h1;have HCM:=zH hcm;have q:(((M.sec k).st:Int) != 1)=false:=by rw[Xe];omega
 have HK:Hid (0<=(k:Int)/\(k:Int)<M.n):=zH (by omega);have IY:=zH vJ;have HCH:=zH hch;obtain⟨n,hn⟩:∃n,n=M.n:=⟨_,rfl⟩;rw[<-hn]at c2;have hkn:k<n:=by omega
 have HNN:=zH hn;clear hc ho c0 c1 c3 c4 hHE hn hch hcm hg h1 hst3 hk vJ;go_enter func73,ntmps73;go_wp2_with fail;refine HH.out.mono ?_;rintro e w' ⟨rfl,rfl⟩;go_wp2_with fail;refine HE.out.mono ?_;rintro e w3 ⟨v3,rfl,ho3,hb3⟩;rw[HG.out]at ho3;obtain⟨a3,c3,rfl⟩:=aS ho3;have hcc:=HC.out.below hb3;have c2':=hcc.cells.2.2.1;rw[hcc.n,<-HNN.out]at c2';have s4':=hcc.fG IY.out (j:=4) (by decide);simp only[kU,Yg,Yi,HCH.out]at s4';have HB:=zH hb3;clear ho3 hb3 hcc c2 s0 s4 HE HH;simp only[YC];have hrg:=run_range_nilMap (P:=prog) w3 173 3 5 underlying173;have hnx:∀ty,(Instr.next (.pointer (some ⟨w3.heap.size,0,none⟩)) false ty).run prog (w3.alloc (.mapIter none 0 #[] 0))=_:=λty=>run_next_nilMap _ ty 0 0 #[]
 go_wp2_with fail;refine wp_loop_rounds 1 ?_;rw[rounds_succ];have HT:Hid (pq (M.nG (k:Nat)) w (.returned (.bool true)) (w3.alloc (.mapIter none 0 #[] 0))):=zH (by
  rw[tC ⟨HK.out,by rw[Yw];exact⟨H1.out,HG.out,λj _=>HCM.out j⟩⟩];exact⟨rfl,HB.out.alloc HB.out.size _⟩)
 go_wp2_with fail;go_ret;exact HT.out
theorem OU{w:World}{g:Nat}{M:aA}{X R:Nat->Prop}{N:Nat}{L:Lay}(h:cu w g L M X R)(ho:M.Ok N){k:Nat}(hk:k<M.n)(h1:(M.sec k).st=1)(hg:M.gone k = []){b:Nat}(hch:(aJ dD L.S k).c=some b):
 Calls prog 73 #[.pointer (some ⟨g,0,none⟩),.int .i64 (k:Nat)] w (pq (M.nG (k:Nat)) w):=by
 have hc:=h;clear h;have HM:Hid (fF w g M X R):=zH ⟨L,hc⟩;have HH:=zH (su hc ho.n.2 (k:Int));rw[zt (show 0<=(k:Int)/\(k:Int)<(M.n:Int) by omega)]at HH;obtain⟨c0,c1,c2,c3,c4⟩:=hc.cells;rw[hc.n]at c2;have vJ:k<L.S.length:=by rw[hc.n];exact hk
 have hst3:=(ho.sec k hk).st;have s0:=hc.fG vJ (j:=0) (by decide);have s4:=hc.fG vJ (j:=4) (by decide);simp only[kU,Yg,Yi,hc.at_,YO]at s0 s4;have hHE:=tJ HM.out ho hk;have hcm:DI w (aJ dD L.S k).c (M.sec k).ch:=by have:=hc.maps k false vJ;unfold SM.W at this;rwa[zi (by decide),hc.at_]at this
 rw[hch]at s4 hcm;have HE:=zH hHE;have HC:=zH hc;have HG:=zH hg;have H1:=zH h1;have HCM:=zH hcm;have q:(((M.sec k).st:Int) != 1)=false:=by rw[Xe];omega
 have HK:Hid (0<=(k:Int)/\(k:Int)<M.n):=zH (by omega);have IY:=zH vJ;have HCH:=zH hch;obtain⟨n,hn⟩:∃n,n=M.n:=⟨_,rfl⟩;rw[<-hn]at c2;have hkn:k<n:=by omega
 have HNN:=zH hn;clear hc ho c0 c1 c3 c4 hHE hn hch hcm hg h1 hst3 hk vJ;go_enter func73,ntmps73;go_wp2_with fail;refine HH.out.mono ?_;rintro e w' ⟨rfl,rfl⟩;go_wp2_with fail;refine HE.out.mono ?_;rintro e w3 ⟨v3,rfl,ho3,hb3⟩;rw[HG.out]at ho3;obtain⟨a3,c3,rfl⟩:=aS ho3;have hcc:=HC.out.below hb3;have c2':=hcc.cells.2.2.1;rw[hcc.n,<-HNN.out]at c2';have s4':=hcc.fG IY.out (j:=4) (by decide);simp only[kU,Yg,Yi,HCH.out]at s4';have HB:=zH hb3;clear ho3 hb3 hcc c2 s0 s4 HE HH;simp only[YC];obtain⟨D,hown,hbd,hat⟩:=HCM.out.kept (w':=w3) λc hc=>HB.out.block c (by
  obtain rfl:=zs hc;obtain⟨es,clock,hb⟩:=HCM.out.map;exact(Yd.1 hb).1)
 have HBD:=zH hbd;have HAT:=zH hat;clear hbd hat;go_wp2_with (first
  |(at_range;refine wpList_range_own _ rfl _ 173 rfl 3 5 jC underlying173 _ b 2352 D rfl hown ?_;intro w0 hrg0 hg0 hs0)
  |fail)
 go_frame
 have hb0:Below w3.heap.size w3 w0:=(zB _ _).grown hg0 (zl _) (λk hk=>by cases hk);have HB0:=zH (HB.out.trans (hb0.mono HB.out.size));have HRG:=zH hrg0;have HZ0:Hid (∀j:Nat,j<2352->Maps.has D (.int .i64 (j:Nat))=false->(M.sec k).ch j=0):=zH λj hj hh=>by
  have h1:=HAT.out j hj;rw[Maps.atKey_of_not_has hh]at h1;have h2:((M.sec k).ch j).toNat=0:=by simp at h1;omega
  exact UInt8.toNat_inj.1 h2
 have anL:=zH HB.out.size;clear hb0 hown hg0 hrg0 hs0 c2' s4';obtain⟨r,hr⟩:∃r,r=w3.heap.size:=⟨_,rfl⟩;have HRE:=zH hr;rw[<-hr]at HRG ⊢;clear hr
 go_loopw [6] (λ_ wr=>∃(left:Lit->Bool)(cnt:Nat),wr.ranges prog 3 (plainElem prog 5) b r 2352 D left cnt/\Hid (∀j:Nat,j<2352->left (.int .i64 (j:Nat))=false->(M.sec k).ch j=0)/\Below w.heap.size w wr) (λ_ wr=>wr.rangeLeft b r)
 case atStart=>exact⟨_,_,HRG.out,HZ0,HB0.out⟩
 case round=>
  obtain⟨left,cnt,hrg,HZ,hb⟩:=hrel;have HBR:=zH hb;clear hb HRG HB0 HZ0;go_wp2_with (first
   |(at_next;refine wpList_next_ranges_ii _ rfl _ rfl 3 5 .i64 .u8 jC underlying3 underlying5 b r 2352 _ _ _ rfl hrg ?_ ?_)
   |fail)
  ·intro _ hl0;have HT:Hid (pq (M.nG (k:Nat)) w (.returned (.bool true)) wr):=zH (by
    rw[tC ⟨HK.out,by rw[Yw];exact⟨H1.out,HG.out,λj hj=>HZ.out j hj (hl0 _)⟩⟩];exact⟨rfl,HBR.out⟩)
   clear hl0 hrg;go_wp2_with fail;go_ret;exact HT.out
  ·intro x c w4 cnt4 hwx hwc hlx agv hrg4 hlt4 hg4 hs4 apa;have hx:=HBD.out x (Maps.has_true_of_atKey agv);obtain⟨y,rfl⟩:∃y:Nat,x=y:=⟨x.toNat,by omega⟩;have hy:y<2352:=by omega
   have hc:c=(((M.sec k).ch y).toNat:Int):=by have h1:=HAT.out y hy;rw[agv]at h1;simpa using h1
   subst hc;have HB4:=zH (HBR.out.grown hg4 HBR.out.size (λk hk=>by obtain rfl:=zs hk;have:=anL.out;have:=HRE.out;omega));have lQ:=zH (show cnt4<cnt from hlt4);have aiV:=zH hrg;have ak4:=zH hrg4;by_cases h0:(M.sec k).ch y=0
   ·have q5:((((M.sec k).ch y).toNat:Int) != 0)=false:=by rw[Xe,h0];rfl
    have HZ4:Hid (∀j:Nat,j<2352->(left (.int .i64 (j:Nat)) && !(Lit.int .i64 (j:Nat)).sameKey (.int .i64 (y:Nat)))=false->(M.sec k).ch j=0):=zH λj hj hl=>by
     by_cases e:j=y
     ·rw[e];exact h0
     ·refine HZ.out j hj ?_;have:¬ ((j:Nat):Int)=(y:Nat):=by omega
      simpa[Lit.sameKey,this]using hl
    clear agv hrg4 hg4 hlx hwx hwc hlt4 hrg h0;go_wp2_with fail;go_roundw;case rel=>exact⟨_,cnt4,ak4.out,HZ4,HB4.out⟩
    case measure=>rw[ak4.out.left_eq,aiV.out.left_eq];exact lQ.out
   ·have q5:((((M.sec k).ch y).toNat:Int) != 0)=true:=by rw[XV];intro e;exact h0 (UInt8.toNat_inj.1 (by simpa using e))
    have HT:Hid (pq (M.nG (k:Nat)) w (.returned (.bool false)) w4):=zH (by
     rw[jQ λh=>h0 (h.2.2.2 y hy)];exact⟨rfl,HB4.out⟩)
    clear agv hrg4 hg4 hlx hwx hwc hlt4 hrg h0;go_wp2_with fail;go_ret;exact HT.out
theorem afO{w:World}{g:Nat}{M:aA}{X R:Nat->Prop}{N:Nat}(h:fF w g M X R)(ho:M.Ok N)(a:Int):
 Calls prog 73 #[.pointer (some ⟨g,0,none⟩),.int .i64 a] w (pq (M.nG a) w):=by
 by_cases hr:0<=a/\a<(M.n:Int)
 ·obtain⟨k,rfl⟩:∃k:Nat,a=k:=⟨a.toNat,by omega⟩;have hk:k<M.n:=by omega
  by_cases h1:(M.sec k).st=1
  ·by_cases hg:M.gone k = []
   ·obtain⟨L,h⟩:=h;cases hch:(aJ dD L.S k).c with
    |none=>exact OV h ho hk h1 hg hch
    |some b=>exact OU h ho hk h1 hg hch
   ·rw[jQ λh=>by
     rw[Yw]at h;obtain⟨_,_,h2,_⟩:=h;exact hg h2]
    exact KX h ho hk h1 hg
  ·rw[jQ λh=>h1 h.2.1];exact OQ h ho hk h1
 ·rw[jQ λh=>hr h.1];exact Ik h ho a hr
end wu
end Go.Proofs.YtfnehkmhcmkhjaaGreat
