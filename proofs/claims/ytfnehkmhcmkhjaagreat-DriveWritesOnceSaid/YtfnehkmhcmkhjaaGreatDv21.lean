/- Parts:XD4 XD6 XDa XFi XFl XFo XGa XGb XEnT -/
import Derived.Test.YtfnehkmhcmkhjaaGreatDvAl
import Derived.Test.YtfnehkmhcmkhjaaGreatDv16
import Derived.Test.YtfnehkmhcmkhjaaGreatDv15
import Derived.Deep.CutRange
import Derived.Test.YtfnehkmhcmkhjaaGreatDv17
import Derived.RegionTactic
import Derived.BigRegion
import Derived.Maps.OwnRows
import Derived.Maps.GroupsBeside
import Derived.ArgAppend
import Derived.Deep.Upon
import Derived.Test.YtfnehkmhcmkhjaaGreatDv14
import Derived.Sort.OwnSortedInts
set_option maxRecDepth 100000
set_option maxHeartbeats 8000000
set_option linter.unusedVariables false
namespace Go.Proofs.YtfnehkmhcmkhjaaGreat
open Tryz
namespace C9
open Go.RowKit W8
def wU(x:List UInt8):List Value:=[.string (str x)]
theorem qM(x:List UInt8):(wU x).length=1:=rfl
def gU(w:World)(v:Value)(l:List (List UInt8)):Prop:=dX [] wU 1 w v l
theorem Qg(l:List (List UInt8))(x:List UInt8):fK wU (l++[x])=fK wU l++[.string (str x)]:=by rw[rY,yI]; rfl
theorem infoStr9:(prog.info? 9).map (fun i=>(i.zero,i.size,i.bytes))=some (some (.string ⟨#[]⟩),1,16):=by kernel_rfl
end C9
namespace C9
open Go.ChangeShapes Go.WideShapes Go.RowKit Go.Deep W8
section
variable {H:Type} {enc:TypeId×Value->H} {w:World} {base b0:Nat} {sp:Nat->Bool} {held:Bool}
theorem cellsSc:prog.cellsOf 78=2:=by kernel_rfl
theorem cellsI9:prog.cellsOf 3=1:=by kernel_rfl
theorem Qb(n:Nat)(cs:List Value)(x:DataW H×List MemPlace)(h:DataW.trod enc prog w base sp held n 78 cs=some x):∃t:Sc,cs=scc t/\Wf t:=by
 obtain⟨ys,n',_,_,hlen,hyl,hf⟩:=DataW.trod_struct underlying78 h;rw[cellsSc]at hlen
 match cs,hlen with
 | [c0,c1],_=>
   have g0:DataW.trod enc prog w base sp held n' 3 (([c0,c1].drop 0).take (prog.cellsOf 3))=ys[0]?:=hf 0 _ rfl;have g1:DataW.trod enc prog w base sp held n' 3 (([c0,c1].drop 1).take (prog.cellsOf 3))=ys[1]?:=hf 1 _ rfl;rw[cellsI9]at g0 g1;simp only[List.drop,List.take]at g0 g1;obtain⟨a0,e0,w0⟩:=fM underlying3 g0 (eU hyl (by decide));obtain⟨a1,e1,w1⟩:=fM underlying3 g1 (eU hyl (by decide));simp only[List.cons.injEq,and_true]at e0 e1;subst e0 e1;exact⟨⟨a0,a1⟩,rfl,w0,w1⟩
def xX(w:World)(v:Value)(l:List Sc):Prop:=aai w v l/\(∀i,i<l.length->Wf (scA l i))/\l.length<=9223372036854775807
end
theorem xX.keep{w w':World}{v:Value}{l:List Sc}(h:xX w v l)(hb:Below w.heap.size w w'):xX w' v l:=⟨dX.keep h.1 hb,h.2⟩
end C9
namespace C9
open Go.RowKit W8
theorem bytes_beq(s:ByteArray):(s.toList == s.toList)=true:=by simp
theorem Eu(v1 v2:Value)(l:List (List UInt8))(w:World)(h1:gU w v1 l)(h2:gU w v2 l)(hl:l.length<=9223372036854775807):
 Calls prog 14 #[v1,v2] w fun e w'=>e=.returned (.bool true)/\Below w.heap.size w w':=by
 obtain⟨a1,c1,rfl,_⟩:=dX.form h1;obtain⟨a2,c2,rfl,_⟩:=dX.form h2;obtain⟨b1,o1,k1⟩:=dX.at h1;obtain⟨b2,o2,k2⟩:=dX.at h2;have H1:=zH k1;have H2:=zH k2;clear h1 h2 k1 k2;go_enter func14,ntmps14;go_wp2_with fail
 go_loopw [5] (fun vi wr=>∃i:Nat,i<=l.length/\vi=.int .i64 i/\Below w.heap.size w wr) (fun vi _=>l.length - (RowKit.intOf vi).toNat)
 case atStart=>exact⟨0,by omega,rfl,zB _ _⟩
 case round=>
  obtain⟨i,hi,rfl,hb⟩:=hrel;by_cases hlt:i<l.length
  ·obtain⟨ha1,hr1⟩:=H1.out i hlt;obtain⟨ha2,hr2⟩:=H2.out i hlt;have hx1:=fun w'=>aH underlying45 (by kernel_rfl:(prog.info? 9).map (·.size)=some 1) (cap:=c1) ha1 hlt (i:Int) rfl w'
   have hx2:=fun w'=>aH underlying45 (by kernel_rfl:(prog.info? 9).map (·.size)=some 1) (cap:=c2) ha2 hlt (i:Int) rfl w'
   have ac4:wr.cell? ⟨b1,o1+i * 1,none⟩=some (.string (str (bF [] l i))):=(hb.cell (p:=⟨b1,o1+i * 1,none⟩) (zc w _ (hr1 0 _ rfl))).trans (hr1 0 _ rfl);have ac5:wr.cell? ⟨b2,o2+i * 1,none⟩=some (.string (str (bF [] l i))):=(hb.cell (p:=⟨b2,o2+i * 1,none⟩) (zc w _ (hr2 0 _ rfl))).trans (hr2 0 _ rfl);simp only[Nat.mul_one]at hx1 hx2 ac4 ac5;generalize str (bF [] l i)=s at ac4 ac5;have HA1:=zH ha1;have HA2:=zH ha2;have hbb:=bytes_beq s;clear ha1 ha2 hr1 hr2;go_wp2_with fail;go_quiet (fail);go_wp2_with fail;go_roundw;case rel=>exact⟨i+1,by omega,by go_num,Below.drewN hb _⟩
   case measure=>simp[RowKit.intOf]; omega
  ·obtain rfl:i=l.length:=by omega
   go_wp2_with fail;go_ret;exact⟨rfl,hb⟩
end C9
namespace oH
open Go.RowKit Go.Maps C9
open W8 (is)
section
variable {X R:Nat->Prop} {w w':World} {g:Nat} {L:Lay} {M:aP}
end
theorem sD:Keyed prog 3:=int_keyed underlying3
section
variable {X R:Nat->Prop} {w w':World} {g:Nat} {L:Lay} {M:aP}
end
end oH
namespace oH
open Go.RowKit Go.Maps C9
open W8 (is)
open Go.WideElems (Fit rd rg)
open Go.ChangeShapes (lits)
theorem adR{i:Nat}(h:i<5000):(Lit.int .i64 (i:Nat)).wf=true:=by simp[Lit.wf,IntKind.min,IntKind.max,IntKind.signed,IntKind.bits]; omega
theorem Vy:∀w,(zeroValue 31).run prog w=.ok (.slice none 0 0) w:=fun _=>by kernel_rfl
end oH
namespace oH
open Go.RowKit Go.Maps C9
open W8 (is)
open Go.ChangeShapes (lits)
def aam(_:Nat)(_ _:World):Prop:=True
theorem jB(r:Nat)(w w':World):aam r w w':=trivial
end oH
namespace oH
open Go.RowKit Go.Maps C9 Go.Sort Go.Shelf
open W8 (is)
theorem abD(v:Value)(M:List Int)(w:World)(b n:Nat)(ho:w.ownsRow b 3 1 v n (is M))(hn:M.length=n)(hl:n<=1000000):
 Calls prog 193 #[v] w fun e w'=>e=.returned (.tuple #[])/\w'.ownsRow b 3 1 v n (is (M.mergeSort fun x y=>decide (x<=y)))/\w.grownBy w' v.ownBlock:=by
 subst hn;rcases ho.2 with ⟨rfl,h0⟩ | ⟨g,cap,cur,rfl,hg,hb,h1,h2,h3,h4⟩
 ·have e:M = []:=List.length_eq_zero_iff.1 h0;subst e;refine(slices_Sort_int_none none 0 w).mono ?_;rintro e w' ⟨rfl,rfl⟩;exact⟨rfl,by simpa using ho,rfl,rfl,rfl,zl _,fun _ _ _=>rfl⟩
 ·have ht:cur.toList.take M.length=M.map (Value.int .i64):=by rw[Nat.mul_one]at h4; exact h4
  refine(slices_Sort_int g 0 cap M w (holds_of_blockI hb ht) (Array.getElem?_eq_some_iff.1 hb).1 (by omega)).mono ?_;rintro e w' ⟨rfl,k,os,rfl⟩;exact⟨rfl,ownsRow_sortedI (ss:=M) (List.length_mergeSort M) hg hb h1 h2 h3,grownBy_sortedI _⟩
theorem JE(w:World):grow w #[]=w:=by cases w; simp[grow]
theorem Fj(M:List Int):(Lib.compact M).length<=M.length:=by unfold Lib.compact Lib.compactUpTo;rw[List.length_map];exact zT (List.length_filter_le _ _) (by simp)
theorem Oj(v:Value)(M:List Int)(w:World)(b n:Nat)(ho:w.ownsRow b 3 1 v n (is M))(hn:M.length=n)(hl:n<=1000000):
 Calls prog 194 #[v] w fun e w'=>∃v',e=.returned v'/\w'.ownsRow b 3 1 v' (Lib.compact M).length (is (Lib.compact M))/\w.grownBy w' v.ownBlock:=by
 subst hn;rcases ho.2 with ⟨rfl,h0⟩ | ⟨g,cap,cur,rfl,hg,hb,h1,h2,h3,h4⟩
 ·have e:M = []:=List.length_eq_zero_iff.1 h0;subst e;refine(slices_Compact_int_empty none 0 w).mono ?_;rintro e w' ⟨rfl,rfl⟩;exact⟨_,rfl,ho,World.grownBy.refl _ _⟩
 ·have ht:cur.toList.take M.length=M.map (Value.int .i64):=by rw[Nat.mul_one]at h4; exact h4
  refine(slices_Compact_int g 0 cap M w (holds_of_blockI hb ht) (by omega) h1).mono ?_;rintro e w' ⟨rfl,q,rfl⟩;have hc:=Fj M;have e1:∀d:Array Int,putRow (Value.int .i64) (Sort.ahead w q) g 0 d=grow (putRow (Value.int .i64) (Sort.ahead w q) g 0 d) #[]:=fun d=>(JE _).symm
  rw[e1];refine⟨_,rfl,?_,grownBy_sortedI _⟩;generalize hts:Lib.compact M++List.replicate (M.length - (Lib.compact M).length) 0=ts;have hl2:ts.length=M.length:=by rw[<-hts]; simp; omega
  have h5:=ownsRow_sortedI (n:=q) (os:=#[]) (ss:=M) (ts:=ts) hl2 hg hb h1 h2 h3;rcases h5.2 with ⟨h6,_⟩ | ⟨g2,cap2,aay,hv,hg2,hb2,k1,k2,k3,k4⟩
  ·cases h6
  ·simp only[Value.slice.injEq,Option.some.injEq,Addr.mk.injEq]at hv;obtain⟨⟨rfl,_⟩,_,rfl⟩:=hv;refine⟨by simp[is],.inr ⟨g,cap,aay,rfl,hg,hb2,zT hc h1,h2,k3,?_⟩⟩;rw[Nat.mul_one]at k4 ⊢;have:aay.toList.take (Lib.compact M).length=(aay.toList.take M.length).take (Lib.compact M).length:=by rw[List.take_take,Nat.min_eq_left hc]
   rw[this,k4,<-hts,List.map_append,List.take_left' (by simp)];rfl
theorem Df{M:List Int}(h:M.Pairwise (·<=·)):(Lib.compact M).Pairwise (· < ·)/\∀x,x ∈ Lib.compact M↔x ∈ M:=by
 have hle:∀i j,i<=j->j<M.length->M.toArray[i]!<=M.toArray[j]!:=fun i j hij hj=>by
  have hi:i<M.length:=by omega
  rw[getElem!_pos _ _ (by simpa using hi),getElem!_pos _ _ (by simpa using hj)];simp only[List.getElem_toArray];by_cases e:i=j
  ·subst e; exact Int.le_refl _
  ·exact List.pairwise_iff_getElem.1 h i j hi hj (by omega)
 have hk:∀j,Lib.keeps M.toArray j=true->j=0\/M.toArray[j]!≠M.toArray[j - 1]!:=fun j hj=>by unfold Lib.keeps at hj;exact of_decide_eq_true hj
 constructor
 ·unfold Lib.compact Lib.compactUpTo;rw[List.pairwise_map,List.pairwise_filter];refine List.pairwise_lt_range.imp_of_mem fun {a b} ha hb hab _ kb=>?_
  have hb':=List.mem_range.1 hb;have h1:=hle a (b - 1) (by omega) (by omega);have h2:=hle (b - 1) b (by omega) hb';rcases hk b kb with h3 | h3
  ·omega
  ·omega
 ·intro x;unfold Lib.compact Lib.compactUpTo;simp only[List.mem_map,List.mem_filter,List.mem_range];constructor
  ·rintro⟨j,⟨hj,_⟩,rfl⟩;rw[getElem!_pos _ _ (by simpa using hj)];simp
  ·intro hx;obtain⟨j,hj,rfl⟩:=List.getElem_of_mem hx;have key:∀j,j<M.length->∃i,(i<M.length/\Lib.keeps M.toArray i=true)/\M.toArray[i]! = M.toArray[j]!:=by
    intro j
    induction j with
    | zero=>exact fun hj=>⟨0,⟨hj,Lib.keeps_lt_one _ 0 (by omega)⟩,rfl⟩
    | succ j ih=>
      intro hj;by_cases e:M.toArray[j+1]! = M.toArray[j]!
      ·obtain⟨i,h1,h2⟩:=ih (by omega);exact⟨i,h1,h2.trans e.symm⟩
      ·exact⟨j+1,⟨hj,Lib.keeps_pos e⟩,rfl⟩
   obtain⟨i,h1,h2⟩:=key j hj;refine⟨i,h1,h2.trans ?_⟩;rw[getElem!_pos _ _ (by simpa using hj)];simp
theorem keys12(mb:Option Nat)(W:World):Calls prog 192 #[.map mb] W fun e w'=>e=.returned (.func (.func 260) #[] #[.pointer (some ⟨W.heap.size,0,none⟩)])/\w'=W.alloc (.cells #[.map mb] 76):=
 (callsIn_wide (n:=5)).1 (AnyZI.keys_in keysA Fence.wide 5 trivial rfl mb W)
def adV(f:Nat->Bool)(w:World)(e:Ending)(w':World):Prop:=∃v ss,e=.returned v/\(∀x:Int,x ∈ ss↔0<=x/\f x.toNat=true)/\ss.length<=2352/\w'.ownsRow w.heap.size 3 1 v ss.length (is ss)/\Below w.heap.size w w'
theorem Oi{W:World}{g:Nat}{mb:Option Nat}{f:Nat->Bool}(hb:Bx W g 76 [.map mb])(hm:QV W mb f)(hfb:∀k,f k=true->k<2352):
 Calls prog 191 #[.func (.func 260) #[] #[.pointer (some ⟨g,0,none⟩)]] W (adV f W):=by
 cases mb with
 | none=>
   have hseq:SeqGives Fence.wide 3 prog 260 #[.pointer (some ⟨g,0,none⟩)] encZ (fun ss=>ss = []) 0 W:=
    AnyZI.keys_gives_nil (ρ:=keysA_ren) { keysA with } Fence.wide 3 trivial rfl g W hb.lt (hb.cell (i:=0) rfl)
   have cS:=AnyZI.collect_in collectA Fence.wide 5 trivial trivial rfl (by omega) 260 #[.pointer (some ⟨g,0,none⟩)] trivial (enters_of func260 (by kernel_rfl) rfl) _ _ (by unfold maxLen; omega) (by omega) W hseq;change CallsIn _ _ prog 191 _ _ _ at cS;refine((callsIn_wide (n:=5)).1 cS).mono ?_;rintro e w' ⟨v,ss,rfl,rfl,hrow,_,hb⟩;refine⟨v,[],rfl,fun x=>?_,by simp,hrow,hb⟩;have:=hm x.toNat;simp[this]
 | some b=>
   obtain⟨D,hown,hf⟩:=hm;have hsz:=hown.size_le;have hseq:SeqGives Fence.wide 3 prog 260 #[.pointer (some ⟨g,0,none⟩)] encZ (fun ss=>ss.Perm (intKeys D)) (Maps.size D) W:=
    AnyZI.keys_gives (ρ:=keysA_ren) { keysA with } Fence.wide 3 trivial rfl (by omega) g b 2352 D W hb.lt (hb.cell (i:=0) rfl) hown
   have cS:=AnyZI.collect_in collectA Fence.wide 5 trivial trivial rfl (by omega) 260 #[.pointer (some ⟨g,0,none⟩)] trivial (enters_of func260 (by kernel_rfl) rfl) _ _ (by unfold maxLen; omega) (by omega) W hseq;change CallsIn _ _ prog 191 _ _ _ at cS;refine((callsIn_wide (n:=5)).1 cS).mono ?_;rintro e w' ⟨v,ss,rfl,hS,hrow,_,hb⟩;have hkl:(intKeys D).length<=2352:=by
    obtain⟨es,hD,_,_⟩:=hown.entries sD;subst hD;have e:(intKeys (DataW.map es)).length=Maps.size (DataW.map es):=by simp[intKeys,Maps.size]
    omega
   refine⟨v,ss,rfl,fun x=>?_,by rw[hS.length_eq]; exact hkl,hrow,hb⟩;rw[hS.mem_iff];have h1:x ∈ intKeys D↔Maps.has D (.int .i64 x)=true:=by
    have hbd:∀x:Int,Maps.has D (.int .i64 x)=true->0<=x/\x<2352:=fun x hx=>by rw[hf x,Bool.and_eq_true,decide_eq_true_eq]at hx;have:=hfb _ hx.2;omega
    have hp:=Mp.J7 hown (K:=Mp.keysB D 2352) ((Mp.DU D 2352).imp fun h e=>by omega) (Mp.BA hbd);rw[<-hp.mem_iff,Mp.BA hbd]
   rw[h1,hf x];simp
end oH
namespace oH
open Go.RowKit Go.Maps C9
open W8 (is)
theorem XI{w:World}{b:Option Nat}{n:Nat}{scr:List Sc}(h:LoM w b n scr)(hn:n<=4096){i:Nat}(hi:i<n):
 ∃v,uS w v (gW n scr i)/\∀W:World,Below w.heap.size w W->(Instr.lookup 164 (.map b) (.int .i64 (i:Nat)) false).run prog W=.ok v W:=by
 have hkey:=keyOf_int_mk underlying3 (adR (show i<5000 by omega));cases b with
 | none=>
   have h0:gW n scr i = []:=h i hi;refine⟨.slice none 0 0,?_,fun W _=>?_⟩
   ·rw[h0];exact⟨by simp,⟨none,0,0,0,rfl,zl _,fun j hj=>by simp at hj⟩,fun j hj=>by simp at hj⟩
   ·exact Maps.look_nil false sD underlying164 (Vy W) hkey
 | some b=>
   obtain⟨N,hN,D,hown,hat⟩:=h;obtain⟨v,h1,h2⟩:=hat i hi;refine⟨v,h2,fun W hW=>?_⟩;have h3:W.ownsMap prog 3 Mp.Kz b N D:=by have hl:=hown.lt;obtain⟨es,clock,hb',F,hs,hD⟩:=hown;exact⟨es,clock,(hW.block b hl).trans hb',F,hs,hD⟩
   obtain⟨v2,ps,hrun,aaM⟩:=h3.lookup sD underlying164 (Vy W) (zd:=.held (.slice none 0 0)) (zp:=[]) rfl hkey;simp only[Mp.Kz,Option.some.injEq,Prod.mk.injEq]at aaM;rw[h1]at aaM;have:v2=v:=by simpa using aaM.1
   rw[hrun,this]
theorem Bz(n:Nat)(scr:List Sc)(i:Nat):(gW n scr i).length<=2352:=by unfold gW;rw[List.length_map];exact zT (List.length_filter_le _ _) (by simp)
def ZC(f:Nat->Bool)(ss:List Int):Prop:=(∀x:Int,x ∈ ss↔0<=x/\f x.toNat=true)/\ss.length<=2352
def NS(w0:World)(mb:Option Nat)(f:Nat->Bool)(lo:List Int)(r:Nat)(vc va vr:Value)(W:World):Prop:=
 Below w0.heap.size w0 W/\match r with
  | 0=>W.heap.size=w0.heap.size
  | 1=>Bx W w0.heap.size 76 [.map mb]
  | 2=>∃ss,ZC f ss/\W.ownsRow w0.heap.size 3 1 vc ss.length (is ss)
  | 3=>∃ss,ZC f ss/\W.ownsRow w0.heap.size 3 1 va (ss.length+lo.length) (is (ss++lo))
  | _=>∃ss,ZC f ss/\W.ownsRow w0.heap.size 3 1 vr (ss.length+lo.length) (is (ss++lo))
def WY(g gs n cap k hz:Nat)(mb lb:Option Nat)(VR:Value)(i:Nat)(v:Value)(W:World):Prop:=match i with
 | 0=>v=.pointer (some ⟨g,0,none⟩)
 | 1=>v=.pointer (some ⟨g,0,none⟩)
 | 2=>v=.pointer (some ⟨g,2,none⟩)
 | 3=>v=.slice (some ⟨gs,0,none⟩) n cap
 | 4=>v=.int .i64 (k:Nat)
 | 5=>v=.pointer (some ⟨gs,k * 5,none⟩)
 | 6=>v=.pointer (some ⟨gs,k * 5+3,none⟩)
 | 7=>v=.map mb
 | 8=>v=.func (.func 260) #[] #[.pointer (some ⟨hz,0,none⟩)]
 | 9=>True
 | 10=>v=.pointer (some ⟨g,0,none⟩)
 | 11=>v=.pointer (some ⟨g,0,none⟩)
 | 12=>v=.pointer (some ⟨g,4,none⟩)
 | 13=>v=.map lb
 | 14=>v=.int .i64 (k:Nat)
 | 15=>v=VR
 | 16=>True
 | 17=>True
 | _=>True
def Zb:Nat->Option Nat
 | 8=>some 0
 | 9=>some 1
 | 16=>some 2
 | 17=>some 3
 | _=>none
theorem Oy(g gs n cap k hz:Nat)(mb lb:Option Nat)(VR:Value)(i r:Nat)(v:Value)(W W':World)(hk:∀k,Zb i=some k->k<r)(hR:(aam) r W W')(h:WY g gs n cap k hz mb lb VR i v W):WY g gs n cap k hz mb lb VR i v W':=by unfold WY at h ⊢;split at h <;> first | exact h
theorem mD{w:World}{g:Nat}{M:aP}{X R:Nat->Prop}{N:Nat}(h:gZ w g M X R)(ho:M.Ok N){k:Nat}(hk:k<M.n):
 Calls prog 107 #[.pointer (some ⟨g,0,none⟩),.int .i64 (k:Nat)] w fun e w'=>∃v,e=.returned v/\w'.ownsRow w.heap.size 3 1 v (M.gone k).length (is (M.gone k))/\Below w.heap.size w w':=by
 obtain⟨L,hc⟩:=h;obtain⟨VR,adk,hlook⟩:=XI (hc.lost w fun _ _=>rfl) ho.n.2 hk;have nz:k<L.S.length:=by rw[hc.n]; exact hk
 have hm:QV w (bF jS L.S k).e (M.sec k).er:=by have:=hc.maps k true nz;unfold SM.W at this;rwa[zj rfl,hc.at_]at this
 have hfb:=(ho.sec k hk).er;have hn:=ho.n.2;obtain⟨n,hnn⟩:∃n,n=M.n:=⟨_,rfl⟩;have hkn:k<n:=by rw[hnn]; exact hk
 have uP:Hid (∀W:World,Below w.heap.size w W->W.cell? ⟨g,2,none⟩=some (.slice (some ⟨L.gs,0,none⟩) n L.cap)/\W.cell? ⟨g,4,none⟩=some (.map L.lo)/\W.cell? ⟨L.gs,k * 5+3,none⟩=some (.map (bF jS L.S k).e)):=zH fun W hW=>by have h1:=hc.below hW;obtain⟨c0,c1,c2,c3,c4⟩:=h1.cells;rw[h1.n,<-hnn]at c2;exact⟨c2,c4,h1.gJ nz (j:=3) (by decide)⟩
 have HLK:=zH hlook;have HM:=zH hm;have HFB:=zH hfb;have HVL:=zH adk;generalize L.gs=gs at *;generalize L.cap=cap at *;generalize L.lo=lb at *;generalize (bF jS L.S k).e=mb at *;have HIX:=zH fun w':World=>aH (P:=prog) underlying163 (by kernel_rfl:(prog.info? 175).map (·.size)=some 5) (a:=some ⟨gs,0,none⟩) (n:=n) (cap:=cap) (k:=k) (b:=gs) (off:=0) rfl hkn (k:Int) rfl w'
 simp only[Nat.zero_add]at HIX;clear hc ho hlook hm hfb adk hnn;go_enter func107,ntmps107;go_upto_region 1 with (fail)
 obtain⟨hz,hhz⟩:∃hz,hz=w.heap.size:=⟨_,rfl⟩;have HHZ:=zH hhz;clear hhz;refine zZ (by kernel_rfl) (aam) (fun r a W=>NS w mb (M.sec k).er (gW M.n M.scr k) r (a.tmps.getD 15 undef) (a.tmps.getD 22 undef) (a.tmps.getD 5 undef) W) (WY g gs n cap k hz mb lb VR) (fun _=>false) Zb 4 (by kernel_rfl) (by kernel_rfl) (.inl (by kernel_rfl)) (XD 15 22 5 (by kernel_rfl) (by kernel_rfl) (by kernel_rfl) (NS w mb (M.sec k).er (gW M.n M.scr k))) (Oy g gs n cap k hz mb lb VR) (⟨(zB _ _).drew,rfl⟩) ⟨?_,?_,?_,?s3,?_,?s5,?_,?s7,?s8,?s9,?_,?_,?_,?s13,?_,?s15,?s16,?s17,trivial⟩ ?_;all_goals first
  | (intro r a W hc hsz hold ah hnot hlo hhi hrk
     have o0:a.tmps.getD 0 undef=.pointer (some ⟨g,0,none⟩):=hold 0 (by kernel_rfl);have o1:a.tmps.getD 1 undef=.int .i64 (k:Nat):=hold 1 (by kernel_rfl);try have d0:=zV 6 (.pointer (some ⟨g,0,none⟩)) (ah 0 rfl rfl _ rfl)
     try have d1:=zV 7 (.pointer (some ⟨g,0,none⟩)) (ah 1 rfl rfl _ rfl)
     try have d5:=zV 11 (.pointer (some ⟨gs,k * 5,none⟩)) (ah 5 rfl rfl _ rfl)
     try have d10:=zV 16 (.pointer (some ⟨g,0,none⟩)) (ah 10 rfl rfl _ rfl)
     try have d11:=zV 17 (.pointer (some ⟨g,0,none⟩)) (ah 11 rfl rfl _ rfl)
     clear hsz hold ah hnot hlo hhi hrk;refine ai rfl (ag rfl) ?_;refine kK (jB _ _ _) rfl fun K hK=>?_
     go_simp;exact hK)
  | skip
 try case s3=>
  intro r a W hc hsz hold ah hnot hlo hhi hrk;have d2:=zV 8 (.pointer (some ⟨g,2,none⟩)) (ah 2 (by kernel_rfl) rfl _ rfl);have q:=(uP.out W hc.1).1;clear hsz hold ah hnot hlo hhi hrk;refine ai rfl (ag rfl) ?_;refine kK (v:=.slice (some ⟨gs,0,none⟩) n cap) (jB _ _ _) rfl fun K hK=>?_
  go_simp;exact hK
 try case s5=>
  intro r a W hc hsz hold ah hnot hlo hhi hrk;have d3:=zV 9 (.slice (some ⟨gs,0,none⟩) n cap) (ah 3 (by kernel_rfl) rfl _ rfl);have d4:=zV 10 (.int .i64 (k:Nat)) (ah 4 (by kernel_rfl) rfl _ rfl);have q:=HIX.out W;clear hsz hold ah hnot hlo hhi hrk;refine ai rfl (ag rfl) ?_;refine kK (v:=.pointer (some ⟨gs,k * 5,none⟩)) (jB _ _ _) rfl fun K hK=>?_
  go_simp;exact hK
 try case s7=>
  intro r a W hc hsz hold ah hnot hlo hhi hrk;have d6:=zV 12 (.pointer (some ⟨gs,k * 5+3,none⟩)) (ah 6 (by kernel_rfl) rfl _ rfl);have q:=(uP.out W hc.1).2.2;clear hsz hold ah hnot hlo hhi hrk;refine ai rfl (ag rfl) ?_;refine kK (v:=.map mb) (jB _ _ _) rfl fun K hK=>?_
  go_simp;exact hK
 try case s8=>
  intro r a W hc hsz hold ah hnot hlo hhi hrk;have hr:=hrk 0 rfl;subst hr;have d7:=zV 13 (.map mb) (ah 7 (by kernel_rfl) rfl _ rfl);have e7:=zq d7;have hs:14<a.tmps.size:=by rw[hsz]; exact(by decide:14<27)
  clear hsz hold ah hnot hlo hhi hrk;refine ai rfl (ag rfl) ?_;have e13:a.eval (.tmp 13)=.map mb:=d7;obtain⟨hbw,hz0⟩:=hc;refine qO (C:=fun a W=>NS w mb (M.sec k).er (gW M.n M.scr k) 1 (a.tmps.getD 15 undef) (a.tmps.getD 22 undef) (a.tmps.getD 5 undef) W) fun K hK=>?_
  go_simp;refine(keys12 mb W).mono ?_;rintro e w' ⟨rfl,rfl⟩;refine hK _ _ (jB _ _ _) ⟨hbw.trans ((zB _ _).alloc hbw.size _),?_⟩ ?_
  ·show Bx _ w.heap.size _ _;have:=Bx.new W 76 [.map mb];rwa[hz0]at this
  ·show _=_;rw[HHZ.out,<-hz0];rfl
 try case s9=>
  intro r a W hc hsz hold ah hnot hlo hhi hrk;have hr:=hrk 1 rfl;subst hr;have d8:=zV 14 (.func (.func 260) #[] #[.pointer (some ⟨hz,0,none⟩)]) (ah 8 (by kernel_rfl) rfl _ rfl);have e8:=zq d8;have hs:15<a.tmps.size:=by rw[hsz]; exact(by decide:15<27)
  clear hsz hold ah hnot hlo hhi hrk;refine ai rfl (ag rfl) ?_;obtain⟨hbw,hbx⟩:=hc;have hbx:Bx W w.heap.size 76 [.map mb]:=hbx;have ac6:=Oi hbx (QV.kept HM.out fun c hcb=>hbw.block c (by
   have hm:=HM.out;rw[hcb]at hm;obtain⟨es,clock,hb⟩:=hm.map;exact(Array.getElem?_eq_some_iff.1 hb).1)) HFB.out
  rw[<-HHZ.out]at ac6;refine qO (C:=fun a W=>NS w mb (M.sec k).er (gW M.n M.scr k) 2 (a.tmps.getD 15 undef) (a.tmps.getD 22 undef) (a.tmps.getD 5 undef) W) fun K hK=>?_
  go_simp;refine ac6.mono ?_;rintro e w' ⟨v,ss,rfl,h1,h2,h3,h4⟩;refine hK _ _ (jB _ _ _) ⟨hbw.trans (h4.mono hbw.size),ss,⟨h1,h2⟩,?_⟩ trivial;rw[dY hs];exact jb h3 hbw.size
 try case s13=>
  intro r a W hc hsz hold ah hnot hlo hhi hrk;have d12:=zV 18 (.pointer (some ⟨g,4,none⟩)) (ah 12 (by kernel_rfl) rfl _ rfl);have q:=(uP.out W hc.1).2.1;clear hsz hold ah hnot hlo hhi hrk;refine ai rfl (ag rfl) ?_;refine kK (v:=.map lb) (jB _ _ _) rfl fun K hK=>?_
  go_simp;exact hK
 try case s15=>
  intro r a W hc hsz hold ah hnot hlo hhi hrk;have d13:=zV 19 (.map lb) (ah 13 (by kernel_rfl) rfl _ rfl);have d14:=zV 20 (.int .i64 (k:Nat)) (ah 14 (by kernel_rfl) rfl _ rfl);have q:=HLK.out W hc.1;clear hsz hold ah hnot hlo hhi hrk;refine ai rfl (ag rfl) ?_;refine kK (v:=VR) (jB _ _ _) rfl fun K hK=>?_
  go_simp;exact hK
 try case s16=>
  intro r a W hc hsz hold ah hnot hlo hhi hrk;have hr:=hrk 2 rfl;subst hr;have x9:=ah 9 (by kernel_rfl) rfl _ rfl;have d15:=zV 21 VR (ah 15 (by kernel_rfl) rfl _ rfl);have e15:=zq d15;have hs:22<a.tmps.size:=by rw[hsz]; exact(by decide:22<27)
  clear hsz hold ah hnot hlo hhi hrk;refine ai rfl (ag rfl) ?_;obtain⟨hbw,ss,hss,hown⟩:=hc;have e22:a.eval (.tmp 21)=VR:=d15;obtain⟨i0,hi,hz0,hz1,hz2⟩:=info_parts infoInt9;refine qO (C:=fun a W=>NS w mb (M.sec k).er (gW M.n M.scr k) 3 (a.tmps.getD 15 undef) (a.tmps.getD 22 undef) (a.tmps.getD 5 undef) W) fun K hK=>?_
  have hl:=hss.2;have hll:=Bz M.n M.scr k;refine Ui (.tmp 15) (.tmp 21) rfl underlying31 hi hz0 hz1 hz2 rfl (by omega) hown rfl (W8.uS.reads (HVL.out.keep hbw)) e22 (W8.TM _) (by unfold maxLen; omega) (by omega) hbw.size fun v' w' h1 h2=>?_
  refine hK _ _ (jB _ _ _) ⟨hbw.grown h2 hbw.size (dP hown),ss,hss,?_⟩ trivial;rw[dY hs,W8.Bo];exact h1
 try case s17=>
  intro r a W hc hsz hold ah hnot hlo hhi hrk;have hr:=hrk 3 rfl;subst hr;have x16:=ah 16 (by kernel_rfl) rfl _ rfl;have hs:5<a.tmps.size:=by rw[hsz]; exact(by decide:5<27)
  clear hsz hold ah hnot hlo hhi hrk;refine ai rfl (ag rfl) ?_;obtain⟨hbw,ss,hss,hown⟩:=hc;refine qO (C:=fun a W=>NS w mb (M.sec k).er (gW M.n M.scr k) 4 (a.tmps.getD 15 undef) (a.tmps.getD 22 undef) (a.tmps.getD 5 undef) W) fun K hK=>?_
  go_simp;refine hK _ _ (jB _ _ _) ⟨hbw,ss,hss,?_⟩ trivial;rw[dY hs,<-Array.getD_eq_getD_getElem?];exact hown
 ·intro a W hC hd hsz hold hval;obtain⟨hbw,ss,hss,hown⟩:=hC;obtain⟨u5,hu5⟩:∃u5,u5=a.tmps.getD 5 undef:=⟨_,rfl⟩;rw[<-hu5]at hown;clear hval;have d5:a.tmps.getD 5 undef=u5:=hu5.symm;obtain⟨G,hG,ha⟩:=cO [5,6,7,8,9,10,11,12,13,14,15,16,17,18,19,20,21,22] (by kernel_rfl) hd hsz hold;simp only[hG]at d5;rw[ha];clear ha hG hd hsz hold;simp only[bI,List.setIfInBounds_toArray,List.set,d5];clear d5;have hll:=Bz M.n M.scr k;have hsl:=hss.2;have HSS:=zH hss;clear hss;have EH:=zH (abD _ _ W w.heap.size _ hown (by rw[List.length_append]) (by omega));have ng:=zH (dP hown);have HBW:=zH hbw;have HSL:=zH hsl;have ZV:=zH hll;clear hown hbw uP HLK HIX hu5 hsl hll;go_wp2_with fail;refine EH.out.mono ?_;rintro e w2 ⟨rfl,ho2,hg2⟩;have hb2:=HBW.out.grown hg2 HBW.out.size ng.out;have HB2:=zH hb2;have aer:=zH (dP ho2);have HC2:=zH (Oj _ _ w2 w.heap.size _ ho2 (by rw[List.length_mergeSort,List.length_append]) (by have:=HSL.out; have:=ZV.out; omega));clear ho2 hg2 hb2;go_wp2_with fail;refine HC2.out.mono ?_;rintro e w3 ⟨v3,rfl,ho3,hg3⟩;have HB3:=zH (HB2.out.grown hg3 HB2.out.size aer.out);have hsp:=Df (M:=(ss++gW M.n M.scr k).mergeSort fun x y=>decide (x<=y)) (by
   have:=List.pairwise_mergeSort (le:=fun x y:Int=>decide (x<=y)) (fun a b c h1 h2=>by simp only[decide_eq_true_eq]at *; omega) (fun a b=>by simp only[Bool.or_eq_true,decide_eq_true_eq]; omega) (ss++gW M.n M.scr k);exact this.imp fun h=>of_decide_eq_true h)
  have hgo:Lib.compact ((ss++gW M.n M.scr k).mergeSort fun x y=>decide (x<=y))=M.gone k:=by
   refine Qe hsp.1 (FY M k) fun z=>?_
   rw[hsp.2,(List.mergeSort_perm _ _).mem_iff,List.mem_append,HSS.out.1,pI];unfold gW;simp only[List.mem_map,List.mem_filter,List.mem_range];unfold aP.rq;constructor
   ·rintro(⟨h1,h2⟩ | ⟨j,⟨h1,h2⟩,rfl⟩)
    ·exact⟨z.toNat,HFB.out _ h2,by rw[h2]; rfl,by omega⟩
    ·exact⟨j,h1,by rw[h2,Bool.or_true],rfl⟩
   ·rintro⟨j,h1,h2,rfl⟩;rw[Bool.or_eq_true]at h2;rcases h2 with h2 | h2
    ·exact .inl ⟨by omega,by simpa using h2⟩
    ·exact .inr ⟨j,⟨h1,h2⟩,rfl⟩
  rw[hgo]at ho3;have EP:=zH ho3;clear ho3 hg3 hsp hgo;go_wp2_with fail;go_ret;exact⟨_,rfl,EP.out,HB3.out⟩
end oH
namespace E1
open Go.RowKit xA
def b2(n:Int):List UInt8:=(dQ n 2).1
def b4(n:Int):List UInt8:=(dQ n 4).1
theorem Ry{n:Int}{k:Nat}(h:jY n k=true):(dQ n k).1.length=k/\(oI (dQ n k).1:Int)=n:=by
 unfold dQ;rw[zj h];unfold jY at h;rw[Bool.and_eq_true,decide_eq_true_eq,decide_eq_true_eq]at h;refine⟨rU _ _,?_⟩;simp only;rw[LK,Nat.mod_eq_of_lt]
 ·omega
 ·have:=h.2;rw[Nat.div_eq_zero_iff]at this;rcases this with h0 | h0
  ·exact absurd h0 (by simp)
  ·exact h0
theorem oO{n:Int}(h0:0<=n)(h1:n<65536):(b2 n).length=2/\(oI (b2 n):Int)=n:=Ry (by rw[Jy]; exact zt ⟨h0,h1⟩)
theorem yt{n:Int}(h0:0<=n)(h1:n<4294967296):(b4 n).length=4/\(oI (b4 n):Int)=n:=Ry (by rw[Jz]; exact zt ⟨h0,h1⟩)
def jM(x:T.az):List UInt8:=b2 x.num++b2 x.bP++b4 x.st++b4 x.len++b4 x.nx++b2 x.cZ++b2 x.pk
def fn(f:Bool):Int:=if f=true then 1 else 0
def yO(q cl:Int)(f:Bool)(n:Int):List UInt8:=[80,77,65,49]++b4 q++b2 cl++b2 (fn f)++b2 n
def iP(q cl:Int)(f:Bool)(l:List T.az):List UInt8:=yO q cl f l.length++l.flatMap jM
def dA(q cl:Int)(f:Bool)(l:List T.az):List UInt8:=iP q cl f l++jW (C.crc 0 (iP q cl f l))
theorem Yy(x:T.az):(jM x).length<=20:=by have h1:=ig x.num 2; have h2:=ig x.bP 2; have h3:=ig x.st 4; have h4:=ig x.len 4; have h5:=ig x.nx 4; have h6:=ig x.cZ 2; have h7:=ig x.pk 2;unfold jM b2 b4;simp only[List.length_append];omega
theorem MI(l:List T.az):(l.flatMap jM).length<=20 * l.length:=by
 induction l with
 | nil=>simp
 | cons x l ih=>
   rw[List.flatMap_cons,List.length_append,List.length_cons];have:=Yy x;omega
theorem MJ(q cl:Int)(f:Bool)(n:Int):(yO q cl f n).length<=14:=by have h1:=ig q 4; have h2:=ig cl 2; have h3:=ig (fn f) 2; have h4:=ig n 2;unfold yO b2 b4;simp only[List.length_append,List.length_cons,List.length_nil];omega
theorem xC(q cl:Int)(f:Bool)(l:List T.az):(iP q cl f l).length<=14+20 * l.length:=by have:=MJ q cl f l.length; have:=MI l;unfold iP;rw[List.length_append]; omega
structure NT (x:T.az):Prop where
 a:0<=x.num/\x.num<65536
 b:0<=x.bP/\x.bP<65536
 c:0<=x.st/\x.st<4294967296
 d:0<=x.len/\x.len<4294967296
 e:0<=x.nx/\x.nx<4294967296
 f:0<=x.cZ/\x.cZ<65536
 g:0<=x.pk/\x.pk<65536
theorem NT.length{x:T.az}(h:NT x):(jM x).length=20:=by unfold jM;simp only[List.length_append,(oO h.a.1 h.a.2).1,(oO h.b.1 h.b.2).1,(yt h.c.1 h.c.2).1,(yt h.d.1 h.d.2).1,(yt h.e.1 h.e.2).1,(oO h.f.1 h.f.2).1,(oO h.g.1 h.g.2).1]
def nX(s:List UInt8)(o:Nat):T.az:=⟨dK s o 2,dK s (o+2) 2,dK s (o+4) 4,dK s (o+8) 4,dK s (o+12) 4,dK s (o+16) 2,dK s (o+18) 2⟩
theorem Yx{x:T.az}(h:NT x)(a c:List UInt8){o:Nat}(ha:a.length=o):nX (a++jM x++c) o=x:=by
 obtain⟨a1,a2⟩:=oO h.a.1 h.a.2;obtain⟨b1,b2'⟩:=oO h.b.1 h.b.2;obtain⟨c1,c2⟩:=yt h.c.1 h.c.2;obtain⟨d1,d2⟩:=yt h.d.1 h.d.2;obtain⟨e1,e2⟩:=yt h.e.1 h.e.2;obtain⟨f1,f2⟩:=oO h.f.1 h.f.2;obtain⟨g1,g2⟩:=oO h.g.1 h.g.2;unfold nX jM;generalize b2 x.num=A at *;generalize b2 x.bP=B at *;generalize b4 x.st=C at *;generalize b4 x.len=D at *;generalize b4 x.nx=E at *;generalize b2 x.cZ=F at *;generalize b2 x.pk=G at *;have r1:dK (a++(A++B++C++D++E++F++G)++c) o 2=oI A:=by have:=kX a A (B++C++D++E++F++G++c) ha a1;simpa only[List.append_assoc]using this
 have r2:dK (a++(A++B++C++D++E++F++G)++c) (o+2) 2=oI B:=by have:=kX (a++A) B (C++D++E++F++G++c) (o:=o+2) (by simp only[List.length_append]; omega) b1;simpa only[List.append_assoc]using this
 have r3:dK (a++(A++B++C++D++E++F++G)++c) (o+4) 4=oI C:=by have:=kX (a++A++B) C (D++E++F++G++c) (o:=o+4) (by simp only[List.length_append]; omega) c1;simpa only[List.append_assoc]using this
 have r4:dK (a++(A++B++C++D++E++F++G)++c) (o+8) 4=oI D:=by have:=kX (a++A++B++C) D (E++F++G++c) (o:=o+8) (by simp only[List.length_append]; omega) d1;simpa only[List.append_assoc]using this
 have r5:dK (a++(A++B++C++D++E++F++G)++c) (o+12) 4=oI E:=by have:=kX (a++A++B++C++D) E (F++G++c) (o:=o+12) (by simp only[List.length_append]; omega) e1;simpa only[List.append_assoc]using this
 have r6:dK (a++(A++B++C++D++E++F++G)++c) (o+16) 2=oI F:=by have:=kX (a++A++B++C++D++E) F (G++c) (o:=o+16) (by simp only[List.length_append]; omega) f1;simpa only[List.append_assoc]using this
 have r7:dK (a++(A++B++C++D++E++F++G)++c) (o+18) 2=oI G:=by have:=kX (a++A++B++C++D++E++F) G c (o:=o+18) (by simp only[List.length_append]; omega) g1;simpa only[List.append_assoc]using this
 rw[r1,r2,r3,r4,r5,r6,r7,a2,b2',c2,d2,e2,f2,g2]
theorem FW{l:List T.az}(h:∀x ∈ l,NT x):(l.flatMap jM).length=20 * l.length:=by
 induction l with
 | nil=>simp
 | cons x l ih=>
   rw[List.flatMap_cons,List.length_append,List.length_cons,(h x (by simp)).length,ih fun y hy=>h y (by simp[hy])];omega
def dI(s:List UInt8):Nat:=dK s 4 4
def oQ(s:List UInt8):Nat:=dK s 8 2
def dH(s:List UInt8):Bool:=dK s 10 2 == 1
def mi(s:List UInt8):Nat:=dK s 12 2
def iO(s:List UInt8)(n:Nat):List T.az:=(List.range n).map fun k=>nX s (14+20 * k)
theorem jJ(s:List UInt8)(n:Nat):(iO s n).length=n:=by simp[iO]
theorem Qm(s:List UInt8)(n:Nat):iO s (n+1)=iO s n++[nX s (14+20 * n)]:=by simp[iO,List.range_succ]
def okD(cap:Int)(s:List UInt8):Bool:=
 decide (16<=s.length/\s.length=16+20 * mi s) && T.aF cap (oQ s) (dH s) (iO s (mi s)) && decide (dI s<=2147483647) && decide (dA (dI s) (oQ s) (dH s) (iO s (mi s))=s)
theorem ug{cap:Int}{s:List UInt8}:okD cap s=true↔(16<=s.length/\s.length=16+20 * mi s)/\T.aQ cap (oQ s) (dH s) (iO s (mi s))/\dI s<=2147483647/\dA (dI s) (oQ s) (dH s) (iO s (mi s))=s:=by unfold okD;simp only[Bool.and_eq_true,decide_eq_true_eq,T.ay,and_assoc]
theorem Dq{cap cl:Int}{fin:Bool}{l:List T.az}(hv:T.aQ cap cl fin l):∀x ∈ l,NT x:=by
 intro x hx;obtain⟨i,hi,rfl⟩:=List.getElem_of_mem hx;have e:l[i]=T.tr l i:=by simp[T.tr,hi]
 rw[e];have h1:=T.aQ.at hv hi;have h2:=hv.2.1;have h0:=hv.2.2.1;obtain⟨o1,o2,o3,o4,o5,o6,o7,o8,o9,JS,QQ,JU,XK,Ue⟩:=hv.2.2.2.2.2.1 i hi;have hs:1<=(T.tr l i).bP:=by have:=T.okR.mono hv.2.2.2.2.2.1 0 (i+1) (by omega);rw[Nat.zero_add,T.uw,T.eQ]at this;exact this
 exact⟨by omega,by omega,by omega,by omega,by omega,by omega,by omega⟩
theorem abM{l:List T.az}{i:Nat}(h:i<l.length):T.tr l i ∈ l:=by simp[T.tr,h]
theorem U0{l:List T.az}{k:Nat}(hk:k<l.length):l=l.take k++T.tr l k :: l.drop (k+1):=by
 have e:T.tr l k=l[k]:=by simp[T.tr,hk]
 rw[e,<-List.drop_eq_getElem_cons hk,List.take_append_drop]
theorem SH{q cl:Int}{fin:Bool}{l:List T.az}(hq:0<=q/\q<4294967296)(hc:0<=cl/\cl<65536)(hn:l.length<65536)(hl:∀x ∈ l,NT x):
 (dA q cl fin l).length=16+20 * l.length/\(dI (dA q cl fin l):Int)=q/\(oQ (dA q cl fin l):Int)=cl/\dH (dA q cl fin l)=fin/\mi (dA q cl fin l)=l.length/\iO (dA q cl fin l) l.length=l:=by
 obtain⟨a1,a2⟩:=yt hq.1 hq.2;obtain⟨b1,b2'⟩:=oO hc.1 hc.2;obtain⟨c1,c2⟩:=oO (n:=fn fin) (by unfold fn; split <;> omega) (by unfold fn; split <;> omega);obtain⟨d1,d2⟩:=oO (n:=(l.length:Int)) (by omega) (by omega);have hlen:=FW hl;have he:dA q cl fin l = [80,77,65,49]++b4 q++b2 cl++b2 (fn fin)++b2 l.length++(l.flatMap jM++jW (C.crc 0 (iP q cl fin l))):=by simp only[dA,iP,yO,List.append_assoc]
 have hcr:(jW (C.crc 0 (iP q cl fin l))).length=2:=rfl;generalize jW (C.crc 0 (iP q cl fin l))=Z at he hcr;have htr:∀k,k<l.length->nX (dA q cl fin l) (14+20 * k)=T.tr l k:=fun k hk=>by
  have hx:=hl _ (abM hk);have e1:l.flatMap jM=(l.take k).flatMap jM++jM (T.tr l k)++(l.drop (k+1)).flatMap jM:=by
   conv=>lhs; rw[U0 hk]
   rw[List.flatMap_append,List.flatMap_cons,List.append_assoc]
  have e2:((l.take k).flatMap jM).length=20 * k:=by rw[FW fun x hx=>hl x (List.mem_of_mem_take hx),List.length_take]; omega
  have:=Yx hx ([80,77,65,49]++b4 q++b2 cl++b2 (fn fin)++b2 l.length++(l.take k).flatMap jM) ((l.drop (k+1)).flatMap jM++Z) (o:=14+20 * k) (by simp only[List.length_append,List.length_cons,List.length_nil]; omega);rw[he,e1];simpa only[List.append_assoc]using this
 have r1:dK (dA q cl fin l) 4 4=oI (b4 q):=by have:=kX [80,77,65,49] (b4 q) (b2 cl++b2 (fn fin)++b2 l.length++(l.flatMap jM++Z)) (o:=4) rfl a1;rw[he];simpa only[List.append_assoc]using this
 have r2:dK (dA q cl fin l) 8 2=oI (b2 cl):=by have:=kX ([80,77,65,49]++b4 q) (b2 cl) (b2 (fn fin)++b2 l.length++(l.flatMap jM++Z)) (o:=8) (by simp only[List.length_append,List.length_cons,List.length_nil]; omega) b1;rw[he];simpa only[List.append_assoc]using this
 have r3:dK (dA q cl fin l) 10 2=oI (b2 (fn fin)):=by have:=kX ([80,77,65,49]++b4 q++b2 cl) (b2 (fn fin)) (b2 l.length++(l.flatMap jM++Z)) (o:=10) (by simp only[List.length_append,List.length_cons,List.length_nil]; omega) c1;rw[he];simpa only[List.append_assoc]using this
 have r4:dK (dA q cl fin l) 12 2=oI (b2 l.length):=by have:=kX ([80,77,65,49]++b4 q++b2 cl++b2 (fn fin)) (b2 l.length) (l.flatMap jM++Z) (o:=12) (by simp only[List.length_append,List.length_cons,List.length_nil]; omega) d1;rw[he];simpa only[List.append_assoc]using this
 refine⟨?_,?_,?_,?_,?_,?_⟩
 ·rw[he];simp only[List.length_append,List.length_cons,List.length_nil];omega
 ·unfold dI; rw[r1]; exact a2
 ·unfold oQ; rw[r2]; exact b2'
 ·unfold dH; rw[r3];have:oI (b2 (fn fin))=if fin=true then 1 else 0:=by
   have h:=c2;generalize oI (b2 (fn fin))=z at h ⊢;unfold fn at h;by_cases hf:fin=true
   ·rw[zj hf]at h ⊢; omega
   ·rw[zi hf]at h ⊢; omega
  rw[this];cases fin <;> rfl
 ·unfold mi; rw[r4]; omega
 ·apply List.ext_getElem
  ·simp[iO]
  ·intro i h1 h2;simp only[iO,List.getElem_map,List.getElem_range];rw[htr i h2];simp[T.tr,h2]
theorem XL{cap q cl:Int}{fin:Bool}{l:List T.az}(hv:T.aQ cap cl fin l)(hq:0<=q)(hq2:q<=2147483647):
 okD cap (dA q cl fin l)=true/\(dI (dA q cl fin l):Int)=q/\(oQ (dA q cl fin l):Int)=cl/\dH (dA q cl fin l)=fin/\mi (dA q cl fin l)=l.length/\iO (dA q cl fin l) (mi (dA q cl fin l))=l/\(dA q cl fin l).length=16+20 * l.length:=by
 have hl:=Dq hv;obtain⟨h1,h2,h3,h4,h5,h6⟩:=SH (fin:=fin) ⟨hq,by omega⟩ (show 0<=cl/\cl<65536 by have:=hv.2.2.2; omega) (by have:=hv.2.2.1; omega) hl;refine⟨ug.2 ?_,h2,h3,h4,h5,by rw[h5,h6],h1⟩;rw[h2,h3,h4,h5,h6];refine⟨⟨by omega,h1⟩,hv,by omega,rfl⟩
end E1
end Go.Proofs.YtfnehkmhcmkhjaaGreat
