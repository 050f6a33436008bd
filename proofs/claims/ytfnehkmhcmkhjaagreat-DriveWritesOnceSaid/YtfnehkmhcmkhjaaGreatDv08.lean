/- Parts:XInr XQc -/
import Derived.Test.YtfnehkmhcmkhjaaGreatDvAl
import Derived.Test.YtfnehkmhcmkhjaaGreatDv04
import Derived.Test.YtfnehkmhcmkhjaaGreatDv02
set_option maxRecDepth 100000
set_option maxHeartbeats 8000000
set_option linter.unusedVariables false
namespace Go.Proofs.YtfnehkmhcmkhjaaGreat
open Tryz
section
open Go.RowKit
section
variable {P:Program} {Q:Exit->Act->World->Prop}
def dC(d:Option Tmp)(a:Act):Value:=match d with
 | some t=>a.tmps.getD t undef
 | none=>undef
def kept(d:Option Tmp)(v:Value):Value:=match d with
 | some _=>v
 | none=>undef
def Y5(P:Program)(Q:Exit->Act->World->Prop)(R:World->World->Prop)(C:World->Prop)(V:Nat->Value->World->Prop)(sk:Nat->Bool)(l:List Oper)(a0:Act)(i:Nat)(o:Oper):Prop:=
 ∀a w,C w->a.tmps.size=a0.tmps.size->(∀t,eP l t=true->a.tmps.getD t undef=a0.tmps.getD t undef)->
   (∀k,(o.after.toList.any fun e=>e.on == k && Region.binds .any e)=true->sk k=false->∀(ok:Oper),l[k]? = some ok->V k (dC ok.dst a) w)->
   if sk i then Region.wanted o (yielded l.toArray a.tmps)=false
   else Region.wanted o (yielded l.toArray a.tmps)=true/\o.wp P a w (fun a' w'=>∃v,a'=a.put o.dst v/\R w w'/\V i (kept o.dst v) w') Q
def rM(P:Program)(Q:Exit->Act->World->Prop)(R:World->World->Prop)(C:World->Prop)(V:Nat->Value->World->Prop)(sk:Nat->Bool)(l:List Oper)(a0:Act):Nat->List Oper->Prop
 | _,[]=>True
 | i,o :: r=>Y5 P Q R C V sk l a0 i o/\rM P Q R C V sk l a0 (i+1) r
theorem rM.at{R:World->World->Prop}{C:World->Prop}{V:Nat->Value->World->Prop}{sk:Nat->Bool}{l:List Oper}{a0:Act}:∀{i:Nat}{r:List Oper},rM P Q R C V sk l a0 i r->∀{j:Nat}{o:Oper},r[j]? = some o->Y5 P Q R C V sk l a0 (i+j) o
 | i,[],_,j,o,h=>by simp at h
 | i,x :: r,h,0,o,ho=>by
   have:x=o:=by simpa using ho
   subst this; exact h.1
 | i,x :: r,h,j+1,o,ho=>by have:=rM.at h.2 (j:=j) (o:=o) (by simpa using ho);rwa[Nat.add_assoc,Nat.add_comm 1 j]at this
def kT(l:List Oper)(n:Nat):Bool:=
 (List.range l.length).all (fun i=>((l[i]?).map fun o=>o.after.toList.all (fun e=>!Region.binds .any e || Nat.blt e.on i) && (match o.dst with | some t=>Nat.blt t n | none=>true)).getD true) &&
 decide ((l.filterMap (·.dst)).Nodup)
theorem dB{l:List Oper}{n:Nat}(h:kT l n=true):(∀(i:Nat)(o:Oper),l[i]? = some o->(∀e ∈ o.after,Region.binds .any e=true->e.on<i)/\∀t,o.dst=some t->t<n)/\
 ∀(i j:Nat)(oi oj:Oper)(t:Tmp),l[i]? = some oi->l[j]? = some oj->oi.dst=some t->oj.dst=some t->i=j:=by
 unfold kT at h;rw[Bool.and_eq_true]at h;obtain⟨h1,h2⟩:=h;refine⟨fun i o ho=>?_,?_⟩
 ·have hi:=(List.getElem?_eq_some_iff.1 ho).1;have:=List.all_eq_true.1 h1 i (List.mem_range.2 hi);rw[ho]at this;simp only[Option.map_some,Option.getD_some,Bool.and_eq_true]at this;obtain⟨g2,g3⟩:=this;refine⟨fun e he hbi=>?_,fun t ht=>?_⟩
  ·have:=List.all_eq_true.1 g2 e (Array.mem_toList_iff.2 he);rw[hbi,Bool.not_true,Bool.false_or]at this;exact Nat.blt_eq ▸ this
  ·rw[ht]at g3; exact Nat.blt_eq ▸ g3
 ·have hn:=of_decide_eq_true h2;clear h1 h2
  induction l with
  | nil=>intro i j oi oj t h; simp at h
  | cons x r ih=>
    intro i j oi oj t hi hj hti htj;have hnr:(r.filterMap (·.dst)).Nodup:=by
     cases hx:x.dst with
     | none=>simpa[List.filterMap_cons,hx]using hn
     | some u=>simp only[List.filterMap_cons,hx]at hn; exact(List.nodup_cons.1 hn).2
    have hx0:∀(k:Nat)(ok:Oper),r[k]? = some ok->ok.dst=some t->x.dst≠some t:=fun k ok hk hd hx=>by simp only[List.filterMap_cons,hx]at hn;exact(List.nodup_cons.1 hn).1 (List.mem_filterMap.2 ⟨ok,List.mem_of_getElem? hk,hd⟩)
    cases i with
    | zero=>
      cases j with
      | zero=>rfl
      | succ j=>
        have e:x=oi:=by simpa using hi
        subst e;exact absurd hti (hx0 j oj (by simpa using hj) htj)
    | succ i=>
      cases j with
      | zero=>
        have e:x=oj:=by simpa using hj
        subst e;exact absurd htj (hx0 i oi (by simpa using hi) hti)
      | succ j=>
        have:=ih hnr i j oi oj t (by simpa using hi) (by simpa using hj) hti htj;omega
theorem ag{o:Oper}{y:Nat->Option Bool}(h:o.guard=none):Region.wanted o y=true:=by simp[Region.wanted,h]
theorem aS{o:Oper}{ops:Array Oper}{tmps:Array Value}{j:Nat}{want b:Bool}{t:Tmp}(h:o.guard=some (j,want))(hd:((ops[j]?).bind (·.dst))=some t)(hv:tmps.getD t undef=.bool b):Region.wanted o (yielded ops tmps)=(b == want):=by
 have hs:tmps[t]? = some (.bool b):=by
  by_cases hlt:t<tmps.size
  ·rw[Array.getElem?_eq_getElem hlt];simp only[Array.getD,hlt,dif_pos]at hv;exact congrArg some hv
  ·simp only[Array.getD,hlt,dif_neg,not_false_eq_true]at hv;cases hv
 simp[Region.wanted,h,yielded,hd,hs]
theorem ak{R:World->World->Prop}{V:Nat->Value->World->Prop}{i:Nat}{o:Oper}{a:Act}{w:World}{v:Value}(hr:R w w)(hv:V i (kept o.dst v) w)(h:∀K:Act->World->Prop,K (a.put o.dst v) w->o.wp P a w K Q):
 o.wp P a w (fun a' w'=>∃v,a'=a.put o.dst v/\R w w'/\V i (kept o.dst v) w') Q:=h _ ⟨v,rfl,hr,hv⟩
theorem di{R:World->World->Prop}{V:Nat->Value->World->Prop}{i:Nat}{o:Oper}{a:Act}{w:World}{v:Value}(hr:∀w',Below w.heap.size w w'->R w w')(hv:∀w',V i (kept o.dst v) w')(h:∀K:Act->World->Prop,(∀w',Below w.heap.size w w'->K (a.put o.dst v) w')->o.wp P a w K Q):
 o.wp P a w (fun a' w'=>∃v,a'=a.put o.dst v/\R w w'/\V i (kept o.dst v) w') Q:=h _ fun w' hb=>⟨v,rfl,hr w' hb,hv w'⟩
theorem iT{R:World->World->Prop}{V:Nat->Value->World->Prop}{i:Nat}{o:Oper}{a:Act}{w w':World}{v:Value}(hr:R w w')(hv:V i (kept o.dst v) w')(h:∀K:Act->World->Prop,K (a.put o.dst v) w'->o.wp P a w K Q):
 o.wp P a w (fun a' w'=>∃v,a'=a.put o.dst v/\R w w'/\V i (kept o.dst v) w') Q:=h _ ⟨v,rfl,hr,hv⟩
theorem ai{p q:Prop}{b:Bool}(hb:b=false){c:Prop}(h1:p)(h2:q):if b=true then c else p/\q:=by rw[zi (by rw[hb]; decide)]; exact⟨h1,h2⟩
structure YZ (l:List Oper) (C:World->Prop) (V:Nat->Value->World->Prop) (sk:Nat->Bool) (a0:Act) (listed:Array Bool) (a:Act) (w:World):Prop where
 c:C w
 defers:a.defers=a0.defers
 size:a.tmps.size=a0.tmps.size
 old:∀t,eP l t=true->a.tmps.getD t undef=a0.tmps.getD t undef
 val:∀(i:Nat)(o:Oper),l[i]? = some o->sk i=false->listed.getD i false=true->V i (dC o.dst a) w
theorem kZ{l:List Oper}{n:Nat}(hf:kT l n=true){listed:Array Bool}(hs:listed.size=l.length)(h:Region.ready .any l.toArray listed = []):∀i,i<l.length->listed.getD i false=true:=by
 intro i
 induction i using Nat.strongRecOn with
 | ind i ih=>
   intro hi;obtain⟨o,ho⟩:∃o,l[i]? = some o:=⟨l[i],List.getElem?_eq_getElem hi⟩;have hsp:=(dB hf).1 i o ho;rcases hb:listed.getD i true with _ | _
   ·have:i ∈ Region.ready .any l.toArray listed:=mem_ready.2 ⟨hb,o,by simpa using ho,fun e he hbi=>ih e.on (hsp.1 e he hbi) (by have:=hsp.1 e he hbi; omega)⟩;rw[h]at this; cases this
   ·have:i<listed.size:=by omega
    simp only[Array.getD,this,dif_pos]at hb ⊢;exact hb
theorem Ci{l:List Oper}{R:World->World->Prop}{C:World->Prop}{V:Nat->Value->World->Prop}{sk:Nat->Bool}{a0:Act}(hf:kT l a0.tmps.size=true)
 (hC:∀w w',R w w'->C w->C w')(hV:∀i v w w',R w w'->V i v w->V i v w')
 (hstep:rM P Q R C V sk l a0 0 l)
 (hend:∀a w,C w->a.defers=a0.defers->a.tmps.size=a0.tmps.size->(∀t,eP l t=true->a.tmps.getD t undef=a0.tmps.getD t undef)->
  (∀(i:Nat)(o:Oper),l[i]? = some o->sk i=false->V i (dC o.dst a) w)->Q .normal a w):
 ∀(fuel:Nat)(listed:Array Bool)(a:Act)(w:World),listed.size=l.length->left l.length listed<=fuel->YZ l C V sk a0 listed a w->wpAny P .any l.toArray Q fuel listed a w:=by
 have hfin:∀(listed:Array Bool)(a:Act)(w:World),listed.size=l.length->YZ l C V sk a0 listed a w->Region.ready .any l.toArray listed = []->Q .normal a w:=fun listed a w hs hok hr=>
  hend a w hok.c hok.defers hok.size hok.old fun i o ho hsk=>hok.val i o ho hsk (kZ hf hs hr i (List.getElem?_eq_some_iff.1 ho).1)
 intro fuel
 induction fuel with
 | zero=>
   intro listed a w hs hle hok;have hr:Region.ready .any l.toArray listed = []:=by
    rcases hq:Region.ready .any l.toArray listed with _ | ⟨i,r⟩
    ·rfl
    ·have hi:i ∈ Region.ready .any l.toArray listed:=by rw[hq]; exact List.mem_cons_self ..
     have:=ed hs (mem_ready.1 hi).1;omega
   exact⟨hr,hfin listed a w hs hok hr⟩
 | succ fuel ih=>
   intro listed a w hs hle hok;refine⟨hfin listed a w hs hok,fun i hi=>?_⟩;obtain⟨hun,o,ho,hall⟩:=mem_ready.1 hi;have hol:l[i]? = some o:=by simpa using ho
   obtain⟨_,hlt⟩:=(dB hf).1 i o hol;have hst:=hstep.at hol;rw[Nat.zero_add]at hst;have h1:=hst a w hok.c hok.size hok.old fun k hk hsk ok hkl=>by
    rw[List.any_eq_true]at hk;obtain⟨e,he,hb⟩:=hk;rw[Bool.and_eq_true]at hb;have F7:e.on=k:=by simpa using hb.1
    exact hok.val k ok hkl hsk (by rw[<-F7]; exact hall e (Array.mem_toList_iff.1 he) hb.2)
   have hold:∀v,∀t,eP l t=true->(a.put o.dst v).tmps.getD t undef=a0.tmps.getD t undef:=fun v t ht=>by
    have hne:o.dst≠some t:=by have:=List.all_eq_true.1 ht o (List.mem_of_getElem? hol);simpa using this
    rw[aT hne]; exact hok.old t ht
   have hother:∀(v:Value)(j:Nat)(oj:Oper),l[j]? = some oj->j≠i->dC oj.dst (a.put o.dst v)=dC oj.dst a:=fun v j oj hoj hne=>by
    cases hjt:oj.dst with
    | none=>rfl
    | some t=>
      refine aT fun hd=>hne ?_
      exact((dB hf).2 i j o oj t hol hoj hd hjt).symm
   unfold wpOp;simp only[ho];by_cases hsk:sk i=true
   ·rw[zj hsk]at h1;rw[zi (by rw[h1]; decide)];refine ih _ _ _ (by simpa using hs) (by have:=ed hs hun; omega) ⟨hok.c,by rw[put_defers]; exact hok.defers,by rw[iF]; exact hok.size,hold _,fun j oj hoj hsj hlj=>?_⟩;rcases aU hlj with rfl | hlj
    ·rw[hsk]at hsj; cases hsj
    ·have hne:j≠i:=fun e=>by subst e; rw[hsk]at hsj; cases hsj
     rw[hother _ j oj hoj hne];exact hok.val j oj hoj hsj hlj
   ·rw[zi hsk]at h1;rw[zj h1.1];refine .inl (Oper.wp_mono ?_ h1.2);rintro a' w' ⟨v,rfl,hb,hv⟩;refine ih _ _ _ (by simpa using hs) (by have:=ed hs hun; omega) ⟨hC _ _ hb hok.c,by rw[put_defers]; exact hok.defers,by rw[iF]; exact hok.size,hold _,fun j oj hoj hsj hlj=>?_⟩;by_cases hji:j=i
    ·subst hji;obtain rfl:o=oj:=by rw[hol]at hoj; exact zs hoj
     have hsv:dC o.dst (a.put o.dst v)=kept o.dst v:=by
      cases hd:o.dst with
      | none=>rfl
      | some t=>exact dY (by rw[hok.size]; exact hlt t hd)
     rw[hsv];exact hv
    ·rcases aU hlj with h | hlj
     ·exact(hji h).elim
     ·rw[hother _ j oj hoj hji];exact hV j _ w w' hb (hok.val j oj hoj hsj hlj)
theorem cu{id:Nat}{l:List Oper}{a0:Act}{w:World}(hm:P.follows .mixedOrders=true)(R:World->World->Prop)(C:World->Prop)(V:Nat->Value->World->Prop)(sk:Nat->Bool)(hf:kT l a0.tmps.size=true)
 (hC:∀w w',R w w'->C w->C w')(hV:∀i v w w',R w w'->V i v w->V i v w')(h0:C w.drew)
 (hstep:rM P Q R C V sk l a0 0 l)
 (hend:∀a w,C w->a.defers=a0.defers->a.tmps.size=a0.tmps.size->(∀t,eP l t=true->a.tmps.getD t undef=a0.tmps.getD t undef)->
  (∀(i:Nat)(o:Oper),l[i]? = some o->sk i=false->V i (dC o.dst a) w)->Q .normal a w):(Code.region id l.toArray true).wp P Q a0 w:=by
 refine wp_region_any hm ?_;have hn:(Array.replicate l.toArray.size false).size=l.length:=by simp
 refine Ci hf hC hV hstep hend _ _ _ _ hn ?_ ⟨h0,rfl,rfl,fun t _=>rfl,fun i o ho _ hl=>?_⟩
 ·have:=List.length_filter_le (fun i=>!(Array.replicate l.toArray.size false).getD i true) (List.range l.length);unfold left;simpa using this
 ·exfalso;have hi:=(List.getElem?_eq_some_iff.1 ho).1;simp[Array.getD,hi]at hl
end
section
def bg(W:World)(g:Nat):Nat->List Value->World
 | _,[]=>W
 | o,v :: r=>bg (W.setCell ⟨g,o,none⟩ v) g (o+1) r
def Kv:List Value->Nat->List Value->List Value
 | cs,_,[]=>cs
 | cs,o,v :: r=>Kv (cs.set o v) (o+1) r
theorem wO:∀(vs cs:List Value)(o:Nat),(Kv cs o vs).length=cs.length
 | [],_,_=>rfl
 | v :: r,cs,o=>by rw[Kv,wO r]; simp
theorem Bx.bg{g:Nat}{t:TypeId}:∀(vs:List Value){W:World}{cs:List Value}(o:Nat),Bx W g t cs->Bx (bg W g o vs) g t (Kv cs o vs)
 | [],_,_,_,h=>h
 | v :: r,_,_,o,h=>Bx.bg r (o+1) (h.set o v)
theorem jl.bg{g:Nat}{w:World}:∀(vs:List Value){W:World}(o:Nat),jl (some g) w W->jl (some g) w (bg W g o vs)
 | [],_,_,h=>h
 | v :: r,W,o,h=>jl.bg r (o+1) ⟨by simpa using h.1,fun k h1 h2=>(zh W ⟨g,o,none⟩ v k (fun e=>h2 (congrArg some e))).trans (h.2 k h1 h2)⟩
theorem Below.bg{B g:Nat}{w:World}(hg:B<=g):∀(vs:List Value){W:World}(o:Nat),Below B w W->Below B w (bg W g o vs)
 | [],_,_,h=>h
 | v :: r,_,o,h=>Below.bg hg r (o+1) (h.setCell hg v)
def wY(B g:Nat)(t:TypeId)(n:Nat)(D:Nat->World->Prop)(w W:World):Prop:=
 Below B w W/\jl (some g) w W/\((∃cs:List Value,cs.length=n/\Bx w g t cs)->∃cs:List Value,cs.length=n/\Bx W g t cs)/\∀k,D k w->D k W
variable {B g:Nat} {t:TypeId} {n:Nat} {D:Nat->World->Prop} {w W W':World}
theorem wY.refl:wY B g t n D w w:=⟨zB _ _,jl.refl _ _,id,fun _=>id⟩
theorem wY.call(hD:∀k w W,Below w.heap.size w W->D k w->D k W)(hB:B<=w.heap.size)(hb:Below w.heap.size w W):wY B g t n D w W:=
 ⟨hb.mono hB,(jl.refl _ _).call hb,fun⟨cs,h1,h2⟩=>⟨cs,h1,h2.call hb⟩,fun k=>hD k _ _ hb⟩
theorem wY.store(hg:B<=g)(o:Nat)(vs:List Value)(hD:∀k,D k w->D k (Go.Proofs.YtfnehkmhcmkhjaaGreat.bg w g o vs)):wY B g t n D w (Go.Proofs.YtfnehkmhcmkhjaaGreat.bg w g o vs):=
 ⟨Below.bg hg vs o (zB _ _),jl.bg vs o (jl.refl _ _),fun⟨cs,h1,h2⟩=>⟨_,by rw[wO]; exact h1,h2.bg vs o⟩,hD⟩
end
end
namespace xA
open Go.RowKit
theorem Vu{x y:Int}(a b:Nat)(hx:x=a)(hy:y=b)(ha:a<65536)(hb:b<65536):bits .xor .u16 x y=((a ^^^ b:Nat):Int):=by subst hx; subst hy; exact u16_xor_nat a b ha hb
theorem Vs(n:Int):IntKind.u16.wrap n=n % 65536:=by simp[IntKind.wrap,IntKind.bits,IntKind.signed]
theorem abG{X:Nat}(h:X<65536):C.st1 X=if X / 32768=1 then(X * 2 % 65536) ^^^ 4129 else X * 2:=by
 unfold C.st1;by_cases h1:X / 32768=1
 ·rw[zj h1,zj h1,show X % 32768 * 2=X * 2 % 65536 by omega]
 ·rw[zi h1,zi h1,show X % 32768 * 2=X * 2 by omega]
theorem FH(b:Nat)(w:World)(hb:b<256):Calls prog 341 #[.int .u8 b] w fun e w'=>e=.returned (.int .u16 (C.tab b:Nat))/\w=w':=by
 go_enter func341,ntmps341;go_wp2_with fail
 go_loop [3,7] (fun vn vk=>∃k:Nat,k<=8/\vn=.int .u16 (C.qN k (b * 256):Nat)/\vk=.int .i64 k) (fun _ vk=>8 - (RowKit.intOf vk).toNat)
 case atStart=>
  refine⟨0,by omega,congrArg (Value.int .u16) ?_,rfl⟩;show(b:Int) * 256=((b * 256:Nat):Int);omega
 case round=>
  obtain⟨k,hk,rfl,rfl⟩:=hrel;by_cases hlt:k<8
  ·have hX:C.qN k (b * 256)<65536:=C.zO (by omega) k;have HS:Hid (C.qN (k+1) (b * 256)=C.st1 (C.qN k (b * 256))):=zH rfl;generalize C.qN k (b * 256)=X at hX HS ⊢;have Hst:=zH (abG hX);by_cases h1:X / 32768=1
   ·have HE:=zH h1; clear h1;have d1:(((X:Int) / 32768) == 1)=true:=by have:=HE.out; simp; omega
    go_wp2_with fail;refine⟨⟨k+1,by omega,congrArg (Value.int .u16) ?_,rfl⟩,by simp[RowKit.intOf]; omega⟩;rw[HS.out,Hst.out,zj HE.out];exact Vu (X * 2 % 65536) 4129 (by rw[Vs]; omega) rfl (by omega) (by omega)
   ·have HE:=zH h1; clear h1;have d1:(((X:Int) / 32768) == 1)=false:=by have:=HE.out; simp; omega
    have hlo:X<32768:=by have:=HE.out; omega
    go_wp2_with fail;refine⟨⟨k+1,by omega,congrArg (Value.int .u16) ?_,rfl⟩,by simp[RowKit.intOf]; omega⟩;rw[HS.out,Hst.out,zi HE.out];omega
  ·obtain rfl:k=8:=by omega
   go_wp2_with fail;go_ret;exact⟨rfl,rfl⟩
def lZ:Array Value:=Array.replicate 256 (.int .u16 0)
def tw:Nat->Array Value
 | 0=>lZ
 | k+1=>(tw k).setIfInBounds k (.int .u16 (C.tab k:Nat))
theorem kD:∀k,(tw k).size=256
 | 0=>by simp[tw,lZ]
 | k+1=>by rw[tw,Array.size_setIfInBounds,kD k]
theorem abN(k i:Nat)(h:i<k)(hk:k<=256):(tw k)[i]? = some (.int .u16 (C.tab i:Nat)):=by
 induction k generalizing i with
 | zero=>omega
 | succ k ih=>
   rw[tw];by_cases e:i=k
   ·subst e;rw[Array.getElem?_setIfInBounds_self_of_lt (by rw[kD]; omega)]
   ·rw[Array.getElem?_setIfInBounds_ne (by omega)];exact ih i (by omega) (by omega)
theorem Yz(k i:Nat)(h:i<256):∃v,(tw k)[i]? = some v:=by
 have:i<(tw k).size:=by rw[kD]; exact h
 exact⟨_,Array.getElem?_eq_getElem this⟩
theorem La(k:Nat):∀v ∈ (tw k),v.oneCell'=true:=by
 induction k with
 | zero=>intro v hv; simp[tw,lZ]at hv; subst hv; rfl
 | succ k ih=>
   intro v hv;rcases Array.mem_or_eq_of_mem_setIfInBounds hv with h | h
   ·exact ih v h
   ·subst h; rfl
theorem Af:∀w,(zeroValue 350).run prog w=.ok (.agg lZ) w:=fun _=>by kernel_rfl
theorem table_any(w:World):
 Calls prog 340 #[.func (.func 341) #[] #[]] w fun e w'=>e=.returned (.agg (tw 256))/\Below w.heap.size w w':=by
 have hz:=Af;go_enter func340,ntmps340;go_wp2_with fail;have h0:((w.alloc (.cells lZ 350)).alloc (.cells lZ 350)).heap[w.heap.size]? = some (.cells (tw 0) 350):=heap_alloc2_old _ _ _;have h1:((w.alloc (.cells lZ 350)).alloc (.cells lZ 350)).heap[w.heap.size+1]? = some (.cells (tw 0) 350):=heap_alloc2_new _ _ _;have h2:Below w.heap.size w ((w.alloc (.cells lZ 350)).alloc (.cells lZ 350)):=((zB _ _).alloc (zl _) _).alloc (by simp) _;generalize (w.alloc (.cells lZ 350)).alloc (.cells lZ 350)=w1 at h0 h1 h2 ⊢;clear hz
 go_loopw [5] (fun vk wr=>∃k:Nat,k<=256/\vk=.int .i64 k/\wr.heap[w.heap.size]? = some (.cells lZ 350)/\wr.heap[w.heap.size+1]? = some (.cells (tw k) 350)/\Below w.heap.size w wr) (fun vk _=>256 - (RowKit.intOf vk).toNat)
 case atStart=>exact⟨0,by omega,rfl,h0,h1,h2⟩
 case round=>
  obtain⟨k,hk,rfl,g0,g1,g2⟩:=hrel;clear h0 h1 h2;by_cases hlt:k<256
  ·obtain⟨v,hv⟩:=Yz k k hlt;have hc:wr.cell? ⟨w.heap.size+1,k,none⟩=some v:=by rw[cell_of_row wr _ k _ _ _ g1]; exact hv
   have hf:=frozen_of_row wr _ k _ _ g1;clear hv;have G0:=zH g0; have G1:=zH g1; clear g0 g1;go_wp2_with fail;refine(FH k _ hlt).mono ?_;rintro e w' ⟨rfl,rfl⟩;go_wp2_with fail;go_roundw;case rel=>
    refine⟨k+1,by omega,by go_num,?_,?_,g2.setCell (by simp) _⟩
    ·rw[heap_setCell_other _ _ _ _ (by simp)]; exact G0.out
    ·exact heap_setCell_same _ _ _ _ _ _ G1.out
   case measure=>simp[RowKit.intOf]; omega
  ·obtain rfl:k=256:=by omega
   have G0:=zH g0; have G1:=zH g1; clear g0 g1;have hi:(prog.info? 350).map (·.size)=some (tw 256).size:=by rw[kD]; kernel_rfl
   have h1:(tw 256).all (·.oneCell')=true:=Array.all_eq_true_iff_forall_mem.2 (La 256);go_wp2_with (first | (refine wpList_load_row rfl 350 _ rfl _ rfl 350 _ _ _ G1.out underlying350 rfl hi ?_) | (refine wpList_store_row rfl 350 _ _ rfl w.heap.size (tw 256) rfl rfl 350 _ G0.out hi (by simp[lZ,kD]) h1 ?_));exact zr (v:=.agg (tw 256)) (results_cell_row rfl _ _ w.heap.size 350 (tw 256) (0,0) _ rfl (setRow_heap _ _ _ _ _ _ G0.out) underlying350 rfl hi) rfl ⟨rfl,Below.setRow g2 (zl _) _⟩
theorem Ji(w:World):
 Calls prog 263 #[] w fun e w'=>e=.returned (.agg (tw 256))/\Below w.heap.size w w':=by
 have hz:=Af;go_enter func263,ntmps263;go_wp2_with fail;refine(table_any _).mono ?_;rintro e w1 ⟨rfl,hb⟩;have hb1:=((zB w.heap.size w).alloc (zl _) (.cells lZ 350)).trans (hb.mono (by simp));have g0:w1.heap[w.heap.size]? = some (.cells lZ 350):=(hb.block w.heap.size (by simp)).trans (heap_alloc_new _ _);have G0:=zH g0; clear g0 hz;have hi:(prog.info? 350).map (·.size)=some (tw 256).size:=by rw[kD]; kernel_rfl
 have h1:(tw 256).all (·.oneCell')=true:=Array.all_eq_true_iff_forall_mem.2 (La 256);go_wp2_with (refine wpList_store_row rfl 350 _ _ rfl w.heap.size (tw 256) rfl rfl 350 _ G0.out hi (by simp[lZ,kD]) h1 ?_);exact zr (v:=.agg (tw 256)) (results_cell_row rfl _ _ w.heap.size 350 (tw 256) (0,0) _ rfl (setRow_heap _ _ _ _ _ _ G0.out) underlying350 rfl hi) rfl ⟨rfl,Below.setRow hb1 (zl _) _⟩
theorem Ye{c:Nat}(hc:c<65536)(b:UInt8):C.reg c b=(c * 256 % 65536) ^^^ C.tab (c / 256 ^^^ b.toNat):=by
 have hb:=b.toNat_lt;unfold C.reg;have hx:c ^^^ b.toNat * 256<65536:=Nat.xor_lt_two_pow (n:=16) (by omega) (by omega);rw[C.abE hx];have e1:(c ^^^ b.toNat * 256) % 256=c % 256:=by have:=Nat.xor_mod_two_pow (a:=c) (b:=b.toNat * 256) (n:=8);simp only[Nat.reducePow]at this;rw[this,show b.toNat * 256 % 256=0 by omega,Nat.xor_zero]
 have e2:(c ^^^ b.toNat * 256) / 256=c / 256 ^^^ b.toNat:=by have:=Nat.xor_div_two_pow (a:=c) (b:=b.toNat * 256) (n:=8);simp only[Nat.reducePow]at this;rw[this,Nat.mul_div_cancel _ (by omega)]
 rw[e1,e2,show c % 256 * 256=c * 256 % 65536 by omega]
theorem Fq(s:ByteArray)(k:Nat)(h:k<s.size):C.crc 0 (s.data.toList.take (k+1))=C.reg (C.crc 0 (s.data.toList.take k)) s[k]:=by rw[<-C.RP,List.take_succ_eq_append_getElem (by simpa using h)]; rfl
theorem Xb(s:ByteArray)(w:World)(hs:s.size<=1000000):Calls prog 196 #[.int .u16 0,.string s] w fun e w'=>e=.returned (.int .u16 (C.crc 0 s.data.toList:Nat))/\Below w.heap.size w w':=by
 have hz:=Af;go_enter func196,ntmps196;go_wp2_with fail;refine(Ji _).mono ?_;rintro e w1 ⟨rfl,hb⟩;have hi:(prog.info? 350).map (·.size)=some (tw 256).size:=by rw[kD]; kernel_rfl
 have h1:(tw 256).all (·.oneCell')=true:=Array.all_eq_true_iff_forall_mem.2 (La 256);go_wp2_with (refine wpList_store_row rfl 350 _ _ rfl w1.heap.size (tw 256) rfl rfl 350 _ (heap_alloc_new _ _) hi (by simp[lZ,kD]) h1 ?_);have hT:((w1.alloc (.cells lZ 350)).setRow w1.heap.size (tw 256)).heap[w1.heap.size]? = some (.cells (tw 256) 350):=setRow_heap _ _ _ _ _ _ (heap_alloc_new _ _);have hb2:Below w.heap.size w ((w1.alloc (.cells lZ 350)).setRow w1.heap.size (tw 256)):=Below.setRow (hb.alloc hb.size _) hb.size _;generalize (w1.alloc (.cells lZ 350)).setRow w1.heap.size (tw 256)=w2 at hT hb2 ⊢;obtain⟨g,hg⟩:∃g,g=w1.heap.size:=⟨_,rfl⟩;rw[<-hg]at hT;simp only[<-hg];clear hz h1 hi hb hg;have HT:=zH hT; clear hT
 go_loop [0,10] (fun vc vk=>∃k:Nat,k<=s.size/\vc=.int .u16 (C.crc 0 (s.data.toList.take k):Nat)/\vk=.int .i64 k) (fun _ vk=>s.size - (RowKit.intOf vk).toNat)
 case atStart=>exact⟨0,by omega,rfl,rfl⟩
 case round=>
  obtain⟨k,hk,rfl,rfl⟩:=hrel;have hX:C.crc 0 (s.data.toList.take k)<65536:=C.uZ (by omega) _;by_cases hlt:k<s.size
  ·have HS:=zH (Fq s k hlt);generalize C.crc 0 (s.data.toList.take k)=X at hX HS ⊢;have HR:=zH (Ye hX s[k]);have hcb:=s[k].toNat_lt;have hj:X / 256 ^^^ s[k].toNat<256:=Nat.xor_lt_two_pow (n:=8) (by omega) (by omega);have hbx:bits .xor .u8 ((X:Int) / 256) (s[k].toNat:Int)=((X / 256 ^^^ s[k].toNat:Nat):Int):=u8_xor_nat (X / 256) s[k].toNat (by omega) hcb;have hcell:w2.cell? ⟨g,X / 256 ^^^ s[k].toNat,none⟩=some (.int .u16 (C.tab (X / 256 ^^^ s[k].toNat):Nat)):=by rw[cell_of_row w2 _ _ _ _ _ HT.out]; exact abN 256 _ hj (by omega)
   generalize X / 256 ^^^ s[k].toNat=j at hj hbx hcell HR;have HJ:=zH hj;go_wp2_with fail;refine⟨⟨k+1,by omega,congrArg (Value.int .u16) ?_,rfl⟩,by simp[RowKit.intOf]; omega⟩;rw[HS.out,HR.out];exact Vu (X * 256 % 65536) (C.tab j) (by first | (rw[Vs]; omega) | omega) rfl (by omega) (C.zO (by have:=HJ.out; omega) 8)
  ·obtain rfl:k=s.size:=by omega
   have HF:Hid (C.crc 0 (s.data.toList.take s.size)=C.crc 0 s.data.toList):=zH (by rw[List.take_of_length_le (by simp)]);go_wp2_with fail;go_ret;exact⟨by rw[<-HF.out]; rfl,hb2⟩
theorem LP(s:ByteArray)(w:World)(hs:s.size<=1000000):Calls prog 115 #[.string s] w fun e w'=>e=.returned (.int .u16 (C.crc 0 s.data.toList:Nat))/\Below w.heap.size w w':=by go_enter func115,ntmps115;go_wp2_with fail;refine(Xb s _ hs).mono ?_;rintro e w1 ⟨rfl,hb⟩;go_wp2_with fail;go_ret;exact⟨rfl,hb⟩
theorem aax(c:Nat)(b:UInt8):C.reg c b=C.qN 8 (c ^^^ b.toNat * 256):=rfl
theorem NF(X:Nat):C.st1 X=if X / 32768=1 then(X % 32768 * 2) ^^^ 4129 else X % 32768 * 2:=rfl
theorem UK(s:ByteArray)(w:World)(hs:s.size<=1000000):Calls prog 290 #[.int .u16 0,.string s] w fun e w'=>e=.returned (.int .u16 (C.crc 0 s.data.toList:Nat))/\w=w':=by
 go_enter func290,ntmps290;go_wp2_with fail
 go_loop [0,5] (fun vc vk=>∃k:Nat,k<=s.size/\vc=.int .u16 (C.crc 0 (s.data.toList.take k):Nat)/\vk=.int .i64 k) (fun _ vk=>s.size - (RowKit.intOf vk).toNat)
 case atStart=>exact⟨0,by omega,rfl,rfl⟩
 case round=>
  obtain⟨k,hk,rfl,rfl⟩:=hrel;have hX:C.crc 0 (s.data.toList.take k)<65536:=C.uZ (by omega) _;by_cases hlt:k<s.size
  ·have HS:=zH (Fq s k hlt);generalize C.crc 0 (s.data.toList.take k)=X at hX HS ⊢;have HR:=zH (aax X s[k]);have hcb:=s[k].toNat_lt;have hj:X ^^^ s[k].toNat * 256<65536:=Nat.xor_lt_two_pow (n:=16) (by omega) (by omega);have hbx:bits .xor .u16 (X:Int) ((s[k].toNat:Int) * 256)=((X ^^^ s[k].toNat * 256:Nat):Int):=by have:=u16_xor_nat X (s[k].toNat * 256) hX (by omega);rw[<-this]; congr 1
   generalize X ^^^ s[k].toNat * 256=Y at hj hbx HR;go_wp2_with fail
   go_loop [0,6] (fun vc vm=>∃m:Nat,m<=8/\vc=.int .u16 (C.qN m Y:Nat)/\vm=.int .i64 m) (fun _ vm=>8 - (RowKit.intOf vm).toNat)
   case atStart=>exact⟨0,by omega,rfl,rfl⟩
   case round=>
    obtain⟨m,hm,rfl,rfl⟩:=hrel;have hZ:C.qN m Y<65536:=C.zO hj m;by_cases hlt2:m<8
    ·have HT:Hid (C.qN (m+1) Y=C.st1 (C.qN m Y)):=zH rfl;generalize C.qN m Y=Z at hZ HT ⊢;by_cases h1:Z / 32768=1
     ·have HE:=zH h1; clear h1;have d1:(((Z:Int) / 32768) == 1)=true:=by have:=HE.out; simp; omega
      go_wp2_with fail;refine⟨⟨m+1,by omega,congrArg (Value.int .u16) ?_,rfl⟩,by simp[RowKit.intOf]; omega⟩;rw[HT.out,NF,zj HE.out];exact Vu (Z % 32768 * 2) 4129 (by omega) rfl (by omega) (by omega)
     ·have HE:=zH h1; clear h1;have d1:(((Z:Int) / 32768) == 1)=false:=by have:=HE.out; simp; omega
      go_wp2_with fail;refine⟨⟨m+1,by omega,congrArg (Value.int .u16) ?_,rfl⟩,by simp[RowKit.intOf]; omega⟩;rw[HT.out,NF,zi HE.out];omega
    ·obtain rfl:m=8:=by omega
     have HQ:Hid (C.qN 8 Y=C.crc 0 (s.data.toList.take (k+1))):=zH (by rw[HS.out,HR.out]);go_wp2_with fail;refine⟨⟨k+1,by omega,by rw[HQ.out],rfl⟩,by simp[RowKit.intOf]; omega⟩
  ·obtain rfl:k=s.size:=by omega
   have HF:Hid (C.crc 0 (s.data.toList.take s.size)=C.crc 0 s.data.toList):=zH (by rw[List.take_of_length_le (by simp)]);go_wp2_with fail;go_ret;exact⟨by rw[<-HF.out]; rfl,rfl⟩
theorem Uy(s:ByteArray)(w:World)(hs:s.size<=1000000):Calls prog 218 #[.string s] w fun e w'=>e=.returned (.int .u16 (C.crc 0 s.data.toList:Nat))/\w=w':=by go_enter func218,ntmps218;go_wp2_with fail;refine(UK s _ hs).mono ?_;rintro e w1 ⟨rfl,rfl⟩;go_wp2_with fail;go_ret;exact⟨rfl,rfl⟩
theorem Rd.lit(w:World)(l:List UInt8)(t:TypeId)(hl:l.length<=140737488351232):Rd (w.alloc (.cells (bs l).toArray t)) (.slice (some ⟨w.heap.size,0,none⟩) l.length l.length) l:=by refine⟨hl,some ⟨w.heap.size,0,none⟩,l.length,w.heap.size,0,rfl,zl _,fun i hi=>⟨rfl,?_⟩⟩;rw[Nat.zero_add];exact(Bx.new w t (bs l)).cell (jK hi)
theorem toNat_ofNat{n:Nat}(h:n<256):((UInt8.ofNat n).toNat:Int)=n:=by simp; omega
def jW(c:Nat):List UInt8:=[UInt8.ofNat (c / 256),UInt8.ofNat (c % 256)]
theorem Fp(c:Nat)(w:World)(hc:c<65536)(t:TypeId):(convert 65 9 (.slice (some ⟨w.heap.size,0,none⟩) 2 2)).run prog (w.alloc (.cells #[.int .u8 ((c:Int) / 256),.int .u8 ((c:Int) % 256)] t))=.ok (.string (str (jW c))) (w.alloc (.cells #[.int .u8 ((c:Int) / 256),.int .u8 ((c:Int) % 256)] t)):=by
 have h:=dV (dst:=9) underlying65 underlying5 underlying9 (Rd.lit w (jW c) t (by simp[jW]));have e:(bs (jW c)).toArray = #[.int .u8 ((c:Int) / 256),.int .u8 ((c:Int) % 256)]:=by simp only[jW,bs,B,List.map_cons,List.map_nil,toNat_ofNat (show c / 256<256 by omega),toNat_ofNat (show c % 256<256 by omega)];simp
 rw[e]at h;exact h
theorem tJ(c:Nat)(w:World)(hc:c<65536):Calls prog 114 #[.int .u16 c] w fun e w'=>e=.returned (.string (str (jW c)))/\Below w.heap.size w w':=by have hst:=Fp c w hc 5;go_enter func114,ntmps114;go_wp2_with fail;go_ret;exact⟨rfl,(zB _ _).alloc (zl _) _⟩
theorem AA(c:Nat)(w:World)(hc:c<65536):Calls prog 217 #[.int .u16 c] w fun e w'=>e=.returned (.string (str (jW c)))/\Below w.heap.size w w':=by have hst:=Fp c w hc 5;go_enter func217,ntmps217;go_wp2_with fail;go_ret;exact⟨rfl,(zB _ _).alloc (zl _) _⟩
end xA
end Go.Proofs.YtfnehkmhcmkhjaaGreat
