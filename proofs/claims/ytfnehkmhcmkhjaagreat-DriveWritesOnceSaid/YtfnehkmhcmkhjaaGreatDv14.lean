/- Parts:XIn2 XSeq XSeqA -/
import Derived.Test.YtfnehkmhcmkhjaaGreatDvAl
import Derived.Test.YtfnehkmhcmkhjaaGreatDv08
set_option maxRecDepth 100000
set_option maxHeartbeats 8000000
set_option linter.unusedVariables false
namespace Go.Proofs.YtfnehkmhcmkhjaaGreat
open Tryz
section
open Go.RowKit
section
variable {P:Program} {Q:Exit->Act->World->Prop}
def Rh(P:Program)(Q:Exit->Act->World->Prop)(R:World->World->Prop)(C:World->Prop)(V:Nat->Value->World->Prop)(sk:Nat->Bool)(l:List Oper)(a0:Act)(i:Nat)(o:Oper):Prop:=
 ∀a w,C w->a.tmps.size=a0.tmps.size->(∀t,eP l t=true->a.tmps.getD t undef=a0.tmps.getD t undef)->
   (∀k,(o.after.toList.any fun e=>e.on == k && Region.binds .any e)=true->sk k=false->∀(ok:Oper),l[k]? = some ok->V k (dC ok.dst a) w)->
   (∀(j:Nat)(oj:Oper)(t:Tmp),l[j]? = some oj->oj.dst=some t->(oj.after.toList.any fun e=>e.on == i && Region.binds .any e)=true->a.tmps.getD t undef=a0.tmps.getD t undef)->
   if sk i then Region.wanted o (yielded l.toArray a.tmps)=false
   else Region.wanted o (yielded l.toArray a.tmps)=true/\o.wp P a w (fun a' w'=>∃v,a'=a.put o.dst v/\R w w'/\V i (kept o.dst v) w') Q
def qi(P:Program)(Q:Exit->Act->World->Prop)(R:World->World->Prop)(C:World->Prop)(V:Nat->Value->World->Prop)(sk:Nat->Bool)(l:List Oper)(a0:Act):Nat->List Oper->Prop
 | _,[]=>True
 | i,o :: r=>Rh P Q R C V sk l a0 i o/\qi P Q R C V sk l a0 (i+1) r
theorem qi.at{R:World->World->Prop}{C:World->Prop}{V:Nat->Value->World->Prop}{sk:Nat->Bool}{l:List Oper}{a0:Act}:∀{i:Nat}{r:List Oper},qi P Q R C V sk l a0 i r->∀{j:Nat}{o:Oper},r[j]? = some o->Rh P Q R C V sk l a0 (i+j) o
 | i,[],_,j,o,h=>by simp at h
 | i,x :: r,h,0,o,ho=>by
   have:x=o:=by simpa using ho
   subst this; exact h.1
 | i,x :: r,h,j+1,o,ho=>by have:=qi.at h.2 (j:=j) (o:=o) (by simpa using ho);rwa[Nat.add_assoc,Nat.add_comm 1 j]at this
structure Q9 (l:List Oper) (C:World->Prop) (V:Nat->Value->World->Prop) (sk:Nat->Bool) (a0:Act) (listed:Array Bool) (a:Act) (w:World):Prop where
 c:C w
 defers:a.defers=a0.defers
 size:a.tmps.size=a0.tmps.size
 old:∀t,eP l t=true->a.tmps.getD t undef=a0.tmps.getD t undef
 val:∀(i:Nat)(o:Oper),l[i]? = some o->sk i=false->listed.getD i false=true->V i (dC o.dst a) w
 Zv:∀(j:Nat)(oj:Oper)(t:Tmp),l[j]? = some oj->oj.dst=some t->listed.getD j false=false->a.tmps.getD t undef=a0.tmps.getD t undef
 closed:∀(j:Nat)(oj:Oper),l[j]? = some oj->listed.getD j false=true->∀e ∈ oj.after,Region.binds .any e=true->listed.getD e.on false=true
theorem Qx{l:List Oper}{R:World->World->Prop}{C:World->Prop}{V:Nat->Value->World->Prop}{sk:Nat->Bool}{a0:Act}(hf:kT l a0.tmps.size=true)
 (hC:∀w w',R w w'->C w->C w')(hV:∀i v w w',R w w'->V i v w->V i v w')
 (hstep:qi P Q R C V sk l a0 0 l)
 (hend:∀a w,C w->a.defers=a0.defers->a.tmps.size=a0.tmps.size->(∀t,eP l t=true->a.tmps.getD t undef=a0.tmps.getD t undef)->
  (∀(i:Nat)(o:Oper),l[i]? = some o->sk i=false->V i (dC o.dst a) w)->Q .normal a w):
 ∀(fuel:Nat)(listed:Array Bool)(a:Act)(w:World),listed.size=l.length->left l.length listed<=fuel->Q9 l C V sk a0 listed a w->wpAny P .any l.toArray Q fuel listed a w:=by
 have hfin:∀(listed:Array Bool)(a:Act)(w:World),listed.size=l.length->Q9 l C V sk a0 listed a w->Region.ready .any l.toArray listed = []->Q .normal a w:=fun listed a w hs hok hr=>
  hend a w hok.c hok.defers hok.size hok.old fun i o ho hsk=>hok.val i o ho hsk (kZ hf hs hr i (List.getElem?_eq_some_iff.1 ho).1)
 intro fuel
 induction fuel with
 | zero=>
   intro listed a w hs hle hok;have hr:Region.ready .any l.toArray listed = []:=by
    rcases hq:Region.ready .any l.toArray listed with _ | ⟨i,r⟩
    ·rfl
    ·have hi:i ∈ Region.ready .any l.toArray listed:=by rw[hq]; exact List.mem_cons_self ..
     have:=ed hs (mem_ready.1 hi).1;omega
   exact⟨hr,hfin listed a w hs hok hr⟩
 | succ fuel ih=>
   intro listed a w hs hle hok;refine⟨hfin listed a w hs hok,fun i hi=>?_⟩;obtain⟨hun,o,ho,hall⟩:=mem_ready.1 hi;have hol:l[i]? = some o:=by simpa using ho
   obtain⟨_,hlt⟩:=(dB hf).1 i o hol;have hst:=hstep.at hol;rw[Nat.zero_add]at hst;have h1:=hst a w hok.c hok.size hok.old fun k hk hsk ok hkl=>by
    rw[List.any_eq_true]at hk;obtain⟨e,he,hb⟩:=hk;rw[Bool.and_eq_true]at hb;have F7:e.on=k:=by simpa using hb.1
    exact hok.val k ok hkl hsk (by rw[<-F7]; exact hall e (Array.mem_toList_iff.1 he) hb.2)
   replace h1:=h1 fun j oj t hoj hdt hk=>by
    refine hok.Zv j oj t hoj hdt ?_;rw[List.any_eq_true]at hk;obtain⟨e,he,hb⟩:=hk;rw[Bool.and_eq_true]at hb;have F7:e.on=i:=by simpa using hb.1
    cases hlj:listed.getD j false with
    | false=>rfl
    | true=>
      have h2:=hok.closed j oj hoj hlj e (Array.mem_toList_iff.1 he) hb.2;rw[F7]at h2;have h3:i<listed.size:=by rw[hs]; exact(List.getElem?_eq_some_iff.1 hol).1
      simp only[Array.getD,h3,dif_pos]at hun h2;rw[hun]at h2; exact absurd h2 (by decide)
   have Gg:∀v (j:Nat) (oj:Oper) (t:Tmp),l[j]? = some oj->oj.dst=some t->(listed.setIfInBounds i true).getD j false=false->(a.put o.dst v).tmps.getD t undef=a0.tmps.getD t undef:=fun v j oj t hoj hdt hlj=>by
    have hij:i<listed.size:=by rw[hs]; exact(List.getElem?_eq_some_iff.1 hol).1
    have hji:j≠i:=by rintro rfl;simp[Array.getD,hij]at hlj
    have hne:o.dst≠some t:=fun hd=>hji ((dB hf).2 i j o oj t hol hoj hd hdt).symm
    rw[aT hne];refine hok.Zv j oj t hoj hdt ?_;cases ae9:listed.getD j false with
    | false=>rfl
    | true=>
      rw[<-hlj,<-ae9];simp only[Array.getD_eq_getD_getElem?,Array.getElem?_setIfInBounds];rw[zi (Ne.symm hji)]
   have hcl:∀(j:Nat)(oj:Oper),l[j]? = some oj->(listed.setIfInBounds i true).getD j false=true->∀e ∈ oj.after,Region.binds .any e=true->(listed.setIfInBounds i true).getD e.on false=true:=fun j oj hoj hlj e he hb=>by
    have up:∀k,listed.getD k false=true->(listed.setIfInBounds i true).getD k false=true:=fun k hk=>by
     have hij:i<listed.size:=by rw[hs]; exact(List.getElem?_eq_some_iff.1 hol).1
     simp only[Array.getD_eq_getD_getElem?,Array.getElem?_setIfInBounds]at hk ⊢;split
     ·simp
     ·exact hk
    rcases aU hlj with rfl | hlj
    ·obtain rfl:o=oj:=by rw[hol]at hoj; exact zs hoj
     exact up _ (hall e he hb)
    ·exact up _ (hok.closed j oj hoj hlj e he hb)
   have hold:∀v,∀t,eP l t=true->(a.put o.dst v).tmps.getD t undef=a0.tmps.getD t undef:=fun v t ht=>by
    have hne:o.dst≠some t:=by have:=List.all_eq_true.1 ht o (List.mem_of_getElem? hol);simpa using this
    rw[aT hne]; exact hok.old t ht
   have hother:∀(v:Value)(j:Nat)(oj:Oper),l[j]? = some oj->j≠i->dC oj.dst (a.put o.dst v)=dC oj.dst a:=fun v j oj hoj hne=>by
    cases hjt:oj.dst with
    | none=>rfl
    | some t=>
      refine aT fun hd=>hne ?_
      exact((dB hf).2 i j o oj t hol hoj hd hjt).symm
   unfold wpOp;simp only[ho];by_cases hsk:sk i=true
   ·rw[zj hsk]at h1;rw[zi (by rw[h1]; decide)];refine ih _ _ _ (by simpa using hs) (by have:=ed hs hun; omega) ⟨hok.c,by rw[put_defers]; exact hok.defers,by rw[iF]; exact hok.size,hold _,fun j oj hoj hsj hlj=>?_,Gg _,hcl⟩;rcases aU hlj with rfl | hlj
    ·rw[hsk]at hsj; cases hsj
    ·have hne:j≠i:=fun e=>by subst e; rw[hsk]at hsj; cases hsj
     rw[hother _ j oj hoj hne];exact hok.val j oj hoj hsj hlj
   ·rw[zi hsk]at h1;rw[zj h1.1];refine .inl (Oper.wp_mono ?_ h1.2);rintro a' w' ⟨v,rfl,hb,hv⟩;refine ih _ _ _ (by simpa using hs) (by have:=ed hs hun; omega) ⟨hC _ _ hb hok.c,by rw[put_defers]; exact hok.defers,by rw[iF]; exact hok.size,hold _,fun j oj hoj hsj hlj=>?_,Gg _,hcl⟩;by_cases hji:j=i
    ·subst hji;obtain rfl:o=oj:=by rw[hol]at hoj; exact zs hoj
     have hsv:dC o.dst (a.put o.dst v)=kept o.dst v:=by
      cases hd:o.dst with
      | none=>rfl
      | some t=>exact dY (by rw[hok.size]; exact hlt t hd)
     rw[hsv];exact hv
    ·rcases aU hlj with h | hlj
     ·exact(hji h).elim
     ·rw[hother _ j oj hoj hji];exact hV j _ w w' hb (hok.val j oj hoj hsj hlj)
theorem AZ{id:Nat}{l:List Oper}{a0:Act}{w:World}(hm:P.follows .mixedOrders=true)(R:World->World->Prop)(C:World->Prop)(V:Nat->Value->World->Prop)(sk:Nat->Bool)(hf:kT l a0.tmps.size=true)
 (hC:∀w w',R w w'->C w->C w')(hV:∀i v w w',R w w'->V i v w->V i v w')(h0:C w.drew)
 (hstep:qi P Q R C V sk l a0 0 l)
 (hend:∀a w,C w->a.defers=a0.defers->a.tmps.size=a0.tmps.size->(∀t,eP l t=true->a.tmps.getD t undef=a0.tmps.getD t undef)->
  (∀(i:Nat)(o:Oper),l[i]? = some o->sk i=false->V i (dC o.dst a) w)->Q .normal a w):(Code.region id l.toArray true).wp P Q a0 w:=by
 refine wp_region_any hm ?_;have hn:(Array.replicate l.toArray.size false).size=l.length:=by simp
 refine Qx hf hC hV hstep hend _ _ _ _ hn ?_ ⟨h0,rfl,rfl,fun t _=>rfl,fun i o ho _ hl=>?_,fun _ _ _ _ _ _=>rfl,fun j oj hoj hl=>?_⟩
 ·have:=List.length_filter_le (fun i=>!(Array.replicate l.toArray.size false).getD i true) (List.range l.length);unfold left;simpa using this
 ·exfalso;have hi:=(List.getElem?_eq_some_iff.1 ho).1;simp[Array.getD,hi]at hl
 ·exfalso;have hi:=(List.getElem?_eq_some_iff.1 hoj).1;simp[Array.getD,hi]at hl
end
def reach(l:List Oper):Nat->Nat->Nat->Bool
 | 0,_,_=>false
 | f+1,i,j=>match l[i]? with
   | some o=>o.after.toList.any fun e=>Region.binds .any e && (e.on == j || reach l f e.on j)
   | none=>false
def sV(l:List Oper)(listed:Array Bool):Prop:=∀(j:Nat)(oj:Oper),l[j]? = some oj->listed.getD j false=true->∀e ∈ oj.after,Region.binds .any e=true->listed.getD e.on false=true
theorem jc{l:List Oper}{listed:Array Bool}(hc:sV l listed):∀(f i j:Nat),reach l f i j=true->(∀(o:Oper),l[i]? = some o->∀e ∈ o.after,Region.binds .any e=true->listed.getD e.on false=true)->listed.getD j false=true
 | 0,_,_,h,_=>by simp[reach]at h
 | f+1,i,j,h,ha=>by
   unfold reach at h;split at h
   ·rename_i o ho
    rw[List.any_eq_true]at h;obtain⟨e,he,hb⟩:=h;rw[Bool.and_eq_true,Bool.or_eq_true]at hb;have he':=Array.mem_toList_iff.1 he;have h1:=ha o ho e he' hb.1;rcases hb.2 with h2 | h2
    ·have:e.on=j:=by simpa using h2
     rw[<-this]; exact h1
    ·exact jc hc f e.on j h2 fun o' ho' e' he' hb'=>hc e.on o' ho' h1 e' he' hb'
   ·cases h
def chainB(l:List Oper)(eff:Nat->Option Nat)(sk:Nat->Bool)(n:Nat):Bool:=
 (List.range l.length).all fun i=>match eff i with
  | none=>true
  | some k=>!sk i && Nat.blt k n && ((List.range l.length).all fun j=>match eff j with
    | none=>true
    | some m=>(m != k || i == j) && (m+1 != k || reach l 3 i j)) && (k == 0 || (List.range l.length).any fun j=>eff j == some (k - 1))
section
variable {P:Program} {Q:Exit->Act->World->Prop}
def Y6(P:Program)(Q:Exit->Act->World->Prop)(R:Nat->World->World->Prop)(C:Nat->World->Prop)(V:Nat->Value->World->Prop)(sk:Nat->Bool)(eff:Nat->Option Nat)(l:List Oper)(a0:Act)(i:Nat)(o:Oper):Prop:=
 ∀(r:Nat) a w,C r w->a.tmps.size=a0.tmps.size->(∀t,eP l t=true->a.tmps.getD t undef=a0.tmps.getD t undef)->
   (∀k,(o.after.toList.any fun e=>e.on == k && Region.binds .any e)=true->sk k=false->∀(ok:Oper),l[k]? = some ok->V k (dC ok.dst a) w)->
   (∀(j:Nat)(oj:Oper)(t:Tmp),l[j]? = some oj->oj.dst=some t->(oj.after.toList.any fun e=>e.on == i && Region.binds .any e)=true->a.tmps.getD t undef=a0.tmps.getD t undef)->
   (∀j k,eff j=some k->reach l 3 i j=true->k<r)->(∀j k,eff j=some k->reach l 3 j i=true->r<=k)->(∀k,eff i=some k->k=r)->
   if sk i then Region.wanted o (yielded l.toArray a.tmps)=false
   else Region.wanted o (yielded l.toArray a.tmps)=true/\o.wp P a w (fun a' w'=>∃v,a'=a.put o.dst v/\R r w w'/\C (if (eff i).isSome then r+1 else r) w'/\V i (kept o.dst v) w') Q
def rO(P:Program)(Q:Exit->Act->World->Prop)(R:Nat->World->World->Prop)(C:Nat->World->Prop)(V:Nat->Value->World->Prop)(sk:Nat->Bool)(eff:Nat->Option Nat)(l:List Oper)(a0:Act):Nat->List Oper->Prop
 | _,[]=>True
 | i,o :: r=>Y6 P Q R C V sk eff l a0 i o/\rO P Q R C V sk eff l a0 (i+1) r
theorem rO.at{R:Nat->World->World->Prop}{C:Nat->World->Prop}{V:Nat->Value->World->Prop}{sk:Nat->Bool}{eff:Nat->Option Nat}{l:List Oper}{a0:Act}:∀{i:Nat}{r:List Oper},rO P Q R C V sk eff l a0 i r->∀{j:Nat}{o:Oper},r[j]? = some o->Y6 P Q R C V sk eff l a0 (i+j) o
 | i,[],_,j,o,h=>by simp at h
 | i,x :: r,h,0,o,ho=>by
   have:x=o:=by simpa using ho
   subst this; exact h.1
 | i,x :: r,h,j+1,o,ho=>by have:=rO.at h.2 (j:=j) (o:=o) (by simpa using ho);rwa[Nat.add_assoc,Nat.add_comm 1 j]at this
theorem aJ{R:World->World->Prop}{C:Nat->World->Prop}{V:Nat->Value->World->Prop}{i r:Nat}{o:Oper}{a:Act}{w:World}{v:Value}(hr:R w w)(hc:C r w)(hv:V i (kept o.dst v) w)(h:∀K:Act->World->Prop,K (a.put o.dst v) w->o.wp P a w K Q):
 o.wp P a w (fun a' w'=>∃v,a'=a.put o.dst v/\R w w'/\C r w'/\V i (kept o.dst v) w') Q:=h _ ⟨v,rfl,hr,hc,hv⟩
theorem jw{R:World->World->Prop}{C:Nat->World->Prop}{V:Nat->Value->World->Prop}{i r:Nat}{o:Oper}{a:Act}{w w':World}{v:Value}(hr:R w w')(hc:C r w')(hv:V i (kept o.dst v) w')(h:∀K:Act->World->Prop,K (a.put o.dst v) w'->o.wp P a w K Q):
 o.wp P a w (fun a' w'=>∃v,a'=a.put o.dst v/\R w w'/\C r w'/\V i (kept o.dst v) w') Q:=h _ ⟨v,rfl,hr,hc,hv⟩
theorem gy{R:World->World->Prop}{C:Nat->World->Prop}{V:Nat->Value->World->Prop}{i r:Nat}{o:Oper}{a:Act}{w:World}{v:Value}(h:∀K:Act->World->Prop,(∀w',R w w'->C r w'->V i (kept o.dst v) w'->K (a.put o.dst v) w')->o.wp P a w K Q):
 o.wp P a w (fun a' w'=>∃v,a'=a.put o.dst v/\R w w'/\C r w'/\V i (kept o.dst v) w') Q:=h _ fun w' h1 h2 h3=>⟨v,rfl,h1,h2,h3⟩
theorem Ui{o:Oper}{a:Act}{K:Act->World->Prop}{w:World}(s x:Operand){t:TypeId}
 (hop:o.op=.call { callee:=.builtin .append,args:=#[s,x],argTypes:=#[t,t] }){e:TypeId}{i:TypeInfo}{z:Value}{size bytes base:Nat}
 (ht:P.underlying t=some (.slice e))(hi:P.info? e=some i)(hz:i.zero=some z)(hsize:i.size=size)(hby:i.bytes=bytes)(hzs:z.cells.size=size)(hsz:0<size)
 {v:Value}{n:Nat}{xs:List Value}(hown:w.ownsRow base e size v n xs)(hv:a.eval s=v){vs:Value}{m:Nat}{news:List Value}(hs:Reads w size vs m news)(hx:a.eval x=vs)(h1:∀u ∈ news,u.oneCell'=true)
 (h63:n+m<=maxLen)(hbytes:(n+m) * bytes<=140737488355328)(hbase:base<=w.heap.size)
 (hK:∀v' w',w'.ownsRow base e size v' (n+m) (xs++news)->w.grownBy w' v.ownBlock->K (a.put o.dst v') w'):o.wp P a w K Q:=by
 obtain⟨v',w',hrun,r1,r2,r3⟩:=Ny (ty:=o.type) ht hi hz hsize hby hzs hsz hown hs h1 h63 hbytes hbase;unfold Oper.wp;simp[execOp,hop,resolve,invoke,builtin,hv,hx,hrun,Result.andThen];exact hK v' w' r1 r2
structure Y0 (l:List Oper) (C:Nat->World->Prop) (V:Nat->Value->World->Prop) (sk:Nat->Bool) (eff:Nat->Option Nat) (n:Nat) (a0:Act) (listed:Array Bool) (a:Act) (w:World):Prop where
 c:∃r,r<=n/\C r w/\∀i k,i<l.length->eff i=some k->(listed.getD i false=true↔k<r)
 defers:a.defers=a0.defers
 size:a.tmps.size=a0.tmps.size
 old:∀t,eP l t=true->a.tmps.getD t undef=a0.tmps.getD t undef
 val:∀(i:Nat)(o:Oper),l[i]? = some o->sk i=false->listed.getD i false=true->V i (dC o.dst a) w
 Zv:∀(j:Nat)(oj:Oper)(t:Tmp),l[j]? = some oj->oj.dst=some t->listed.getD j false=false->a.tmps.getD t undef=a0.tmps.getD t undef
 closed:sV l listed
theorem iC{listed:Array Bool}{i:Nat}(h:i<listed.size):(listed.setIfInBounds i true).getD i false=true:=by simp[Array.getD,h]
theorem lL{listed:Array Bool}{i k:Nat}(h:i<listed.size)(hk:listed.getD k false=true):(listed.setIfInBounds i true).getD k false=true:=by
 by_cases e:i=k
 ·subst e; exact iC h
 ·rw[getD_set_ne false e]; exact hk
theorem Cj{l:List Oper}{R:Nat->World->World->Prop}{C:Nat->World->Prop}{V:Nat->Value->World->Prop}{sk:Nat->Bool}{eff:Nat->Option Nat}{n:Nat}{a0:Act}(hf:kT l a0.tmps.size=true)(hch:chainB l eff sk n=true)
 (hn:((List.range l.length).any fun i=>eff i == some (n - 1))=true\/n=0)
 (hV:∀i r v w w',(∀k,eff i=some k->k<r)->R r w w'->V i v w->V i v w')
 (hstep:rO P Q R C V sk eff l a0 0 l)
 (hend:∀a w,C n w->a.defers=a0.defers->a.tmps.size=a0.tmps.size->(∀t,eP l t=true->a.tmps.getD t undef=a0.tmps.getD t undef)->
  (∀(i:Nat)(o:Oper),l[i]? = some o->sk i=false->V i (dC o.dst a) w)->Q .normal a w):
 ∀(fuel:Nat)(listed:Array Bool)(a:Act)(w:World),listed.size=l.length->left l.length listed<=fuel->Y0 l C V sk eff n a0 listed a w->wpAny P .any l.toArray Q fuel listed a w:=by
 have chain:∀i k,i<l.length->eff i=some k->sk i=false/\k<n/\(∀j m,j<l.length->eff j=some m->(m=k->i=j)/\(m+1=k->reach l 3 i j=true))/\(k=0\/∃j,j<l.length/\eff j=some (k - 1)):=by
  intro i k hi hk;have:=List.all_eq_true.1 hch i (List.mem_range.2 hi);rw[hk]at this;simp only[Bool.and_eq_true,Bool.not_eq_true']at this;obtain⟨⟨⟨h1,h2⟩,h3⟩,h4⟩:=this;refine⟨h1,Nat.blt_eq ▸ h2,fun j m hj hm=>?_,?_⟩
  ·have:=List.all_eq_true.1 h3 j (List.mem_range.2 hj);rw[hm]at this;simp only[Bool.and_eq_true,Bool.or_eq_true,bne_iff_ne,beq_iff_eq,ne_eq]at this;exact⟨fun e=>this.1.resolve_left (fun h=>h e),fun e=>this.2.resolve_left (fun h=>h e)⟩
  ·rw[Bool.or_eq_true]at h4;rcases h4 with h4 | h4
   ·exact .inl (by simpa using h4)
   ·rw[List.any_eq_true]at h4;obtain⟨j,hj,he⟩:=h4;exact .inr ⟨j,List.mem_range.1 hj,by simpa using he⟩
 have hfin:∀(listed:Array Bool)(a:Act)(w:World),listed.size=l.length->Y0 l C V sk eff n a0 listed a w->Region.ready .any l.toArray listed = []->Q .normal a w:=fun listed a w hs hok hr=>by
  have hall:=kZ hf hs hr;obtain⟨r,hrn,hc,hcl⟩:=hok.c;have hr2:r=n:=by
   rcases hn with h | h
   ·rw[List.any_eq_true]at h;obtain⟨j,hj,he⟩:=h;have:=(hcl j (n - 1) (List.mem_range.1 hj) (by simpa using he)).1 (hall j (List.mem_range.1 hj));omega
   ·omega
  subst hr2;exact hend a w hc hok.defers hok.size hok.old fun i o ho hsk=>hok.val i o ho hsk (hall i (List.getElem?_eq_some_iff.1 ho).1)
 intro fuel
 induction fuel with
 | zero=>
   intro listed a w hs hle hok;have hr:Region.ready .any l.toArray listed = []:=by
    rcases hq:Region.ready .any l.toArray listed with _ | ⟨i,r⟩
    ·rfl
    ·have hi:i ∈ Region.ready .any l.toArray listed:=by rw[hq]; exact List.mem_cons_self ..
     have:=ed hs (mem_ready.1 hi).1;omega
   exact⟨hr,hfin listed a w hs hok hr⟩
 | succ fuel ih=>
   intro listed a w hs hle hok;refine⟨hfin listed a w hs hok,fun i hi=>?_⟩;obtain⟨hun,o,ho,hall⟩:=mem_ready.1 hi;have hol:l[i]? = some o:=by simpa using ho
   have hil:i<l.length:=(List.getElem?_eq_some_iff.1 hol).1;have hij:i<listed.size:=by rw[hs]; exact hil
   have JJ:listed.getD i false=false:=by simp only[Array.getD,hij,dif_pos]at hun ⊢;exact hun
   obtain⟨_,hlt⟩:=(dB hf).1 i o hol;obtain⟨r,hrn,hc,hcl⟩:=hok.c;have hst:=hstep.at hol;rw[Nat.zero_add]at hst;have F5:∀(o':Oper),l[i]? = some o'->∀e ∈ o'.after,Region.binds .any e=true->listed.getD e.on false=true:=fun o' ho' e he hb=>by
    obtain rfl:o=o':=by rw[hol]at ho'; exact zs ho'
    exact hall e he hb
   have hlo:∀j k,eff j=some k->reach l 3 i j=true->k<r:=fun j k hk hre=>by
    have h1:=jc hok.closed 3 i j hre F5;have hj:j<l.length:=by
     by_cases hj:j<l.length
     ·exact hj
     ·exfalso;have:¬ j<listed.size:=by omega
      simp[Array.getD,this]at h1
    exact(hcl j k hj hk).1 h1
   have hhi:∀j k,eff j=some k->reach l 3 j i=true->r<=k:=fun j k hk hre=>by
    by_cases hj:j<l.length
    ·rcases Nat.lt_or_ge k r with h | h
     ·exfalso;have hlj:=(hcl j k hj hk).2 h;obtain⟨oj,hoj⟩:∃oj,l[j]? = some oj:=⟨l[j],List.getElem?_eq_getElem hj⟩;have:=jc hok.closed 3 j i hre fun o' ho' e he hb=>hok.closed j o' ho' hlj e he hb
      rw[JJ]at this; cases this
     ·exact h
    ·exfalso;unfold reach at hre;rw[List.getElem?_eq_none (by omega)]at hre;cases hre
   have hrk:∀k,eff i=some k->k=r:=fun k hk=>by
    obtain⟨_,_,h3,h4⟩:=chain i k hil hk;have h5:¬ k<r:=fun h=>by have:=(hcl i k hil hk).2 h;rw[JJ]at this; cases this
    rcases h4 with h4 | ⟨j,hj,hje⟩
    ·omega
    ·by_cases hk0:k=0
     ·omega
     ·have:=hlo j (k - 1) hje ((h3 j (k - 1) hj hje).2 (by omega));omega
   have h1:=hst r a w hc hok.size hok.old (fun k hk hsk ok hkl=>by
    rw[List.any_eq_true]at hk;obtain⟨e,he,hb⟩:=hk;rw[Bool.and_eq_true]at hb;have F7:e.on=k:=by simpa using hb.1
    exact hok.val k ok hkl hsk (by rw[<-F7]; exact hall e (Array.mem_toList_iff.1 he) hb.2)) (fun j oj t hoj hdt hk=>by
    refine hok.Zv j oj t hoj hdt ?_;rw[List.any_eq_true]at hk;obtain⟨e,he,hb⟩:=hk;rw[Bool.and_eq_true]at hb;have F7:e.on=i:=by simpa using hb.1
    cases hlj:listed.getD j false with
    | false=>rfl
    | true=>
      have h2:=hok.closed j oj hoj hlj e (Array.mem_toList_iff.1 he) hb.2;rw[F7,JJ]at h2; cases h2) hlo hhi hrk
   have hold:∀v,∀t,eP l t=true->(a.put o.dst v).tmps.getD t undef=a0.tmps.getD t undef:=fun v t ht=>by
    have hne:o.dst≠some t:=by have:=List.all_eq_true.1 ht o (List.mem_of_getElem? hol);simpa using this
    rw[aT hne]; exact hok.old t ht
   have hother:∀(v:Value)(j:Nat)(oj:Oper),l[j]? = some oj->j≠i->dC oj.dst (a.put o.dst v)=dC oj.dst a:=fun v j oj hoj hne=>by
    cases hjt:oj.dst with
    | none=>rfl
    | some t=>
      refine aT fun hd=>hne ?_
      exact((dB hf).2 i j o oj t hol hoj hd hjt).symm
   have Gg:∀v (j:Nat) (oj:Oper) (t:Tmp),l[j]? = some oj->oj.dst=some t->(listed.setIfInBounds i true).getD j false=false->(a.put o.dst v).tmps.getD t undef=a0.tmps.getD t undef:=fun v j oj t hoj hdt hlj=>by
    have hji:j≠i:=by rintro rfl;rw[iC hij]at hlj; cases hlj
    have hne:o.dst≠some t:=fun hd=>hji ((dB hf).2 i j o oj t hol hoj hd hdt).symm
    rw[aT hne];refine hok.Zv j oj t hoj hdt ?_;rw[<-getD_set_ne (listed:=listed) false (Ne.symm hji)]; exact hlj
   have Tq:sV l (listed.setIfInBounds i true):=fun j oj hoj hlj e he hb=>by
    rcases aU hlj with rfl | hlj
    ·exact lL hij (F5 oj hoj e he hb)
    ·exact lL hij (hok.closed j oj hoj hlj e he hb)
   have hcl0:eff i=none->∀j k,j<l.length->eff j=some k->((listed.setIfInBounds i true).getD j false=true↔k<r):=fun hn j k hj hk=>by
    have hne:i≠j:=fun e=>by subst e; rw[hn]at hk; cases hk
    rw[getD_set_ne false hne]; exact hcl j k hj hk
   unfold wpOp;simp only[ho];by_cases hsk:sk i=true
   ·rw[zj hsk]at h1;rw[zi (by rw[h1]; decide)];have hen:eff i=none:=by
     cases he:eff i with
     | none=>rfl
     | some k=>
       have:=(chain i k hil he).1;rw[hsk]at this; cases this
    refine ih _ _ _ (by simpa using hs) (by have:=ed hs hun; omega) ⟨⟨r,hrn,hc,hcl0 hen⟩,by rw[put_defers]; exact hok.defers,by rw[iF]; exact hok.size,hold _,fun j oj hoj hsj hlj=>?_,Gg _,Tq⟩;rcases aU hlj with rfl | hlj
    ·rw[hsk]at hsj; cases hsj
    ·have hne:j≠i:=fun e=>by subst e; rw[hsk]at hsj; cases hsj
     rw[hother _ j oj hoj hne];exact hok.val j oj hoj hsj hlj
   ·rw[zi hsk]at h1;rw[zj h1.1];refine .inl (Oper.wp_mono ?_ h1.2);rintro a' w' ⟨v,rfl,hb,hc',hv⟩;have hcc:∃r',r'<=n/\C r' w'/\∀j k,j<l.length->eff j=some k->((listed.setIfInBounds i true).getD j false=true↔k<r'):=by
     cases he:eff i with
     | none=>
       rw[he]at hc';exact⟨r,hrn,hc',hcl0 he⟩
     | some k0=>
       rw[he]at hc';obtain rfl:=hrk k0 he;obtain⟨_,hlt0,h3,_⟩:=chain i k0 hil he;refine⟨k0+1,hlt0,hc',fun j k hj hk=>?_⟩;by_cases hje:i=j
       ·subst hje;rw[he]at hk;obtain rfl:=zs hk;rw[iC hij];exact⟨fun _=>by omega,fun _=>rfl⟩
       ·rw[getD_set_ne false hje,hcl j k hj hk];have:k≠k0:=fun e=>hje ((h3 j k hj hk).1 e)
        omega
    refine ih _ _ _ (by simpa using hs) (by have:=ed hs hun; omega) ⟨hcc,by rw[put_defers]; exact hok.defers,by rw[iF]; exact hok.size,hold _,fun j oj hoj hsj hlj=>?_,Gg _,Tq⟩;by_cases hji:j=i
    ·subst hji;obtain rfl:o=oj:=by rw[hol]at hoj; exact zs hoj
     have hsv:dC o.dst (a.put o.dst v)=kept o.dst v:=by
      cases hd:o.dst with
      | none=>rfl
      | some t=>exact dY (by rw[hok.size]; exact hlt t hd)
     rw[hsv];exact hv
    ·rcases aU hlj with h | hlj
     ·exact(hji h).elim
     ·rw[hother _ j oj hoj hji];exact hV j r _ w w' (fun k hk=>(hcl j k (List.getElem?_eq_some_iff.1 hoj).1 hk).1 hlj) hb (hok.val j oj hoj hsj hlj)
theorem lY{id:Nat}{l:List Oper}{a0:Act}{w:World}(hm:P.follows .mixedOrders=true)(R:Nat->World->World->Prop)(C:Nat->World->Prop)(V:Nat->Value->World->Prop)(sk:Nat->Bool)(eff:Nat->Option Nat)(n:Nat)(hf:kT l a0.tmps.size=true)
 (hch:chainB l eff sk n=true)(hn:((List.range l.length).any fun i=>eff i == some (n - 1))=true\/n=0)
 (hV:∀i r v w w',(∀k,eff i=some k->k<r)->R r w w'->V i v w->V i v w')(h0:C 0 w.drew)
 (hstep:rO P Q R C V sk eff l a0 0 l)
 (hend:∀a w,C n w->a.defers=a0.defers->a.tmps.size=a0.tmps.size->(∀t,eP l t=true->a.tmps.getD t undef=a0.tmps.getD t undef)->
  (∀(i:Nat)(o:Oper),l[i]? = some o->sk i=false->V i (dC o.dst a) w)->Q .normal a w):(Code.region id l.toArray true).wp P Q a0 w:=by
 refine wp_region_any hm ?_;have hnn:(Array.replicate l.toArray.size false).size=l.length:=by simp
 have hz:∀i,i<l.length->(Array.replicate l.toArray.size false).getD i false=false:=fun i hi=>by simp[Array.getD,hi]
 refine Cj hf hch hn hV hstep hend _ _ _ _ hnn ?_ ⟨⟨0,Nat.zero_le _,h0,fun i k hi _=>?_⟩,rfl,rfl,fun t _=>rfl,fun i o ho _ hl=>?_,fun _ _ _ _ _ _=>rfl,fun j oj hoj hl=>?_⟩
 ·have:=List.length_filter_le (fun i=>!(Array.replicate l.toArray.size false).getD i true) (List.range l.length);unfold left;simpa using this
 ·rw[hz i hi]; simp
 ·rw[hz i (List.getElem?_eq_some_iff.1 ho).1]at hl; cases hl
 ·rw[hz j (List.getElem?_eq_some_iff.1 hoj).1]at hl; cases hl
end
section
variable {P:Program} {Q:Exit->Act->World->Prop}
def StepA(P:Program)(Q:Exit->Act->World->Prop)(R:Nat->World->World->Prop)(C:Nat->Act->World->Prop)(V:Nat->Value->World->Prop)(sk:Nat->Bool)(eff:Nat->Option Nat)(l:List Oper)(a0:Act)(i:Nat)(o:Oper):Prop:=
 ∀(r:Nat) a w,C r a w->a.tmps.size=a0.tmps.size->(∀t,eP l t=true->a.tmps.getD t undef=a0.tmps.getD t undef)->
   (∀k,(o.after.toList.any fun e=>e.on == k && Region.binds .any e)=true->sk k=false->∀(ok:Oper),l[k]? = some ok->V k (dC ok.dst a) w)->
   (∀(j:Nat)(oj:Oper)(t:Tmp),l[j]? = some oj->oj.dst=some t->(oj.after.toList.any fun e=>e.on == i && Region.binds .any e)=true->a.tmps.getD t undef=a0.tmps.getD t undef)->
   (∀j k,eff j=some k->reach l 3 i j=true->k<r)->(∀j k,eff j=some k->reach l 3 j i=true->r<=k)->(∀k,eff i=some k->k=r)->
   if sk i then Region.wanted o (yielded l.toArray a.tmps)=false
   else Region.wanted o (yielded l.toArray a.tmps)=true/\o.wp P a w (fun a' w'=>∃v,a'=a.put o.dst v/\R r w w'/\(match eff i with | some _=>C (r+1) (a.put o.dst v) w' | none=>w'=w)/\V i (kept o.dst v) w') Q
def uT(P:Program)(Q:Exit->Act->World->Prop)(R:Nat->World->World->Prop)(C:Nat->Act->World->Prop)(V:Nat->Value->World->Prop)(sk:Nat->Bool)(eff:Nat->Option Nat)(l:List Oper)(a0:Act):Nat->List Oper->Prop
 | _,[]=>True
 | i,o :: r=>StepA P Q R C V sk eff l a0 i o/\uT P Q R C V sk eff l a0 (i+1) r
theorem uT.at{R:Nat->World->World->Prop}{C:Nat->Act->World->Prop}{V:Nat->Value->World->Prop}{sk:Nat->Bool}{eff:Nat->Option Nat}{l:List Oper}{a0:Act}:∀{i:Nat}{r:List Oper},uT P Q R C V sk eff l a0 i r->∀{j:Nat}{o:Oper},r[j]? = some o->StepA P Q R C V sk eff l a0 (i+j) o
 | i,[],_,j,o,h=>by simp at h
 | i,x :: r,h,0,o,ho=>by
   have:x=o:=by simpa using ho
   subst this; exact h.1
 | i,x :: r,h,j+1,o,ho=>by have:=uT.at h.2 (j:=j) (o:=o) (by simpa using ho);rwa[Nat.add_assoc,Nat.add_comm 1 j]at this
theorem kK{R:World->World->Prop}{V:Nat->Value->World->Prop}{i:Nat}{o:Oper}{a:Act}{w:World}{v:Value}(hr:R w w)(hv:V i (kept o.dst v) w)(h:∀K:Act->World->Prop,K (a.put o.dst v) w->o.wp P a w K Q):
 o.wp P a w (fun a' w'=>∃v,a'=a.put o.dst v/\R w w'/\w'=w/\V i (kept o.dst v) w') Q:=h _ ⟨v,rfl,hr,rfl,hv⟩
theorem qO{R:World->World->Prop}{C:Act->World->Prop}{V:Nat->Value->World->Prop}{i:Nat}{o:Oper}{a:Act}{w:World}(h:∀K:Act->World->Prop,(∀v w',R w w'->C (a.put o.dst v) w'->V i (kept o.dst v) w'->K (a.put o.dst v) w')->o.wp P a w K Q):
 o.wp P a w (fun a' w'=>∃v,a'=a.put o.dst v/\R w w'/\C (a.put o.dst v) w'/\V i (kept o.dst v) w') Q:=h _ fun v w' h1 h2 h3=>⟨v,rfl,h1,h2,h3⟩
structure YX (l:List Oper) (C:Nat->Act->World->Prop) (V:Nat->Value->World->Prop) (sk:Nat->Bool) (eff:Nat->Option Nat) (n:Nat) (a0:Act) (listed:Array Bool) (a:Act) (w:World):Prop where
 c:∃r,r<=n/\C r a w/\∀i k,i<l.length->eff i=some k->(listed.getD i false=true↔k<r)
 defers:a.defers=a0.defers
 size:a.tmps.size=a0.tmps.size
 old:∀t,eP l t=true->a.tmps.getD t undef=a0.tmps.getD t undef
 val:∀(i:Nat)(o:Oper),l[i]? = some o->sk i=false->listed.getD i false=true->V i (dC o.dst a) w
 Zv:∀(j:Nat)(oj:Oper)(t:Tmp),l[j]? = some oj->oj.dst=some t->listed.getD j false=false->a.tmps.getD t undef=a0.tmps.getD t undef
 closed:sV l listed
theorem Lh{l:List Oper}{R:Nat->World->World->Prop}{C:Nat->Act->World->Prop}{V:Nat->Value->World->Prop}{sk:Nat->Bool}{eff:Nat->Option Nat}{n:Nat}{a0:Act}(hf:kT l a0.tmps.size=true)(hch:chainB l eff sk n=true)
 (hn:((List.range l.length).any fun i=>eff i == some (n - 1))=true\/n=0)
 (hC:∀r a w i (o:Oper) v,l[i]? = some o->eff i=none->C r a w->C r (a.put o.dst v) w)(hV:∀i r v w w',(∀k,eff i=some k->k<r)->R r w w'->V i v w->V i v w')
 (hstep:uT P Q R C V sk eff l a0 0 l)
 (hend:∀a w,C n a w->a.defers=a0.defers->a.tmps.size=a0.tmps.size->(∀t,eP l t=true->a.tmps.getD t undef=a0.tmps.getD t undef)->
  (∀(i:Nat)(o:Oper),l[i]? = some o->sk i=false->V i (dC o.dst a) w)->Q .normal a w):
 ∀(fuel:Nat)(listed:Array Bool)(a:Act)(w:World),listed.size=l.length->left l.length listed<=fuel->YX l C V sk eff n a0 listed a w->wpAny P .any l.toArray Q fuel listed a w:=by
 have chain:∀i k,i<l.length->eff i=some k->sk i=false/\k<n/\(∀j m,j<l.length->eff j=some m->(m=k->i=j)/\(m+1=k->reach l 3 i j=true))/\(k=0\/∃j,j<l.length/\eff j=some (k - 1)):=by
  intro i k hi hk;have:=List.all_eq_true.1 hch i (List.mem_range.2 hi);rw[hk]at this;simp only[Bool.and_eq_true,Bool.not_eq_true']at this;obtain⟨⟨⟨h1,h2⟩,h3⟩,h4⟩:=this;refine⟨h1,Nat.blt_eq ▸ h2,fun j m hj hm=>?_,?_⟩
  ·have:=List.all_eq_true.1 h3 j (List.mem_range.2 hj);rw[hm]at this;simp only[Bool.and_eq_true,Bool.or_eq_true,bne_iff_ne,beq_iff_eq,ne_eq]at this;exact⟨fun e=>this.1.resolve_left (fun h=>h e),fun e=>this.2.resolve_left (fun h=>h e)⟩
  ·rw[Bool.or_eq_true]at h4;rcases h4 with h4 | h4
   ·exact .inl (by simpa using h4)
   ·rw[List.any_eq_true]at h4;obtain⟨j,hj,he⟩:=h4;exact .inr ⟨j,List.mem_range.1 hj,by simpa using he⟩
 have hfin:∀(listed:Array Bool)(a:Act)(w:World),listed.size=l.length->YX l C V sk eff n a0 listed a w->Region.ready .any l.toArray listed = []->Q .normal a w:=fun listed a w hs hok hr=>by
  have hall:=kZ hf hs hr;obtain⟨r,hrn,hc,hcl⟩:=hok.c;have hr2:r=n:=by
   rcases hn with h | h
   ·rw[List.any_eq_true]at h;obtain⟨j,hj,he⟩:=h;have:=(hcl j (n - 1) (List.mem_range.1 hj) (by simpa using he)).1 (hall j (List.mem_range.1 hj));omega
   ·omega
  subst hr2;exact hend a w hc hok.defers hok.size hok.old fun i o ho hsk=>hok.val i o ho hsk (hall i (List.getElem?_eq_some_iff.1 ho).1)
 intro fuel
 induction fuel with
 | zero=>
   intro listed a w hs hle hok;have hr:Region.ready .any l.toArray listed = []:=by
    rcases hq:Region.ready .any l.toArray listed with _ | ⟨i,r⟩
    ·rfl
    ·have hi:i ∈ Region.ready .any l.toArray listed:=by rw[hq]; exact List.mem_cons_self ..
     have:=ed hs (mem_ready.1 hi).1;omega
   exact⟨hr,hfin listed a w hs hok hr⟩
 | succ fuel ih=>
   intro listed a w hs hle hok;refine⟨hfin listed a w hs hok,fun i hi=>?_⟩;obtain⟨hun,o,ho,hall⟩:=mem_ready.1 hi;have hol:l[i]? = some o:=by simpa using ho
   have hil:i<l.length:=(List.getElem?_eq_some_iff.1 hol).1;have hij:i<listed.size:=by rw[hs]; exact hil
   have JJ:listed.getD i false=false:=by simp only[Array.getD,hij,dif_pos]at hun ⊢;exact hun
   obtain⟨_,hlt⟩:=(dB hf).1 i o hol;obtain⟨r,hrn,hc,hcl⟩:=hok.c;have hst:=hstep.at hol;rw[Nat.zero_add]at hst;have F5:∀(o':Oper),l[i]? = some o'->∀e ∈ o'.after,Region.binds .any e=true->listed.getD e.on false=true:=fun o' ho' e he hb=>by
    obtain rfl:o=o':=by rw[hol]at ho'; exact zs ho'
    exact hall e he hb
   have hlo:∀j k,eff j=some k->reach l 3 i j=true->k<r:=fun j k hk hre=>by
    have h1:=jc hok.closed 3 i j hre F5;have hj:j<l.length:=by
     by_cases hj:j<l.length
     ·exact hj
     ·exfalso;have:¬ j<listed.size:=by omega
      simp[Array.getD,this]at h1
    exact(hcl j k hj hk).1 h1
   have hhi:∀j k,eff j=some k->reach l 3 j i=true->r<=k:=fun j k hk hre=>by
    by_cases hj:j<l.length
    ·rcases Nat.lt_or_ge k r with h | h
     ·exfalso;have hlj:=(hcl j k hj hk).2 h;obtain⟨oj,hoj⟩:∃oj,l[j]? = some oj:=⟨l[j],List.getElem?_eq_getElem hj⟩;have:=jc hok.closed 3 j i hre fun o' ho' e he hb=>hok.closed j o' ho' hlj e he hb
      rw[JJ]at this; cases this
     ·exact h
    ·exfalso;unfold reach at hre;rw[List.getElem?_eq_none (by omega)]at hre;cases hre
   have hrk:∀k,eff i=some k->k=r:=fun k hk=>by
    obtain⟨_,_,h3,h4⟩:=chain i k hil hk;have h5:¬ k<r:=fun h=>by have:=(hcl i k hil hk).2 h;rw[JJ]at this; cases this
    rcases h4 with h4 | ⟨j,hj,hje⟩
    ·omega
    ·by_cases hk0:k=0
     ·omega
     ·have:=hlo j (k - 1) hje ((h3 j (k - 1) hj hje).2 (by omega));omega
   have h1:=hst r a w hc hok.size hok.old (fun k hk hsk ok hkl=>by
    rw[List.any_eq_true]at hk;obtain⟨e,he,hb⟩:=hk;rw[Bool.and_eq_true]at hb;have F7:e.on=k:=by simpa using hb.1
    exact hok.val k ok hkl hsk (by rw[<-F7]; exact hall e (Array.mem_toList_iff.1 he) hb.2)) (fun j oj t hoj hdt hk=>by
    refine hok.Zv j oj t hoj hdt ?_;rw[List.any_eq_true]at hk;obtain⟨e,he,hb⟩:=hk;rw[Bool.and_eq_true]at hb;have F7:e.on=i:=by simpa using hb.1
    cases hlj:listed.getD j false with
    | false=>rfl
    | true=>
      have h2:=hok.closed j oj hoj hlj e (Array.mem_toList_iff.1 he) hb.2;rw[F7,JJ]at h2; cases h2) hlo hhi hrk
   have hold:∀v,∀t,eP l t=true->(a.put o.dst v).tmps.getD t undef=a0.tmps.getD t undef:=fun v t ht=>by
    have hne:o.dst≠some t:=by have:=List.all_eq_true.1 ht o (List.mem_of_getElem? hol);simpa using this
    rw[aT hne]; exact hok.old t ht
   have hother:∀(v:Value)(j:Nat)(oj:Oper),l[j]? = some oj->j≠i->dC oj.dst (a.put o.dst v)=dC oj.dst a:=fun v j oj hoj hne=>by
    cases hjt:oj.dst with
    | none=>rfl
    | some t=>
      refine aT fun hd=>hne ?_
      exact((dB hf).2 i j o oj t hol hoj hd hjt).symm
   have Gg:∀v (j:Nat) (oj:Oper) (t:Tmp),l[j]? = some oj->oj.dst=some t->(listed.setIfInBounds i true).getD j false=false->(a.put o.dst v).tmps.getD t undef=a0.tmps.getD t undef:=fun v j oj t hoj hdt hlj=>by
    have hji:j≠i:=by rintro rfl;rw[iC hij]at hlj; cases hlj
    have hne:o.dst≠some t:=fun hd=>hji ((dB hf).2 i j o oj t hol hoj hd hdt).symm
    rw[aT hne];refine hok.Zv j oj t hoj hdt ?_;rw[<-getD_set_ne (listed:=listed) false (Ne.symm hji)]; exact hlj
   have Tq:sV l (listed.setIfInBounds i true):=fun j oj hoj hlj e he hb=>by
    rcases aU hlj with rfl | hlj
    ·exact lL hij (F5 oj hoj e he hb)
    ·exact lL hij (hok.closed j oj hoj hlj e he hb)
   have hcl0:eff i=none->∀j k,j<l.length->eff j=some k->((listed.setIfInBounds i true).getD j false=true↔k<r):=fun hn j k hj hk=>by
    have hne:i≠j:=fun e=>by subst e; rw[hn]at hk; cases hk
    rw[getD_set_ne false hne]; exact hcl j k hj hk
   unfold wpOp;simp only[ho];by_cases hsk:sk i=true
   ·rw[zj hsk]at h1;rw[zi (by rw[h1]; decide)];have hen:eff i=none:=by
     cases he:eff i with
     | none=>rfl
     | some k=>
       have:=(chain i k hil he).1;rw[hsk]at this; cases this
    refine ih _ _ _ (by simpa using hs) (by have:=ed hs hun; omega) ⟨⟨r,hrn,hC r a w i o _ hol hen hc,hcl0 hen⟩,by rw[put_defers]; exact hok.defers,by rw[iF]; exact hok.size,hold _,fun j oj hoj hsj hlj=>?_,Gg _,Tq⟩;rcases aU hlj with rfl | hlj
    ·rw[hsk]at hsj; cases hsj
    ·have hne:j≠i:=fun e=>by subst e; rw[hsk]at hsj; cases hsj
     rw[hother _ j oj hoj hne];exact hok.val j oj hoj hsj hlj
   ·rw[zi hsk]at h1;rw[zj h1.1];refine .inl (Oper.wp_mono ?_ h1.2);rintro a' w' ⟨v,rfl,hb,hc',hv⟩;have hcc:∃r',r'<=n/\C r' (a.put o.dst v) w'/\∀j k,j<l.length->eff j=some k->((listed.setIfInBounds i true).getD j false=true↔k<r'):=by
     cases he:eff i with
     | none=>
       rw[he]at hc';obtain rfl:w'=w:=hc';exact⟨r,hrn,hC r a w' i o v hol he hc,hcl0 he⟩
     | some k0=>
       rw[he]at hc';obtain rfl:=hrk k0 he;obtain⟨_,hlt0,h3,_⟩:=chain i k0 hil he;refine⟨k0+1,hlt0,hc',fun j k hj hk=>?_⟩;by_cases hje:i=j
       ·subst hje;rw[he]at hk;obtain rfl:=zs hk;rw[iC hij];exact⟨fun _=>by omega,fun _=>rfl⟩
       ·rw[getD_set_ne false hje,hcl j k hj hk];have:k≠k0:=fun e=>hje ((h3 j k hj hk).1 e)
        omega
    refine ih _ _ _ (by simpa using hs) (by have:=ed hs hun; omega) ⟨hcc,by rw[put_defers]; exact hok.defers,by rw[iF]; exact hok.size,hold _,fun j oj hoj hsj hlj=>?_,Gg _,Tq⟩;by_cases hji:j=i
    ·subst hji;obtain rfl:o=oj:=by rw[hol]at hoj; exact zs hoj
     have hsv:dC o.dst (a.put o.dst v)=kept o.dst v:=by
      cases hd:o.dst with
      | none=>rfl
      | some t=>exact dY (by rw[hok.size]; exact hlt t hd)
     rw[hsv];exact hv
    ·rcases aU hlj with h | hlj
     ·exact(hji h).elim
     ·rw[hother _ j oj hoj hji];exact hV j r _ w w' (fun k hk=>(hcl j k (List.getElem?_eq_some_iff.1 hoj).1 hk).1 hlj) hb (hok.val j oj hoj hsj hlj)
theorem zZ{id:Nat}{l:List Oper}{a0:Act}{w:World}(hm:P.follows .mixedOrders=true)(R:Nat->World->World->Prop)(C:Nat->Act->World->Prop)(V:Nat->Value->World->Prop)(sk:Nat->Bool)(eff:Nat->Option Nat)(n:Nat)(hf:kT l a0.tmps.size=true)
 (hch:chainB l eff sk n=true)(hn:((List.range l.length).any fun i=>eff i == some (n - 1))=true\/n=0)
 (hC:∀r a w i (o:Oper) v,l[i]? = some o->eff i=none->C r a w->C r (a.put o.dst v) w)(hV:∀i r v w w',(∀k,eff i=some k->k<r)->R r w w'->V i v w->V i v w')(h0:C 0 a0 w.drew)
 (hstep:uT P Q R C V sk eff l a0 0 l)
 (hend:∀a w,C n a w->a.defers=a0.defers->a.tmps.size=a0.tmps.size->(∀t,eP l t=true->a.tmps.getD t undef=a0.tmps.getD t undef)->
  (∀(i:Nat)(o:Oper),l[i]? = some o->sk i=false->V i (dC o.dst a) w)->Q .normal a w):(Code.region id l.toArray true).wp P Q a0 w:=by
 refine wp_region_any hm ?_;have hnn:(Array.replicate l.toArray.size false).size=l.length:=by simp
 have hz:∀i,i<l.length->(Array.replicate l.toArray.size false).getD i false=false:=fun i hi=>by simp[Array.getD,hi]
 refine Lh hf hch hn hC hV hstep hend _ _ _ _ hnn ?_ ⟨⟨0,Nat.zero_le _,h0,fun i k hi _=>?_⟩,rfl,rfl,fun t _=>rfl,fun i o ho _ hl=>?_,fun _ _ _ _ _ _=>rfl,fun j oj hoj hl=>?_⟩
 ·have:=List.length_filter_le (fun i=>!(Array.replicate l.toArray.size false).getD i true) (List.range l.length);unfold left;simpa using this
 ·rw[hz i hi]; simp
 ·rw[hz i (List.getElem?_eq_some_iff.1 ho).1]at hl; cases hl
 ·rw[hz j (List.getElem?_eq_some_iff.1 hoj).1]at hl; cases hl
end
def DT(l:List Oper)(eff:Nat->Option Nat)(t:Tmp):Bool:=(List.range l.length).all fun i=>(eff i).isSome || (match l[i]? with | some o=>!(o.dst == some t) | none=>true)
theorem Jo{l:List Oper}{eff:Nat->Option Nat}{t:Tmp}(h:DT l eff t=true){i:Nat}{o:Oper}(ho:l[i]? = some o)(he:eff i=none):o.dst≠some t:=by have h1:=List.all_eq_true.1 h i (List.mem_range.2 (List.getElem?_eq_some_iff.1 ho).1);rw[he,ho]at h1;simpa using h1
theorem XD{l:List Oper}{eff:Nat->Option Nat}(t u x:Tmp)(h:DT l eff t=true)(h2:DT l eff u=true)(h3:DT l eff x=true)(C:Nat->Value->Value->Value->World->Prop):∀(r:Nat)(a:Act)(w:World)(i:Nat)(o:Oper)(v:Value),l[i]? = some o->eff i=none->C r (a.tmps.getD t undef) (a.tmps.getD u undef) (a.tmps.getD x undef) w->C r ((a.put o.dst v).tmps.getD t undef) ((a.put o.dst v).tmps.getD u undef) ((a.put o.dst v).tmps.getD x undef) w:=
 fun r a w i o v ho he hc=>by rw[aT (Jo h ho he),aT (Jo h2 ho he),aT (Jo h3 ho he)]; exact hc
end
end Go.Proofs.YtfnehkmhcmkhjaaGreat
