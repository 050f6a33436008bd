/- Parts:XAct XInd XIa -/
import Derived.Test.YtfnehkmhcmkhjaaGreatDvAl
import Derived.Test.YtfnehkmhcmkhjaaGreatDv08
set_option maxRecDepth 100000
set_option maxHeartbeats 8000000
set_option linter.unusedVariables false
namespace Go.Proofs.YtfnehkmhcmkhjaaGreat
open Tryz
section
open Go.RowKit
def bI(G:Nat->Value):List Nat->Act->Act
 | [],a=>a
 | t :: r,a=>bI G r ⟨a.tmps.setIfInBounds t (G t),a.defers⟩
theorem wM(G:Nat->Value):∀(ds:List Nat)(a:Act),(bI G ds a).tmps.size=a.tmps.size
 | [],a=>rfl
 | t :: r,a=>(wM G r _).trans (by simp)
theorem rF(G:Nat->Value):∀(ds:List Nat)(a:Act),(bI G ds a).defers=a.defers
 | [],a=>rfl
 | t :: r,a=>rF G r _
theorem BG(G:Nat->Value):∀(ds:List Nat)(a:Act)(i:Nat),i<a.tmps.size->(bI G ds a).tmps.getD i undef=if i ∈ ds then G i else a.tmps.getD i undef
 | [],a,i,h=>by simp[bI]
 | t :: r,a,i,h=>by
   unfold bI;rw[BG G r _ i (by simpa using h)];by_cases h1:i ∈ r
   ·simp[h1]
   ·by_cases h2:i=t
    ·subst h2;simp[h1,h,Array.getD]
    ·have h3:t≠i:=fun e=>h2 e.symm
     simp[h1,h2,h3,h,Array.getD]
theorem cO{l:List Oper}{a a0:Act}(ds:List Nat)(hds:(l.all fun o=>match o.dst with | some t=>ds.contains t | none=>true)=true)(hd:a.defers=a0.defers)(hs:a.tmps.size=a0.tmps.size)(hold:∀t,eP l t=true->a.tmps.getD t undef=a0.tmps.getD t undef):
 ∃G:Nat->Value,(∀t,a.tmps.getD t undef=G t)/\a=bI G ds a0:=by
 obtain⟨G,hG⟩:∃G:Nat->Value,G=fun t=>a.tmps.getD t undef:=⟨_,rfl⟩
 have hg:∀t,a.tmps.getD t undef=G t:=fun t=>by rw[hG]
 refine⟨G,hg,?_⟩;have key:∀(T:Array Value)(i:Nat)(h:i<T.size),T[i]=T.getD i undef:=fun T i h=>by simp[Array.getD,h]
 have ht:a.tmps=(bI G ds a0).tmps:=by
  apply Array.ext
  ·rw[wM]; exact hs
  ·intro i h1 h2;rw[key _ _ h1,key _ _ h2,BG _ _ _ _ (by rw[<-hs]; exact h1)];by_cases hn:i ∈ ds
   ·rw[zj hn]; exact hg i
   ·rw[zi hn];refine hold i ?_;unfold eP;rw[List.all_eq_true]at hds ⊢;intro o ho;have:=hds o ho;cases e:o.dst with
    | none=>simp
    | some t=>
      rw[e]at this;have h3:t ∈ ds:=by simpa using this
      simp only[bne_iff_ne,ne_eq,Option.some.injEq];exact fun e4=>hn (e4 ▸ h3)
 have hdd:a.defers=(bI G ds a0).defers:=by rw[rF]; exact hd
 obtain⟨tm,df⟩:=a;generalize bI G ds a0=b at *;obtain⟨tb,db⟩:=b;simp only at ht hdd;rw[ht,hdd]
section
variable {P:Program} {Q:Exit->Act->World->Prop}
def FD(l:List Oper)(i:Nat)(a:Act)(k:Nat):Value:=match l[i]?,l[k]? with
 | some oi,some ok=>if (oi.after.toList.any fun e=>e.on == k && Region.binds .any e)=true then dC ok.dst a else undef
 | _,_=>undef
def Y2(P:Program)(Q:Exit->Act->World->Prop)(R:World->World->Prop)(C:World->Prop)(V:Nat->Value->(Nat->Value)->World->Prop)(sk:Nat->Bool)(l:List Oper)(a0:Act)(i:Nat)(o:Oper):Prop:=
 ∀a w,C w->a.tmps.size=a0.tmps.size->(∀t,eP l t=true->a.tmps.getD t undef=a0.tmps.getD t undef)->
   (∀k,(o.after.toList.any fun e=>e.on == k && Region.binds .any e)=true->sk k=false->∀(ok:Oper),l[k]? = some ok->V k (dC ok.dst a) (FD l k a) w)->
   if sk i then Region.wanted o (yielded l.toArray a.tmps)=false
   else Region.wanted o (yielded l.toArray a.tmps)=true/\o.wp P a w (fun a' w'=>∃v,a'=a.put o.dst v/\R w w'/\V i (kept o.dst v) (FD l i a) w') Q
def uU(P:Program)(Q:Exit->Act->World->Prop)(R:World->World->Prop)(C:World->Prop)(V:Nat->Value->(Nat->Value)->World->Prop)(sk:Nat->Bool)(l:List Oper)(a0:Act):Nat->List Oper->Prop
 | _,[]=>True
 | i,o :: r=>Y2 P Q R C V sk l a0 i o/\uU P Q R C V sk l a0 (i+1) r
theorem uU.at{R:World->World->Prop}{C:World->Prop}{V:Nat->Value->(Nat->Value)->World->Prop}{sk:Nat->Bool}{l:List Oper}{a0:Act}:∀{i:Nat}{r:List Oper},uU P Q R C V sk l a0 i r->∀{j:Nat}{o:Oper},r[j]? = some o->Y2 P Q R C V sk l a0 (i+j) o
 | i,[],_,j,o,h=>by simp at h
 | i,x :: r,h,0,o,ho=>by
   have:x=o:=by simpa using ho
   subst this; exact h.1
 | i,x :: r,h,j+1,o,ho=>by have:=uU.at h.2 (j:=j) (o:=o) (by simpa using ho);rwa[Nat.add_assoc,Nat.add_comm 1 j]at this
theorem aA{R:World->World->Prop}{V:Nat->Value->(Nat->Value)->World->Prop}{d:Nat->Value}{i:Nat}{o:Oper}{a:Act}{w:World}{v:Value}(hr:R w w)(hv:V i (kept o.dst v) d w)(h:∀K:Act->World->Prop,K (a.put o.dst v) w->o.wp P a w K Q):
 o.wp P a w (fun a' w'=>∃v,a'=a.put o.dst v/\R w w'/\V i (kept o.dst v) d w') Q:=h _ ⟨v,rfl,hr,hv⟩
theorem zQ{R:World->World->Prop}{V:Nat->Value->(Nat->Value)->World->Prop}{d:Nat->Value}{i:Nat}{o:Oper}{a:Act}{w:World}{v:Value}(hr:∀w',Below w.heap.size w w'->R w w')(hv:∀w',V i (kept o.dst v) d w')(h:∀K:Act->World->Prop,(∀w',Below w.heap.size w w'->K (a.put o.dst v) w')->o.wp P a w K Q):
 o.wp P a w (fun a' w'=>∃v,a'=a.put o.dst v/\R w w'/\V i (kept o.dst v) d w') Q:=h _ fun w' hb=>⟨v,rfl,hr w' hb,hv w'⟩
theorem bf{R:World->World->Prop}{V:Nat->Value->(Nat->Value)->World->Prop}{d:Nat->Value}{i:Nat}{o:Oper}{a:Act}{w w':World}{v:Value}(hr:R w w')(hv:V i (kept o.dst v) d w')(h:∀K:Act->World->Prop,K (a.put o.dst v) w'->o.wp P a w K Q):
 o.wp P a w (fun a' w'=>∃v,a'=a.put o.dst v/\R w w'/\V i (kept o.dst v) d w') Q:=h _ ⟨v,rfl,hr,hv⟩
structure YY (l:List Oper) (C:World->Prop) (V:Nat->Value->(Nat->Value)->World->Prop) (sk:Nat->Bool) (a0:Act) (listed:Array Bool) (a:Act) (w:World):Prop where
 c:C w
 defers:a.defers=a0.defers
 size:a.tmps.size=a0.tmps.size
 old:∀t,eP l t=true->a.tmps.getD t undef=a0.tmps.getD t undef
 dn:∀(i:Nat)(o:Oper),l[i]? = some o->listed.getD i false=true->∀e ∈ o.after,Region.binds .any e=true->listed.getD e.on false=true
 val:∀(i:Nat)(o:Oper),l[i]? = some o->sk i=false->listed.getD i false=true->V i (dC o.dst a) (FD l i a) w
theorem Qy{l:List Oper}{R:World->World->Prop}{C:World->Prop}{V:Nat->Value->(Nat->Value)->World->Prop}{sk:Nat->Bool}{a0:Act}(hf:kT l a0.tmps.size=true)
 (hC:∀w w',R w w'->C w->C w')(hV:∀i v d w w',R w w'->V i v d w->V i v d w')
 (hstep:uU P Q R C V sk l a0 0 l)
 (hend:∀a w,C w->a.defers=a0.defers->a.tmps.size=a0.tmps.size->(∀t,eP l t=true->a.tmps.getD t undef=a0.tmps.getD t undef)->
  (∀(i:Nat)(o:Oper),l[i]? = some o->sk i=false->V i (dC o.dst a) (FD l i a) w)->Q .normal a w):
 ∀(fuel:Nat)(listed:Array Bool)(a:Act)(w:World),listed.size=l.length->left l.length listed<=fuel->YY l C V sk a0 listed a w->wpAny P .any l.toArray Q fuel listed a w:=by
 have hfin:∀(listed:Array Bool)(a:Act)(w:World),listed.size=l.length->YY l C V sk a0 listed a w->Region.ready .any l.toArray listed = []->Q .normal a w:=fun listed a w hs hok hr=>
  hend a w hok.c hok.defers hok.size hok.old fun i o ho hsk=>hok.val i o ho hsk (kZ hf hs hr i (List.getElem?_eq_some_iff.1 ho).1)
 intro fuel
 induction fuel with
 | zero=>
   intro listed a w hs hle hok;have hr:Region.ready .any l.toArray listed = []:=by
    rcases hq:Region.ready .any l.toArray listed with _ | ⟨i,r⟩
    ·rfl
    ·have hi:i ∈ Region.ready .any l.toArray listed:=by rw[hq]; exact List.mem_cons_self ..
     have:=ed hs (mem_ready.1 hi).1;omega
   exact⟨hr,hfin listed a w hs hok hr⟩
 | succ fuel ih=>
   intro listed a w hs hle hok;refine⟨hfin listed a w hs hok,fun i hi=>?_⟩;obtain⟨hun,o,ho,hall⟩:=mem_ready.1 hi;have hol:l[i]? = some o:=by simpa using ho
   obtain⟨_,hlt⟩:=(dB hf).1 i o hol;have hst:=hstep.at hol;rw[Nat.zero_add]at hst;have h1:=hst a w hok.c hok.size hok.old fun k hk hsk ok hkl=>by
    rw[List.any_eq_true]at hk;obtain⟨e,he,hb⟩:=hk;rw[Bool.and_eq_true]at hb;have F7:e.on=k:=by simpa using hb.1
    exact hok.val k ok hkl hsk (by rw[<-F7]; exact hall e (Array.mem_toList_iff.1 he) hb.2)
   have hold:∀v,∀t,eP l t=true->(a.put o.dst v).tmps.getD t undef=a0.tmps.getD t undef:=fun v t ht=>by
    have hne:o.dst≠some t:=by have:=List.all_eq_true.1 ht o (List.mem_of_getElem? hol);simpa using this
    rw[aT hne]; exact hok.old t ht
   have hother:∀(v:Value)(j:Nat)(oj:Oper),l[j]? = some oj->j≠i->dC oj.dst (a.put o.dst v)=dC oj.dst a:=fun v j oj hoj hne=>by
    cases hjt:oj.dst with
    | none=>rfl
    | some t=>
      refine aT fun hd=>hne ?_
      exact((dB hf).2 i j o oj t hol hoj hd hjt).symm
   have DI:∀k,listed.getD k false=true->k≠i:=fun k hk e=>by
    subst e;have hil:k<listed.size:=by rw[hs]; exact(List.getElem?_eq_some_iff.1 hol).1
    simp only[Array.getD,hil,dif_pos]at hun hk;rw[hun]at hk; cases hk
   have hset:∀k,listed.getD k false=true->(listed.setIfInBounds i true).getD k false=true:=fun k hk=>by rw[getD_set_ne false (Ne.symm (DI k hk))]; exact hk
   have hdn:∀(j:Nat)(oj:Oper),l[j]? = some oj->(listed.setIfInBounds i true).getD j false=true->∀e ∈ oj.after,Region.binds .any e=true->(listed.setIfInBounds i true).getD e.on false=true:=fun j oj hoj hlj e he hbi=>by
    rcases aU hlj with rfl | hlj
    ·obtain rfl:o=oj:=by rw[hol]at hoj; exact zs hoj
     exact hset _ (hall e he hbi)
    ·exact hset _ (hok.dn j oj hoj hlj e he hbi)
   have hdv:∀(v:Value)(j:Nat)(oj:Oper),l[j]? = some oj->(listed.setIfInBounds i true).getD j false=true->FD l j (a.put o.dst v)=FD l j a:=fun v j oj hoj hlj=>by
    funext k;unfold FD;rw[hoj];cases hk:l[k]? with
    | none=>rfl
    | some ok=>
      simp only;by_cases Bl:(oj.after.toList.any fun e=>e.on == k && Region.binds .any e)=true
      ·rw[zj Bl,zj Bl];refine hother v k ok hk ?_;rw[List.any_eq_true]at Bl;obtain⟨e,he,hb⟩:=Bl;rw[Bool.and_eq_true]at hb;have F7:e.on=k:=by simpa using hb.1
       rw[<-F7];rcases aU hlj with rfl | hlj
       ·obtain rfl:o=oj:=by rw[hol]at hoj; exact zs hoj
        exact DI _ (hall e (Array.mem_toList_iff.1 he) hb.2)
       ·exact DI _ (hok.dn j oj hoj hlj e (Array.mem_toList_iff.1 he) hb.2)
      ·rw[zi Bl,zi Bl]
   unfold wpOp;simp only[ho];by_cases hsk:sk i=true
   ·rw[zj hsk]at h1;rw[zi (by rw[h1]; decide)];refine ih _ _ _ (by simpa using hs) (by have:=ed hs hun; omega) ⟨hok.c,by rw[put_defers]; exact hok.defers,by rw[iF]; exact hok.size,hold _,hdn,fun j oj hoj hsj hlj=>?_⟩;rw[hdv _ j oj hoj hlj];rcases aU hlj with rfl | hlj
    ·rw[hsk]at hsj; cases hsj
    ·have hne:j≠i:=fun e=>by subst e; rw[hsk]at hsj; cases hsj
     rw[hother _ j oj hoj hne];exact hok.val j oj hoj hsj hlj
   ·rw[zi hsk]at h1;rw[zj h1.1];refine .inl (Oper.wp_mono ?_ h1.2);rintro a' w' ⟨v,rfl,hb,hv⟩;refine ih _ _ _ (by simpa using hs) (by have:=ed hs hun; omega) ⟨hC _ _ hb hok.c,by rw[put_defers]; exact hok.defers,by rw[iF]; exact hok.size,hold _,hdn,fun j oj hoj hsj hlj=>?_⟩;rw[hdv _ j oj hoj hlj];by_cases hji:j=i
    ·subst hji;obtain rfl:o=oj:=by rw[hol]at hoj; exact zs hoj
     have hsv:dC o.dst (a.put o.dst v)=kept o.dst v:=by
      cases hd:o.dst with
      | none=>rfl
      | some t=>exact dY (by rw[hok.size]; exact hlt t hd)
     rw[hsv];exact hv
    ·rcases aU hlj with h | hlj
     ·exact(hji h).elim
     ·rw[hother _ j oj hoj hji];exact hV j _ _ w w' hb (hok.val j oj hoj hsj hlj)
theorem dw{id:Nat}{l:List Oper}{a0:Act}{w:World}(hm:P.follows .mixedOrders=true)(R:World->World->Prop)(C:World->Prop)(V:Nat->Value->(Nat->Value)->World->Prop)(sk:Nat->Bool)(hf:kT l a0.tmps.size=true)
 (hC:∀w w',R w w'->C w->C w')(hV:∀i v d w w',R w w'->V i v d w->V i v d w')(h0:C w.drew)
 (hstep:uU P Q R C V sk l a0 0 l)
 (hend:∀a w,C w->a.defers=a0.defers->a.tmps.size=a0.tmps.size->(∀t,eP l t=true->a.tmps.getD t undef=a0.tmps.getD t undef)->
  (∀(i:Nat)(o:Oper),l[i]? = some o->sk i=false->V i (dC o.dst a) (FD l i a) w)->Q .normal a w):(Code.region id l.toArray true).wp P Q a0 w:=by
 refine wp_region_any hm ?_;have hn:(Array.replicate l.toArray.size false).size=l.length:=by simp
 refine Qy hf hC hV hstep hend _ _ _ _ hn ?_ ⟨h0,rfl,rfl,fun t _=>rfl,fun i o ho hl=>?_,fun i o ho _ hl=>?_⟩
 ·have:=List.length_filter_le (fun i=>!(Array.replicate l.toArray.size false).getD i true) (List.range l.length);unfold left;simpa using this
 ·exfalso;have hi:=(List.getElem?_eq_some_iff.1 ho).1;simp[Array.getD,hi]at hl
 ·exfalso;have hi:=(List.getElem?_eq_some_iff.1 ho).1;simp[Array.getD,hi]at hl
end
section
variable {B:Nat} {t:TypeId} {cs0:List Value} {w W:World}
theorem G5:∀(vs pre:List Value)(cs:List Value),cs.length=vs.length->Kv (pre++cs) pre.length vs=pre++vs
 | [],pre,cs,h=>by have:cs = []:=List.length_eq_zero_iff.1 h;subst this; rfl
 | v :: r,pre,[],h=>by simp at h
 | v :: r,pre,c :: cs,h=>by
   have e:(pre++c :: cs).set pre.length v=(pre++[v])++cs:=by rw[List.set_append_right _ _ (zl _),Nat.sub_self]; simp
   rw[Kv,e,show pre.length+1=(pre++[v]).length by simp,G5 r (pre++[v]) cs (by simpa using h)];simp
theorem XZ{cs vs:List Value}(h:cs.length=vs.length):Kv cs 0 vs=vs:=G5 vs [] cs h
def nD(B:Nat)(t:TypeId)(cs0:List Value)(w W:World):Prop:=
 Below B w W/\(∀g,(∃cs:List Value,cs.length=cs0.length/\Bx w g t cs)->∃cs:List Value,cs.length=cs0.length/\Bx W g t cs)/\∀g,Bx w g t cs0->Bx W g t cs0
theorem nD.refl:nD B t cs0 w w:=⟨zB _ _,fun _=>id,fun _=>id⟩
theorem nD.call(hB:B<=w.heap.size)(hb:Below w.heap.size w W):nD B t cs0 w W:=
 ⟨hb.mono hB,fun _ ⟨cs,h1,h2⟩=>⟨cs,h1,h2.call hb⟩,fun _ h=>h.call hb⟩
theorem nD.alloc(hB:B<=w.heap.size)(o:Obj):nD B t cs0 w (w.alloc o):=nD.call hB ((zB _ _).alloc (zl _) o)
theorem Bx.full{g:Nat}{cs:List Value}(h:Bx w g t cs)(hl:cs.length=cs0.length):Bx (Go.Proofs.YtfnehkmhcmkhjaaGreat.bg w g 0 cs0) g t cs0:=by have:=h.bg cs0 0;rwa[XZ hl]at this
theorem Bx.setOther{g g':Nat}{t':TypeId}{cs vs:List Value}{o:Nat}(h:Bx w g' t' cs)(hne:g'≠g):Bx (Go.Proofs.YtfnehkmhcmkhjaaGreat.bg w g o vs) g' t' cs:=
 ((jl.bg vs o (jl.refl (some g) w)).2 g' h.lt (fun e=>hne (zs e))).trans h
theorem nD.store{g:Nat}(hg:B<=g)(ho:∃cs:List Value,cs.length=cs0.length/\Bx w g t cs):nD B t cs0 w (bg w g 0 cs0):=by
 obtain⟨cs,h1,h2⟩:=ho;refine⟨Below.bg hg cs0 0 (zB _ _),fun g' ⟨cs',h3,h4⟩=>?_,fun g' h=>?_⟩
 ·by_cases e:g'=g
  ·subst e; exact⟨_,rfl,h2.full h1⟩
  ·exact⟨_,h3,h4.setOther e⟩
 ·by_cases e:g'=g
  ·subst e; exact h2.full h1
  ·exact h.setOther e
end
end
namespace T7
open Go.RowKit xA
def es1(n:Nat):Nat:=if n % 2=1 then(n / 2) ^^^ 3623976961 else n / 2
def Zc:Nat->Nat->Nat
 | 0,n=>n
 | k+1,n=>es1 (Zc k n)
theorem aaF{n:Nat}(h:n<4294967296):es1 n<4294967296:=by
 unfold es1;split
 ·exact Nat.xor_lt_two_pow (n:=32) (by omega) (by omega)
 ·omega
theorem Ju{n:Nat}(h:n<4294967296):∀k,Zc k n<4294967296
 | 0=>h
 | k+1=>aaF (Ju h k)
def FN(b:Nat):Nat:=Zc 8 b
theorem Mc{b:Nat}(h:b<256):FN b<4294967296:=Ju (by omega) 8
def SK(c:Nat)(b:UInt8):Nat:=(c / 256) ^^^ FN ((c % 256) ^^^ b.toNat)
theorem Vw{a b:Nat}(ha:a<256)(hb:b<256):a ^^^ b<256:=Nat.xor_lt_two_pow (n:=8) (by omega) (by omega)
theorem WX{c:Nat}(h:c<4294967296)(b:UInt8):SK c b<4294967296:=
 Nat.xor_lt_two_pow (n:=32) (by omega) (Mc (Vw (by omega) b.toNat_lt))
def qy(c:Nat)(s:List UInt8):Nat:=s.foldl SK c
theorem Jp{c:Nat}(h:c<4294967296):∀s:List UInt8,qy c s<4294967296
 | []=>h
 | b :: s=>Jp (WX h b) s
theorem Sz(c:Nat)(s:List UInt8)(b:UInt8):qy c (s++[b])=SK (qy c s) b:=by simp[qy]
theorem SC(s:ByteArray)(k:Nat)(h:k<s.size):qy 0 (s.data.toList.take (k+1))=SK (qy 0 (s.data.toList.take k)) s[k]:=by rw[<-Sz,List.take_succ_eq_append_getElem (by simpa using h)]; rfl
theorem Wh{X:Nat}(h:X<4294967296):bits .and .u32 (X:Int) 1=((X % 2:Nat):Int):=by have e:=u32_and_nat X 1 h (by omega);rw[Nat.and_one_is_mod]at e;exact e
theorem zI(b:Nat)(w:World)(hb:b<256):Calls prog 392 #[.int .u8 b] w fun e w'=>e=.returned (.int .u32 (FN b:Nat))/\w=w':=by
 go_enter func392,ntmps392;go_wp2_with fail
 go_loop [3,6] (fun vn vk=>∃k:Nat,k<=8/\vn=.int .u32 (Zc k b:Nat)/\vk=.int .i64 k) (fun _ vk=>8 - (RowKit.intOf vk).toNat)
 case atStart=>exact⟨0,by omega,rfl,rfl⟩
 case round=>
  obtain⟨k,hk,rfl,rfl⟩:=hrel;by_cases hlt:k<8
  ·have hX:Zc k b<4294967296:=Ju (by omega) k;have HS:Hid (Zc (k+1) b=es1 (Zc k b)):=zH rfl;generalize Zc k b=X at hX HS ⊢;have hand:=Wh hX;have HU:Hid (es1 X=if X % 2=1 then(X / 2) ^^^ 3623976961 else X / 2):=zH rfl;by_cases h1:X % 2=1
   ·have HE:=zH h1; clear h1;have d1:(((X % 2:Nat):Int) == 1)=true:=by have:=HE.out; simp; omega
    have d2:(((X:Int) % 2) == 1)=true:=by have:=HE.out; simp; omega
    go_wp2_with fail;refine⟨⟨k+1,by omega,congrArg (Value.int .u32) ?_,rfl⟩,by simp[RowKit.intOf]; omega⟩;rw[HS.out,HU.out,zj HE.out];exact u32_xor_nat (X / 2) 3623976961 (by omega) (by omega)
   ·have HE:=zH h1; clear h1;have d1:(((X % 2:Nat):Int) == 1)=false:=by have:=HE.out; simp; omega
    have d2:(((X:Int) % 2) == 1)=false:=by have:=HE.out; simp; omega
    go_wp2_with fail;refine⟨⟨k+1,by omega,congrArg (Value.int .u32) ?_,rfl⟩,by simp[RowKit.intOf]; omega⟩;rw[HS.out,HU.out,zi HE.out];omega
  ·obtain rfl:k=8:=by omega
   go_wp2_with fail;go_ret;exact⟨rfl,rfl⟩
def mf:Array Value:=Array.replicate 256 (.int .u32 0)
def te:Nat->Array Value
 | 0=>mf
 | k+1=>(te k).setIfInBounds k (.int .u32 (FN k:Nat))
theorem kC:∀k,(te k).size=256
 | 0=>by simp[te,mf]
 | k+1=>by rw[te,Array.size_setIfInBounds,kC k]
theorem abJ(k i:Nat)(h:i<k)(hk:k<=256):(te k)[i]? = some (.int .u32 (FN i:Nat)):=by
 induction k generalizing i with
 | zero=>omega
 | succ k ih=>
   rw[te];by_cases e:i=k
   ·subst e;rw[Array.getElem?_setIfInBounds_self_of_lt (by rw[kC]; omega)]
   ·rw[Array.getElem?_setIfInBounds_ne (by omega)];exact ih i (by omega) (by omega)
theorem Yv(k i:Nat)(h:i<256):∃v,(te k)[i]? = some v:=by
 have:i<(te k).size:=by rw[kC]; exact h
 exact⟨_,Array.getElem?_eq_getElem this⟩
theorem KW(k:Nat):∀v ∈ (te k),v.oneCell'=true:=by
 induction k with
 | zero=>intro v hv; simp[te,mf]at hv; subst hv; rfl
 | succ k ih=>
   intro v hv;rcases Array.mem_or_eq_of_mem_setIfInBounds hv with h | h
   ·exact ih v h
   ·subst h; rfl
theorem Ag:∀w,(zeroValue 408).run prog w=.ok (.agg mf) w:=fun _=>by kernel_rfl
theorem Jv(w:World):
 Calls prog 391 #[.func (.func 392) #[] #[]] w fun e w'=>e=.returned (.agg (te 256))/\Below w.heap.size w w':=by
 have hz:=Ag;go_enter func391,ntmps391;go_wp2_with fail;have h0:((w.alloc (.cells mf 408)).alloc (.cells mf 408)).heap[w.heap.size]? = some (.cells (te 0) 408):=heap_alloc2_old _ _ _;have h1:((w.alloc (.cells mf 408)).alloc (.cells mf 408)).heap[w.heap.size+1]? = some (.cells (te 0) 408):=heap_alloc2_new _ _ _;have h2:Below w.heap.size w ((w.alloc (.cells mf 408)).alloc (.cells mf 408)):=((zB _ _).alloc (zl _) _).alloc (by simp) _;generalize (w.alloc (.cells mf 408)).alloc (.cells mf 408)=w1 at h0 h1 h2 ⊢;clear hz
 go_loopw [5] (fun vk wr=>∃k:Nat,k<=256/\vk=.int .i64 k/\wr.heap[w.heap.size]? = some (.cells mf 408)/\wr.heap[w.heap.size+1]? = some (.cells (te k) 408)/\Below w.heap.size w wr) (fun vk _=>256 - (RowKit.intOf vk).toNat)
 case atStart=>exact⟨0,by omega,rfl,h0,h1,h2⟩
 case round=>
  obtain⟨k,hk,rfl,g0,g1,g2⟩:=hrel;clear h0 h1 h2;by_cases hlt:k<256
  ·obtain⟨v,hv⟩:=Yv k k hlt;have hc:wr.cell? ⟨w.heap.size+1,k,none⟩=some v:=by rw[cell_of_row wr _ k _ _ _ g1]; exact hv
   have hf:=frozen_of_row wr _ k _ _ g1;clear hv;have G0:=zH g0; have G1:=zH g1; clear g0 g1;go_wp2_with fail;refine(zI k _ hlt).mono ?_;rintro e w' ⟨rfl,rfl⟩;go_wp2_with fail;go_roundw;case rel=>
    refine⟨k+1,by omega,by go_num,?_,?_,g2.setCell (by simp) _⟩
    ·rw[heap_setCell_other _ _ _ _ (by simp)]; exact G0.out
    ·exact heap_setCell_same _ _ _ _ _ _ G1.out
   case measure=>simp[RowKit.intOf]; omega
  ·obtain rfl:k=256:=by omega
   have G0:=zH g0; have G1:=zH g1; clear g0 g1;have hi:(prog.info? 408).map (·.size)=some (te 256).size:=by rw[kC]; kernel_rfl
   have h1:(te 256).all (·.oneCell')=true:=Array.all_eq_true_iff_forall_mem.2 (KW 256);go_wp2_with (first | (refine wpList_load_row rfl 408 _ rfl _ rfl 408 _ _ _ G1.out underlying408 rfl hi ?_) | (refine wpList_store_row rfl 408 _ _ rfl w.heap.size (te 256) rfl rfl 408 _ G0.out hi (by simp[mf,kC]) h1 ?_));exact zr (v:=.agg (te 256)) (results_cell_row rfl _ _ w.heap.size 408 (te 256) (0,0) _ rfl (setRow_heap _ _ _ _ _ _ G0.out) underlying408 rfl hi) rfl ⟨rfl,Below.setRow g2 (zl _) _⟩
theorem AB(w:World):
 Calls prog 358 #[] w fun e w'=>e=.returned (.agg (te 256))/\Below w.heap.size w w':=by
 have hz:=Ag;go_enter func358,ntmps358;go_wp2_with fail;refine(Jv _).mono ?_;rintro e w1 ⟨rfl,hb⟩;have hb1:=((zB w.heap.size w).alloc (zl _) (.cells mf 408)).trans (hb.mono (by simp));have g0:w1.heap[w.heap.size]? = some (.cells mf 408):=(hb.block w.heap.size (by simp)).trans (heap_alloc_new _ _);have G0:=zH g0; clear g0 hz;have hi:(prog.info? 408).map (·.size)=some (te 256).size:=by rw[kC]; kernel_rfl
 have h1:(te 256).all (·.oneCell')=true:=Array.all_eq_true_iff_forall_mem.2 (KW 256);go_wp2_with (refine wpList_store_row rfl 408 _ _ rfl w.heap.size (te 256) rfl rfl 408 _ G0.out hi (by simp[mf,kC]) h1 ?_);exact zr (v:=.agg (te 256)) (results_cell_row rfl _ _ w.heap.size 408 (te 256) (0,0) _ rfl (setRow_heap _ _ _ _ _ _ G0.out) underlying408 rfl hi) rfl ⟨rfl,Below.setRow hb1 (zl _) _⟩
theorem SE(s:ByteArray)(w:World)(hs:s.size<=1000000):Calls prog 294 #[.int .u32 0,.string s] w fun e w'=>e=.returned (.int .u32 (qy 0 s.data.toList:Nat))/\Below w.heap.size w w':=by
 have hz:=Ag;go_enter func294,ntmps294;go_wp2_with fail;refine(AB _).mono ?_;rintro e w1 ⟨rfl,hb⟩;have hi:(prog.info? 408).map (·.size)=some (te 256).size:=by rw[kC]; kernel_rfl
 have h1:(te 256).all (·.oneCell')=true:=Array.all_eq_true_iff_forall_mem.2 (KW 256);go_wp2_with (refine wpList_store_row rfl 408 _ _ rfl w1.heap.size (te 256) rfl rfl 408 _ (heap_alloc_new _ _) hi (by simp[mf,kC]) h1 ?_);have hT:((w1.alloc (.cells mf 408)).setRow w1.heap.size (te 256)).heap[w1.heap.size]? = some (.cells (te 256) 408):=setRow_heap _ _ _ _ _ _ (heap_alloc_new _ _);have hb2:Below w.heap.size w ((w1.alloc (.cells mf 408)).setRow w1.heap.size (te 256)):=Below.setRow (hb.alloc hb.size _) hb.size _;generalize (w1.alloc (.cells mf 408)).setRow w1.heap.size (te 256)=w2 at hT hb2 ⊢;obtain⟨g,hg⟩:∃g,g=w1.heap.size:=⟨_,rfl⟩;rw[<-hg]at hT;simp only[<-hg];clear hz h1 hi hb hg;have HT:=zH hT; clear hT
 go_loop [0,10] (fun vc vk=>∃k:Nat,k<=s.size/\vc=.int .u32 (qy 0 (s.data.toList.take k):Nat)/\vk=.int .i64 k) (fun _ vk=>s.size - (RowKit.intOf vk).toNat)
 case atStart=>exact⟨0,by omega,rfl,rfl⟩
 case round=>
  obtain⟨k,hk,rfl,rfl⟩:=hrel;have hX:qy 0 (s.data.toList.take k)<4294967296:=Jp (by omega) _;by_cases hlt:k<s.size
  ·have HS:=zH (SC s k hlt);generalize qy 0 (s.data.toList.take k)=X at hX HS ⊢;have HR:Hid (SK X s[k]=(X / 256) ^^^ FN ((X % 256) ^^^ s[k].toNat)):=zH rfl;have hcb:=s[k].toNat_lt;have hj:X % 256 ^^^ s[k].toNat<256:=Vw (by omega) hcb;have hbx:bits .xor .u8 ((X:Int) % 256) (s[k].toNat:Int)=((X % 256 ^^^ s[k].toNat:Nat):Int):=u8_xor_nat (X % 256) s[k].toNat (by omega) hcb;have hcell:w2.cell? ⟨g,X % 256 ^^^ s[k].toNat,none⟩=some (.int .u32 (FN (X % 256 ^^^ s[k].toNat):Nat)):=by rw[cell_of_row w2 _ _ _ _ _ HT.out]; exact abJ 256 _ hj (by omega)
   generalize X % 256 ^^^ s[k].toNat=j at hj hbx hcell HR;have HJ:=zH hj;go_wp2_with fail;refine⟨⟨k+1,by omega,congrArg (Value.int .u32) ?_,rfl⟩,by simp[RowKit.intOf]; omega⟩;rw[HS.out,HR.out];exact u32_xor_nat (X / 256) (FN j) (by omega) (Mc HJ.out)
  ·obtain rfl:k=s.size:=by omega
   have HF:Hid (qy 0 (s.data.toList.take s.size)=qy 0 s.data.toList):=zH (by rw[List.take_of_length_le (by simp)]);go_wp2_with fail;go_ret;exact⟨by rw[<-HF.out]; rfl,hb2⟩
theorem WU(s:ByteArray)(w:World)(hs:s.size<=1000000):Calls prog 227 #[.string s] w fun e w'=>e=.returned (.int .u32 (qy 0 s.data.toList:Nat))/\Below w.heap.size w w':=by go_enter func227,ntmps227;go_wp2_with fail;refine(SE s _ hs).mono ?_;rintro e w1 ⟨rfl,hb⟩;go_wp2_with fail;go_ret;exact⟨rfl,hb⟩
def jX(c:Nat):List UInt8:=[UInt8.ofNat (c % 256),UInt8.ofNat (c / 256 % 256),UInt8.ofNat (c / 65536 % 256),UInt8.ofNat (c / 16777216)]
theorem Su(c:Nat)(hc:c<4294967296)(w:World)(t:TypeId):(convert 65 9 (.slice (some ⟨w.heap.size,0,none⟩) 4 4)).run prog (w.alloc (.cells #[.int .u8 ((c:Int) % 256),.int .u8 ((c:Int) / 256 % 256),.int .u8 ((c:Int) / 65536 % 256),.int .u8 ((c:Int) / 16777216)] t))=.ok (.string (str (jX c))) (w.alloc (.cells #[.int .u8 ((c:Int) % 256),.int .u8 ((c:Int) / 256 % 256),.int .u8 ((c:Int) / 65536 % 256),.int .u8 ((c:Int) / 16777216)] t)):=by
 have h:=dV (dst:=9) underlying65 underlying5 underlying9 (Rd.lit w (jX c) t (by simp[jX]));have e:(bs (jX c)).toArray = #[.int .u8 ((c:Int) % 256),.int .u8 ((c:Int) / 256 % 256),.int .u8 ((c:Int) / 65536 % 256),.int .u8 ((c:Int) / 16777216)]:=by simp only[jX,bs,B,List.map_cons,List.map_nil,toNat_ofNat (show c % 256<256 by omega),toNat_ofNat (show c / 256 % 256<256 by omega),toNat_ofNat (show c / 65536 % 256<256 by omega),toNat_ofNat (show c / 16777216<256 by omega)];simp
 rw[e]at h;exact h
theorem Di(c:Nat)(w:World)(hc:c<4294967296):Calls prog 226 #[.int .u32 c] w fun e w'=>e=.returned (.string (str (jX c)))/\Below w.heap.size w w':=by have hst:=Su c hc w 5;go_enter func226,ntmps226;go_wp2_with fail;go_ret;exact⟨rfl,(zB _ _).alloc (zl _) _⟩
end T7
end Go.Proofs.YtfnehkmhcmkhjaaGreat
