/- Parts -/
import Derived.RangeFuncNested
import Derived.RangeFuncBox
import Derived.RangeFuncLeaves
import Derived.RangeFuncWrites
import Derived.RangeFuncCalls
import Derived.Test.YtfnehkmhcmkhjaaGreatDu06
import Derived.Lib.SmallJoins
import Derived.Deep.Cut
import Derived.Test.YtfnehkmhcmkhjaaGreatDu01
import Derived.WalkSpells
set_option maxRecDepth 100000
set_option maxHeartbeats 8000000
set_option linter.unusedVariables false
namespace Go.Proofs.YtfnehkmhcmkhjaaGreat
open Tryz
section
open Go Go.RowKit
section
variable {F:Fence} {n:Nat} {P:Program}
def Gives(F:Fence)(n:Nat)(P:Program)(gf:Nat)(lb:Array Value)(N:Nat)(G:Nat->Value->World->Prop)(w:World):Prop:=
 ∀(l:Nat)(J:Nat->World->Prop)(Jx:World->Prop)(W:World),Below w.heap.size w W->(∀k A A',J k A->Below A.heap.size A A'->J k A')->
   (∀k v A,k<N->J k A->G k v A->YieldAt F (n-1) P l #[v] A λe A'=>(e=.returned (.bool true)/\J (k+1) A'/\A.heap.size<=A'.heap.size)\/(e=.returned (.bool false)/\Jx A'))->
   J 0 W->CallsIn F n P gf (#[.func (.yield l) #[] #[]]++lb) W λe W'=>(∃v,e=.returned v)/\(J N W'\/Jx W')
theorem BQ(W:World)(l:Nat)(o:Obj):(W.putObj l o).heap.size=W.heap.size:=by simp[World.putObj]
def Fb(B:Nat)(I:Nat->World->Prop)(Ix:Code->World->Prop)(k:Nat)(W:World):Exit->Act->World->Prop
 |.normal,_,W'=>KeepsFrom B W W'/\I (k+1) W'
 |.ret,_,W'=>KeepsFrom B W W'/\Ix .ret W'
 |.exit id,_,W'=>KeepsFrom B W W'/\Ix (.exit id) W'
 |.goto t,_,W'=>KeepsFrom B W W'/\Ix (.goto t) W'
 |_,_,_=>False
def bD(B:Nat)(p:World->Prop):Prop:=OwnFrom B λ(_:Unit) W=>p W
theorem bD.grown{B:Nat}{p:World->Prop}(h:bD B p){W W':World}{row:Option Nat}(hp:p W)(hg:W.grownBy W' row)(hr:∀r,row=some r->B<=r/\∃o:Obj,W.heap[r]? = some o/\o.isCells=false):p W':=h () W W' row hp hg hr
theorem bD.below{B:Nat}{p:World->Prop}(h:bD B p){W W':World}(hp:p W)(hb:Below W.heap.size W W'):p W':=
 h.grown hp (row:=none) ⟨hb.os,hb.tape,hb.output,hb.size,λk hk _=>hb.block k hk⟩ (λr e=>by cases e)
theorem bD.putObj{B l:Nat}{p:World->Prop}(h:bD B p){W:World}{o:Obj}(o':Obj)(hp:p W)(hB:B<=l)(hl:W.heap[l]? = some o)(ho:o.isCells=false):p (W.putObj l o'):=OwnFrom.putObj (s:=()) h o' hp hB hl ho
theorem bD.and{B:Nat}{p q:World->Prop}(h:bD B p)(h':bD B q):bD B λW=>p W/\q W:=OwnFrom.and h h'
theorem bD.const(B:Nat)(p:Prop):bD B λ_=>p:=λ_ _ _ _ h _ _=>h
theorem oZ{g:Operand}{ps:Array Tmp}{assign body:Code}{Q:Exit->Act->World->Prop}{a:Act}{w:World}
 (hro:F.round=none)(h1:1<=n){gf:Nat}{lb:Array Value}(hg:a.eval g=.func (.func gf) #[] lb)(hFg:F.fn gf)(eg:∀args w,(callFunc gf args).run P w=.ok (.enter gf args) w)
 {N:Nat}{G:Nat->Value->World->Prop}{E:Prop}(hseq:∀(l:Nat)(J:Nat->World->Prop)(Jx:World->Prop)(W:World),Below w.heap.size w W->(¬ E->∀A,¬ J N A)->(∀k A A',J k A->Below A.heap.size A A'->J k A')->
 (∀k v A,k<N->J k A->G k v A->YieldAt F (n-1-1) P l #[v] A λe A'=>(e=.returned (.bool true)/\J (k+1) A'/\A.heap.size<=A'.heap.size)\/(e=.returned (.bool false)/\Jx A'))->
 J 0 W->CallsIn F (n-1) P gf (#[.func (.yield l) #[] #[]]++lb) W λe W'=>(∃v,e=.returned v)/\(J N W'\/Jx W'))(hps:ps.size=1)
 (I:Nat->World->Prop)(Ix:Code->World->Prop)(A:Nat->Value->Act->World->Prop)
 (hI:∀k,bD w.heap.size (I k))(hIx:∀c,bD w.heap.size (Ix c))(hA:∀k v a',bD w.heap.size (A k v a'))(h0:I 0 w)(hN:¬ E->∀W,¬ I N W)
 (hassign:∀(l k:Nat)(v:Value)(W:World)(K:Act->World->Prop),k<N->I k W->G k v W->(∀a' W',KeepsFrom w.heap.size W W'->I k W'->A k v a' W'->K a' W')->
  assign.wpIn (F.inRound l) (n-1-1) P (Exit.then K (λ_ _ _=>False)) {tmps:=(ps.zip #[v]).foldl (λt (p,v)=>t.setIfInBounds p v) a.tmps,defers:=[]} W)
 (hbody:∀(l k:Nat)(v:Value)(a':Act)(W:World),w.heap.size<=l->(∃r,W.heap[l]? = some (.loop r))->k<N->I k W->A k v a' W->body.wpIn (F.inRound l) (n-1-1) P (Fb w.heap.size I Ix k W) a' W)
 (hdone:∀(D:Nat)(W:World),w.heap.size<=D->I N W->W.heap[D]? = some (.deferred (some []))->Q .normal {a with defers:={target:=.collected D,args:=#[]}::a.defers} W)
 (hstop:∀(D:Nat)(c:Code)(W:World),w.heap.size<=D->Ix c W->W.heap[D]? = some (.deferred (some []))->c.wpIn F n P Q {a with defers:={target:=.collected D,args:=#[]}::a.defers} W):
 (Code.rangeFunc g ps assign body).wpIn F n P Q a w:=by
 refine wpIn_rangeFunc λfn hfn=>?_
 rw[hro];obtain⟨B,hB⟩:∃B,B=w.heap.size:=⟨_,rfl⟩;obtain⟨rec,hrec⟩:∃rec:LoopState->Option Code->Loop,rec=λst pe=>{state:=st,pending:=pe,fn,tmps:=a.tmps,params:=ps,assign,body,defers:=w.heap.size }:=⟨_,rfl⟩
 have hs1:∀st pe,(rec st pe).state=st:=λ_ _=>by rw[hrec]
 have hs2:∀st pe,(rec st pe).pending=pe:=λ_ _=>by rw[hrec]
 have hs3:∀st pe st' pe',{rec st pe with state:=st',pending:=pe' } = rec st' pe':=λ_ _ _ _=>by rw[hrec]
 have hs4:∀st pe st',{rec st pe with state:=st' } = rec st' pe:=λ_ _ _=>by rw[hrec]
 obtain⟨W1,hW1⟩:∃W1,W1=(w.alloc (.deferred (some []))).alloc (.loop (rec .ready none)):=⟨_,rfl⟩;have hbw:Below w.heap.size w W1:=by rw[hW1];exact((zB _ w).alloc (zl _) _).alloc (by simp) _
 have hL1:W1.heap[B+1]? = some (.loop (rec .ready none)):=by have:=World.alloc_heap_new (w.alloc (.deferred (some []))) (.loop (rec .ready none));rw[Yl]at this;rw[hW1,hB];exact this
 have hD1:W1.heap[B]? = some (.deferred (some [])):=by rw[hW1,hB];exact(Below.heap_alloc _ _ _ (by simp)).trans (World.alloc_heap_new w _)
 have hput:∀(r:Loop)(W:World),B+1<W.heap.size->(W.putObj (B+1) (.loop r)).heap[B+1]? = some (.loop r)/\(∀k,k≠B+1->(W.putObj (B+1) (.loop r)).heap[k]? = W.heap[k]?):=
  λr W h=>⟨World.putObj_heap_same h,λk hk=>World.putObj_heap_other hk⟩
 refine⟨B+1,[{target:=.collected B,args:=#[]}],W1,{target:=.fn (.func gf) lb,args:=#[.func (.yield (B+1)) #[] #[]]},W1,gf,#[.func (.yield (B+1)) #[] #[]]++lb,W1,?_,?_,?_,?_,λ_=>h1,?_⟩
 ·rw[hW1,hrec,hB];exact run_enterLoop_outer _ _ _ _ _
 ·simp only[resolve,hg];simp[go_sem]
 ·intro f' hf';simp[Target.leads]at hf';exact hf' ▸ hFg
 ·simp[invoke,go_sem,eg]
 ·refine(hseq (B+1) (λk W=>I k W/\W.heap[B+1]? = some (.loop (rec .ready none))/\W.heap[B]? = some (.deferred (some [])))
   (λW=>∃c,Ix c W/\W.heap[B+1]? = some (.loop (rec .done (some c)))/\W.heap[B]? = some (.deferred (some []))) W1 hbw (λhE A h=>hN hE A h.1) ?_ ?_ ⟨(hI 0).below h0 hbw,hL1,hD1⟩).mono ?_
  ·rintro k X Y ⟨hi,hl,hd⟩ hb;exact⟨(hI k).below hi hb,(hb.block _ (Yd.1 hl).1).trans hl,(hb.block _ (Yd.1 hd).1).trans hd⟩
  ·rintro k v W hk ⟨hi,hl,hd⟩ hgv;have hy:=run_yield (P:=P) (args:=#[v]) hl (by rw[hrec];exact hps.symm);rw[hrec]at hy;refine⟨fn,_,assign,body,hy,roundIn_of_wpIn hfn (hassign _ k v W _ hk hi hgv ?_)⟩;intro a' Wa hka hia hax;have hla:=hka.same _ _ (by omega) hl rfl;have hda:=hka.same _ _ (by omega) hd rfl;have hlt:=(Yd.1 hla).1;refine⟨_,run_beginRound hla (hs1 _ _),?_⟩;rw[hs4];obtain⟨p1,p2⟩:=hput (rec .busy none) Wa hlt;refine wpIn_mono (hbody _ k v a' _ (by omega) ⟨_,p1⟩ hk ((hI k).putObj _ hia (by omega) hla rfl) ((hA k v a').putObj _ hax (by omega) hla rfl)) ?_;have fin:∀(jump:Option Code)(W3:World),KeepsFrom w.heap.size (Wa.putObj (B+1) (.loop (rec .busy none))) W3->
    (Instr.endRound (B+1) jump).run P W3=.ok (.bool jump.isNone) (W3.putObj (B+1) (.loop (rec (if jump.isNone then .ready else .done) jump)))/\W3.heap[B+1]? = some (.loop (rec .busy none))/\
    (W3.putObj (B+1) (.loop (rec (if jump.isNone then .ready else .done) jump))).heap[B+1]? = some (.loop (rec (if jump.isNone then .ready else .done) jump))/\
    (W3.putObj (B+1) (.loop (rec (if jump.isNone then .ready else .done) jump))).heap[B]? = some (.deferred (some [])):=λjump W3 hk3=>by
    have hl3:=hk3.same _ _ (by omega) p1 rfl;have hd3:=hk3.same _ _ (by omega) ((p2 B (by omega)).trans hda) rfl;have hr:=run_endRound (P:=P) jump hl3;rw[hs3]at hr;obtain⟨q1,q2⟩:=hput (rec (if jump.isNone then .ready else .done) jump) W3 (Yd.1 hl3).1;exact⟨hr,hl3,q1,(q2 B (by omega)).trans hd3⟩
   have jmp:∀(c:Code)(W3:World),KeepsFrom w.heap.size (Wa.putObj (B+1) (.loop (rec .busy none))) W3->Ix c W3->∃v w',(Instr.endRound (B+1) (some c)).run P W3=.ok v w'/\
    ((Ending.returned v=.returned (.bool true)/\(I (k+1) w'/\w'.heap[B+1]? = some (.loop (rec .ready none))/\w'.heap[B]? = some (.deferred (some [])))/\W.heap.size<=w'.heap.size)\/
      (Ending.returned v=.returned (.bool false)/\∃c,Ix c w'/\w'.heap[B+1]? = some (.loop (rec .done (some c)))/\w'.heap[B]? = some (.deferred (some [])))):=λc W3 hk3 hx=>by
    obtain⟨hr,hl3,hl4,hd4⟩:=fin (some c) W3 hk3;exact⟨_,_,hr,.inr ⟨rfl,c,(hIx c).putObj _ hx (by omega) hl3 rfl,hl4,hd4⟩⟩
   intro e a3 W3 hp;cases e with
   | normal=>
     obtain⟨hr,hl3,hl4,hd4⟩:=fin none W3 hp.1;have z1:=hka.size;have z2:=hp.1.size;rw[BQ]at z2;exact⟨_,_,hr,.inl ⟨rfl,⟨(hI (k+1)).putObj _ hp.2 (by omega) hl3 rfl,hl4,hd4⟩,by rw[BQ];omega⟩⟩
   |ret=>exact jmp _ W3 hp.1 hp.2
   |exit id=>exact jmp _ W3 hp.1 hp.2
   |goto t=>exact jmp _ W3 hp.1 hp.2
   |panic ch=>exact hp.elim
   |outgrown=>exact hp.elim
  ·rintro e W2 ⟨⟨v,rfl⟩,(⟨hi,hl,hd⟩|⟨c,hx,hl,hd⟩)⟩
   ·have hr:=run_endLoop (P:=P) hl (by rw[hs1];simp);rw[hs2]at hr;refine⟨none,_,hr,?_⟩;rw[hB]at hd hl ⊢;exact hdone _ _ (zl _) ((hI N).putObj _ hi (by omega) hl rfl) ((World.putObj_heap_other (by omega)).trans hd)
   ·have hr:=run_endLoop (P:=P) hl (by rw[hs1];simp);rw[hs2]at hr;refine⟨some c,_,hr,?_⟩;rw[hB]at hd hl ⊢;exact hstop _ c _ (zl _) ((hIx c).putObj _ hx (by omega) hl rfl) ((World.putObj_heap_other (by omega)).trans hd)
theorem qM{g:Operand}{ps:Array Tmp}{assign body:Code}{Q:Exit->Act->World->Prop}{a:Act}{w:World}
 (hro:F.round=none)(h1:1<=n){gf:Nat}{lb:Array Value}(hg:a.eval g=.func (.func gf) #[] lb)(hFg:F.fn gf)(eg:∀args w,(callFunc gf args).run P w=.ok (.enter gf args) w)
 {N:Nat}{G:Nat->Value->World->Prop}(hseq:Gives F (n-1) P gf lb N G w)(hps:ps.size=1)
 (I:Nat->World->Prop)(Ix:Code->World->Prop)(A:Nat->Value->Act->World->Prop)
 (hI:∀k,bD w.heap.size (I k))(hIx:∀c,bD w.heap.size (Ix c))(hA:∀k v a',bD w.heap.size (A k v a'))(h0:I 0 w)
 (hassign:∀(l k:Nat)(v:Value)(W:World)(K:Act->World->Prop),k<N->I k W->G k v W->(∀a' W',KeepsFrom w.heap.size W W'->I k W'->A k v a' W'->K a' W')->
  assign.wpIn (F.inRound l) (n-1-1) P (Exit.then K (λ_ _ _=>False)) {tmps:=(ps.zip #[v]).foldl (λt (p,v)=>t.setIfInBounds p v) a.tmps,defers:=[]} W)
 (hbody:∀(l k:Nat)(v:Value)(a':Act)(W:World),w.heap.size<=l->(∃r,W.heap[l]? = some (.loop r))->k<N->I k W->A k v a' W->body.wpIn (F.inRound l) (n-1-1) P (Fb w.heap.size I Ix k W) a' W)
 (hdone:∀(D:Nat)(W:World),w.heap.size<=D->I N W->W.heap[D]? = some (.deferred (some []))->Q .normal {a with defers:={target:=.collected D,args:=#[]}::a.defers} W)
 (hstop:∀(D:Nat)(c:Code)(W:World),w.heap.size<=D->Ix c W->W.heap[D]? = some (.deferred (some []))->c.wpIn F n P Q {a with defers:={target:=.collected D,args:=#[]}::a.defers} W):
 (Code.rangeFunc g ps assign body).wpIn F n P Q a w:=
 oZ hro h1 hg hFg eg (λl J Jx W hb (_:¬ True->_)=>hseq l J Jx W hb) hps I Ix A hI hIx hA h0 (λh=>(h trivial).elim) hassign hbody hdone hstop
theorem oW{g:Operand}{ps:Array Tmp}{assign body:Code}{Q:Exit->Act->World->Prop}{a:Act}{w:World}
 (hro:F.round=none)(h1:1<=n){gf:Nat}{lb:Array Value}(hg:a.eval g=.func (.func gf) #[] lb)(hFg:F.fn gf)(eg:∀args w,(callFunc gf args).run P w=.ok (.enter gf args) w)
 {N:Nat}{G:Nat->Value->World->Prop}(hseq:Gives F (n-1) P gf lb N G w)(hps:ps.size=1)
 (I:Nat->World->Prop)(Ix:Code->World->Prop)(a₁:Value->Act)
 (hI:∀k,bD w.heap.size (I k))(hIx:∀c,bD w.heap.size (Ix c))(hG:∀k v,bD w.heap.size (G k v))(h0:I 0 w)
 (hassign:∀(l:Nat)(v:Value)(W:World)(K:Act->World->Prop),(∃k,G k v W)->K (a₁ v) W->
  assign.wpIn (F.inRound l) (n-1-1) P (Exit.then K (λ_ _ _=>False)) {tmps:=(ps.zip #[v]).foldl (λt (p,v)=>t.setIfInBounds p v) a.tmps,defers:=[]} W)
 (hbody:∀(l k:Nat)(v:Value)(W:World),k<N->I k W->G k v W->body.wpIn (F.inRound l) (n-1-1) P (Fb w.heap.size I Ix k W) (a₁ v) W)
 (hdone:∀(D:Nat)(W:World),w.heap.size<=D->I N W->W.heap[D]? = some (.deferred (some []))->Q .normal {a with defers:={target:=.collected D,args:=#[]}::a.defers} W)
 (hstop:∀(D:Nat)(c:Code)(W:World),w.heap.size<=D->Ix c W->W.heap[D]? = some (.deferred (some []))->c.wpIn F n P Q {a with defers:={target:=.collected D,args:=#[]}::a.defers} W):
 (Code.rangeFunc g ps assign body).wpIn F n P Q a w:=
 qM hro h1 hg hFg eg hseq hps I Ix (λk v a' W=>a'=a₁ v/\G k v W) hI hIx (λk v a'=>(bD.const _ (a'=a₁ v)).and (hG k v)) h0
  (λl k v W K _ hi hgv hK=>hassign l v W K ⟨k,hgv⟩ (hK _ _ (KeepsFrom.refl _ _) hi ⟨rfl,hgv⟩))
  (λl k v a' W _ _ hk hi ⟨e,hgv⟩=>by subst e;exact hbody l k v W hk hi hgv) hdone hstop
end
end
section
open Go.RowKit
def cZ(G:Nat->Value):List Nat->Act->Act
 | [],a=>a
 |t::r,a=>cZ G r ⟨a.tmps.setIfInBounds t (G t),a.defers⟩
theorem BK(G:Nat->Value):∀(ds:List Nat)(a:Act),(cZ G ds a).tmps.size=a.tmps.size
 | [],a=>rfl
 |t::r,a=>(BK G r _).trans (by simp)
theorem vU(G:Nat->Value):∀(ds:List Nat)(a:Act),(cZ G ds a).defers=a.defers
 | [],a=>rfl
 |t::r,a=>vU G r _
theorem JF(G:Nat->Value):∀(ds:List Nat)(a:Act)(i:Nat),i<a.tmps.size->(cZ G ds a).tmps.getD i undef=if i∈ds then G i else a.tmps.getD i undef
 | [],a,i,h=>by simp[cZ]
 | t :: r,a,i,h=>by
   unfold cZ;rw[JF G r _ i (by simpa using h)];by_cases h1:i∈r
   ·simp[h1]
   ·by_cases h2:i=t
    ·subst h2;simp[h1,h,Array.getD]
    ·have h3:t≠i:=λe=>h2 e.symm
     simp[h1,h2,h3,h,Array.getD]
theorem dK{l:List Oper}{a a0:Act}(ds:List Nat)(hds:(l.all λo=>match o.dst with|some t=>ds.contains t|none=>true)=true)(hd:a.defers=a0.defers)(hs:a.tmps.size=a0.tmps.size)(hold:∀t,gp l t=true->a.tmps.getD t undef=a0.tmps.getD t undef):
 ∃G:Nat->Value,(∀t,a.tmps.getD t undef=G t)/\a=cZ G ds a0:=by
 obtain⟨G,hG⟩:∃G:Nat->Value,G=λt=>a.tmps.getD t undef:=⟨_,rfl⟩
 have hg:∀t,a.tmps.getD t undef=G t:=λt=>by rw[hG]
 refine⟨G,hg,?_⟩;have key:∀(T:Array Value)(i:Nat)(h:i<T.size),T[i]=T.getD i undef:=λT i h=>by simp[Array.getD,h]
 have ht:a.tmps=(cZ G ds a0).tmps:=by
  apply Array.ext
  ·rw[BK];exact hs
  ·intro i h1 h2;rw[key _ _ h1,key _ _ h2,JF _ _ _ _ (by rw[<-hs];exact h1)];by_cases hn:i∈ds
   ·rw[zj hn];exact hg i
   ·rw[zi hn];refine hold i ?_;unfold gp;rw[Xa]at hds ⊢;intro o ho;have:=hds o ho;cases e:o.dst with
    |none=>simp
    | some t=>
      rw[e]at this;have h3:t∈ds:=by simpa using this
      simp only[XV,ne_eq,YA];exact λe4=>hn (e4 ▸ h3)
 have hdd:a.defers=(cZ G ds a0).defers:=by rw[vU];exact hd
 obtain⟨tm,df⟩:=a;generalize cZ G ds a0=b at *;obtain⟨tb,db⟩:=b;simp only at ht hdd;rw[ht,hdd]
end
section
open Go.ChangeShapes Go.WideShapes Go.RowKit Go.Deep
def In64(a:Int):Prop:=-9223372036854775808<=a/\a<=9223372036854775807
theorem agJ{a:Int}(h:(Lit.int .i64 a).wf=true):In64 a:=by simpa[Lit.wf,IntKind.min,IntKind.max,IntKind.signed,IntKind.bits,In64]using h
section
variable {H:Type} {enc:TypeId×Value->H} {P:Program} {w:World} {base b0:Nat} {sp:Nat->Bool} {held:Bool}
theorem Qg{t:TypeId}{n:Nat}{cs:List Value}{y:Option (DataW H×List MemPlace)}(ht:P.underlying t=some (.int .i64))(h:DataW.trod enc P w base sp held n t cs=y)(hy:y≠none):∃a,cs = [.int .i64 a]/\In64 a:=by
 cases y with
 |none=>exact(hy rfl).elim
 | some y=>
   obtain⟨a,h1,_,h2⟩:=DataW.trod_int ht h;exact⟨a,h1,agJ h2⟩
theorem Y8{α:Type}{xs:List α}{n i:Nat}(h:xs.length=n)(hi:i<n):xs[i]?≠none:=by rw[Ye (by omega)];simp
theorem Qw{α:Type}(d:α)(D:α->List Value)(Q:α->Prop){t e:TypeId}{sz:Nat}(ht:P.underlying t=some (.slice e))(hC:P.cellsOf e=sz)(hs:0<sz)
 (hE:∀n cs x,DataW.trod enc P w base sp held n e cs=some x->∃a:α,cs=D a/\Q a){n:Nat}{v:Value}{x:DataW H×List MemPlace}(hd:DataW.trod enc P w base sp held n t [v]=some x):
 ∃l:List α,dU w sz v l.length (λi=>D ((l[i]?).getD d))/\l.length<=9223372036854775807/\∀i,i<l.length->Q ((l[i]?).getD d):=by
 rcases open_slice ht hd with ⟨hcs,_⟩|⟨a,len,cap,m,n',Dd,Pl,hcs,hb,hl,hm,hmm,hx,hi⟩
 ·simp only[List.cons.injEq,and_true]at hcs;subst hcs;exact⟨[],dU.nil _ _ _,by simp,λi hi=>by simp at hi⟩
 ·simp only[List.cons.injEq,and_true]at hcs;subst hcs;rw[hC]at hi;by_cases h0:len=0
  ·subst h0;exact⟨[],dU.empty _ _ _ _ _,by simp,λi hi=>by simp at hi⟩
  obtain⟨ab,ao,asp⟩:=a;have hle:len<=m:=by rw[hmm];split <;> omega
  obtain rfl:asp=none:=by
   obtain⟨cs',h1,h2⟩:=hi 0 (by omega);obtain⟨_,hL,hc⟩:=World.cells?_some h1;have e:=hc 0 hs;rw[Ye (by omega),Nat.zero_mul]at e;cases asp with
   |none=>rfl
   |some s=>unfold World.cell? at e;split at e <;> simp[Addr.add]at e
  have key:∀i,∃z:α,i<len->Q z/\w.rangeAt ab (ao+i*sz) (D z):=λi=>by
   by_cases h:i<len
   ·obtain⟨cs',h1,h2⟩:=hi i (by omega);obtain⟨z,rfl,hq⟩:=hE _ _ _ h2;obtain⟨_,hL,hc⟩:=World.cells?_some h1;refine⟨z,λ_=>⟨hq,λj u hu=>?_⟩⟩;have hj:j<sz:=by have:=(Yr.1 hu).1;omega
    have e:=hc j hj;rw[hu,XF,XF]at e;exact e
   ·exact⟨d,λh'=>absurd h' h⟩
  obtain⟨f,hf⟩:∃f:Nat->α,∀i,i<len->Q (f i)/\w.rangeAt ab (ao+i*sz) (D (f i)):=⟨λi=>Classical.choose (key i),λi=>Classical.choose_spec (key i)⟩;have hL:((List.range len).map f).length=len:=by simp
  have hG:∀i,i<len->(((List.range len).map f)[i]?).getD d=f i:=λi h=>by simp[h]
  refine⟨(List.range len).map f,⟨some ⟨ab,ao,none⟩,cap,ab,ao,by rw[hL],by rw[hL];exact hl,λi h=>?_⟩,by rw[hL];unfold maxLen at hm;omega,λi h=>?_⟩
  ·rw[hL]at h;simp only[hG i h];exact⟨trivial,(hf i h).2⟩
  ·rw[hL]at h;rw[hG i h];exact(hf i h).1
end
end
namespace Ih
open Go.RowKit
def RB(b:Bool)(w:World)(e:Ending)(w':World):Prop:=e=.returned (.bool b)/\Below w.heap.size w w'
def kK(x:T.ax):List Value:=[.int .i64 x.num,.int .i64 x.dm,.int .i64 x.st,.int .i64 x.len,.int .i64 x.nx,.int .i64 x.dZ,.int .i64 x.pk]
theorem eH(x:T.ax):(kK x).length=7:=rfl
theorem Zc(x:T.ax):∀u∈kK x,u.oneCell'=true:=by intro u hu;simp only[kK,XW,List.not_mem_nil,or_false]at hu;rcases hu with rfl|rfl|rfl|rfl|rfl|rfl|rfl <;> rfl
def bQ(w:World)(v:Value)(l:List T.ax):Prop:=dB T.z kK 7 w v l
theorem bQ.keep{w w':World}{v:Value}{l:List T.ax}(h:bQ w v l)(hb:Below w.heap.size w w'):bQ w' v l:=dU.keep h hb
theorem bQ.cells{w:World}{a:Option Addr}{n c:Nat}{l:List T.ax}(h:bQ w (.slice a n c) l):∃b off,∀i,i<l.length->a=some ⟨b,off,none⟩/\w.rangeAt b (off+i*7) (kK (T.tr l i)):=dB.at h
theorem Oh{w:World}{b o:Nat}{x:T.ax}(h:w.rangeAt b o (kK x)):
 w.cell? ⟨b,o,none⟩=some (.int .i64 x.num)/\w.cell? ⟨b,o+1,none⟩=some (.int .i64 x.dm)/\w.cell? ⟨b,o+2,none⟩=some (.int .i64 x.st)/\w.cell? ⟨b,o+3,none⟩=some (.int .i64 x.len)/\
 w.cell? ⟨b,o+4,none⟩=some (.int .i64 x.nx)/\w.cell? ⟨b,o+5,none⟩=some (.int .i64 x.dZ)/\w.cell? ⟨b,o+6,none⟩=some (.int .i64 x.pk):=
 ⟨h 0 _ rfl,h 1 _ rfl,h 2 _ rfl,h 3 _ rfl,h 4 _ rfl,h 5 _ rfl,h 6 _ rfl⟩
theorem sizeTrack:(prog.info? 94).map (·.size)=some 7:=by kernel_rfl
def btw(n a b:Int):Bool:=decide (a<=n/\n<=b)
theorem aiA{x y:Int}(a b:Nat)(hx:x=a)(hy:y=b)(ha:a<65536)(hb:b<65536):bits .xor .u16 x y=((a^^^b:Nat):Int):=by subst hx;subst hy;exact u16_xor_nat a b ha hb
theorem afg(n:Int):IntKind.u16.wrap n=n%65536:=by simp[IntKind.wrap,IntKind.bits,IntKind.signed]
theorem akn{X:Nat}(h:X<65536):C.st1 X=if X/32768=1 then(X*2%65536)^^^4129 else X*2:=by
 unfold C.st1;by_cases h1:X/32768=1
 ·rw[zj h1,zj h1,show X%32768*2=X*2%65536 by omega]
 ·rw[zi h1,zi h1,show X%32768*2=X*2 by omega]
theorem Pg(b:Nat)(w:World)(hb:b<256):Calls prog 341 #[.int .u8 b] w λe w'=>e=.returned (.int .u16 (C.tab b:Nat))/\w=w':=by
 go_enter func341,ntmps341;go_wp2_with fail
 go_loop [3,7] (λvn vk=>∃k:Nat,k<=8/\vn=.int .u16 (C.AY k (b*256):Nat)/\vk=.int .i64 k) (λ_ vk=>8-(RowKit.intOf vk).toNat)
 case atStart=>
  refine⟨0,by omega,Yp (Value.int .u16) ?_,rfl⟩;show(b:Int)*256=((b*256:Nat):Int);omega
 case round=>
  obtain⟨k,hk,rfl,rfl⟩:=hrel;by_cases hlt:k<8
  ·have hX:C.AY k (b*256)<65536:=C.NF (by omega) k;have HS:Hid (C.AY (k+1) (b*256)=C.st1 (C.AY k (b*256))):=zH rfl;generalize C.AY k (b*256)=X at hX HS ⊢;have Hst:=zH (akn hX);by_cases h1:X/32768=1
   ·have HE:=zH h1;clear h1;have d1:(((X:Int)/32768) == 1)=true:=by have:=HE.out;simp;omega
    go_wp2_with fail;refine⟨⟨k+1,by omega,Yp (Value.int .u16) ?_,rfl⟩,by simp[RowKit.intOf];omega⟩;rw[HS.out,Hst.out,zj HE.out];exact aiA (X*2%65536) 4129 (by rw[afg];omega) rfl (by omega) (by omega)
   ·have HE:=zH h1;clear h1;have d1:(((X:Int)/32768) == 1)=false:=by have:=HE.out;simp;omega
    have hlo:X<32768:=by have:=HE.out;omega
    go_wp2_with fail;refine⟨⟨k+1,by omega,Yp (Value.int .u16) ?_,rfl⟩,by simp[RowKit.intOf];omega⟩;rw[HS.out,Hst.out,zi HE.out];omega
  ·obtain rfl:k=8:=by omega
   go_wp2_with fail;go_ret;exact⟨rfl,rfl⟩
def pO:Array Value:=Array.replicate 256 (.int .u16 0)
def tw:Nat->Array Value
 |0=>pO
 |k+1=>(tw k).setIfInBounds k (.int .u16 (C.tab k:Nat))
theorem mW:∀k,(tw k).size=256
 |0=>by simp[tw,pO]
 |k+1=>by rw[tw,Array.size_setIfInBounds,mW k]
theorem aku(k i:Nat)(h:i<k)(hk:k<=256):(tw k)[i]? = some (.int .u16 (C.tab i:Nat)):=by
 induction k generalizing i with
 |zero=>omega
 | succ k ih=>
   rw[tw];by_cases e:i=k
   ·subst e;rw[Array.getElem?_setIfInBounds_self_of_lt (by rw[mW];omega)]
   ·rw[Vj (by omega)];exact ih i (by omega) (by omega)
theorem ahW(k i:Nat)(h:i<256):∃v,(tw k)[i]? = some v:=by
 have:i<(tw k).size:=by rw[mW];exact h
 exact⟨_,XK this⟩
theorem Vt(k:Nat):∀v∈(tw k),v.oneCell'=true:=by
 induction k with
 |zero=>intro v hv;simp[tw,pO]at hv;subst hv;rfl
 | succ k ih=>
   intro v hv;rcases Array.mem_or_eq_of_mem_setIfInBounds hv with h|h
   ·exact ih v h
   ·subst h;rfl
theorem GX:∀w,(zeroValue 350).run prog w=.ok (.agg pO) w:=λ_=>by kernel_rfl
theorem table_any(w:World):
 Calls prog 340 #[.func (.func 341) #[] #[]] w λe w'=>e=.returned (.agg (tw 256))/\Below w.heap.size w w':=by
 have hz:=GX;go_enter func340,ntmps340;go_wp2_with fail;have h0:((w.alloc (.cells pO 350)).alloc (.cells pO 350)).heap[w.heap.size]? = some (.cells (tw 0) 350):=heap_alloc2_old _ _ _;have h1:((w.alloc (.cells pO 350)).alloc (.cells pO 350)).heap[w.heap.size+1]? = some (.cells (tw 0) 350):=heap_alloc2_new _ _ _;have h2:Below w.heap.size w ((w.alloc (.cells pO 350)).alloc (.cells pO 350)):=((zB _ _).alloc (zl _) _).alloc (by simp) _;generalize (w.alloc (.cells pO 350)).alloc (.cells pO 350)=w1 at h0 h1 h2 ⊢;clear hz
 go_loopw [5] (λvk wr=>∃k:Nat,k<=256/\vk=.int .i64 k/\wr.heap[w.heap.size]? = some (.cells pO 350)/\wr.heap[w.heap.size+1]? = some (.cells (tw k) 350)/\Below w.heap.size w wr) (λvk _=>256-(RowKit.intOf vk).toNat)
 case atStart=>exact⟨0,by omega,rfl,h0,h1,h2⟩
 case round=>
  obtain⟨k,hk,rfl,g0,g1,g2⟩:=hrel;clear h0 h1 h2;by_cases hlt:k<256
  ·obtain⟨v,hv⟩:=ahW k k hlt;have hc:wr.cell? ⟨w.heap.size+1,k,none⟩=some v:=by rw[Xd wr _ k _ _ _ g1];exact hv
   have hf:=frozen_of_row wr _ k _ _ g1;clear hv;have G0:=zH g0;have G1:=zH g1;clear g0 g1;go_wp2_with fail;refine(Pg k _ hlt).mono ?_;rintro e w' ⟨rfl,rfl⟩;go_wp2_with fail;go_roundw;case rel=>
    refine⟨k+1,by omega,by go_num,?_,?_,g2.setCell (by simp) _⟩
    ·rw[heap_setCell_other _ _ _ _ (by simp)];exact G0.out
    ·exact heap_setCell_same _ _ _ _ _ _ G1.out
   case measure=>simp[RowKit.intOf];omega
  ·obtain rfl:k=256:=by omega
   have G0:=zH g0;have G1:=zH g1;clear g0 g1;have hi:(prog.info? 350).map (·.size)=some (tw 256).size:=by rw[mW];kernel_rfl
   have h1:(tw 256).all (·.oneCell')=true:=Xb.2 (Vt 256);go_wp2_with (first|(refine wpList_load_row rfl 350 _ rfl _ rfl 350 _ _ _ G1.out underlying350 rfl hi ?_)|(refine XZ rfl 350 _ _ rfl w.heap.size (tw 256) rfl rfl 350 _ G0.out hi (by simp[pO,mW]) h1 ?_));exact zr (v:=.agg (tw 256)) (results_cell_row rfl _ _ w.heap.size 350 (tw 256) (0,0) _ rfl (XP _ _ _ _ _ _ G0.out) underlying350 rfl hi) rfl ⟨rfl,Below.setRow g2 (zl _) _⟩
theorem Tm(w:World):
 Calls prog 263 #[] w λe w'=>e=.returned (.agg (tw 256))/\Below w.heap.size w w':=by
 have hz:=GX;go_enter func263,ntmps263;go_wp2_with fail;refine(table_any _).mono ?_;rintro e w1 ⟨rfl,hb⟩;have hb1:=((zB w.heap.size w).alloc (zl _) (.cells pO 350)).trans (hb.mono (by simp));have g0:w1.heap[w.heap.size]? = some (.cells pO 350):=(hb.block w.heap.size (by simp)).trans (Xl _ _);have G0:=zH g0;clear g0 hz;have hi:(prog.info? 350).map (·.size)=some (tw 256).size:=by rw[mW];kernel_rfl
 have h1:(tw 256).all (·.oneCell')=true:=Xb.2 (Vt 256);go_wp2_with (refine XZ rfl 350 _ _ rfl w.heap.size (tw 256) rfl rfl 350 _ G0.out hi (by simp[pO,mW]) h1 ?_);exact zr (v:=.agg (tw 256)) (results_cell_row rfl _ _ w.heap.size 350 (tw 256) (0,0) _ rfl (XP _ _ _ _ _ _ G0.out) underlying350 rfl hi) rfl ⟨rfl,Below.setRow hb1 (zl _) _⟩
theorem ahu{c:Nat}(hc:c<65536)(b:UInt8):C.reg c b=(c*256%65536)^^^C.tab (c/256^^^b.toNat):=by
 have hb:=b.toNat_lt;unfold C.reg;have hx:c^^^b.toNat*256<65536:=Xk (n:=16) (by omega) (by omega);rw[C.akm hx];have e1:(c^^^b.toNat*256)%256=c%256:=by have:=Nat.xor_mod_two_pow (a:=c) (b:=b.toNat*256) (n:=8);simp only[Nat.reducePow]at this;rw[this,show b.toNat*256%256=0 by omega,Nat.xor_zero]
 have e2:(c^^^b.toNat*256)/256=c/256^^^b.toNat:=by have:=Nat.xor_div_two_pow (a:=c) (b:=b.toNat*256) (n:=8);simp only[Nat.reducePow]at this;rw[this,Nat.mul_div_cancel _ (by omega)]
 rw[e1,e2,show c%256*256=c*256%65536 by omega]
theorem aco(s:ByteArray)(k:Nat)(h:k<s.size):C.crc 0 (s.data.toList.take (k+1))=C.reg (C.crc 0 (s.data.toList.take k)) s[k]:=by rw[<-C.acn,Yo (by simpa using h)];rfl
theorem agm(s:ByteArray)(w:World)(hs:s.size<=1000000):Calls prog 196 #[.int .u16 0,.string s] w λe w'=>e=.returned (.int .u16 (C.crc 0 s.data.toList:Nat))/\Below w.heap.size w w':=by
 have hz:=GX;go_enter func196,ntmps196;go_wp2_with fail;refine(Tm _).mono ?_;rintro e w1 ⟨rfl,hb⟩;have hi:(prog.info? 350).map (·.size)=some (tw 256).size:=by rw[mW];kernel_rfl
 have h1:(tw 256).all (·.oneCell')=true:=Xb.2 (Vt 256);go_wp2_with (refine XZ rfl 350 _ _ rfl w1.heap.size (tw 256) rfl rfl 350 _ (Xl _ _) hi (by simp[pO,mW]) h1 ?_);have hT:((w1.alloc (.cells pO 350)).setRow w1.heap.size (tw 256)).heap[w1.heap.size]? = some (.cells (tw 256) 350):=XP _ _ _ _ _ _ (Xl _ _);have hb2:Below w.heap.size w ((w1.alloc (.cells pO 350)).setRow w1.heap.size (tw 256)):=Below.setRow (hb.alloc hb.size _) hb.size _;generalize (w1.alloc (.cells pO 350)).setRow w1.heap.size (tw 256)=w2 at hT hb2 ⊢;obtain⟨g,hg⟩:∃g,g=w1.heap.size:=⟨_,rfl⟩;rw[<-hg]at hT;simp only[<-hg];clear hz h1 hi hb hg;have HT:=zH hT;clear hT
 go_loop [0,10] (λvc vk=>∃k:Nat,k<=s.size/\vc=.int .u16 (C.crc 0 (s.data.toList.take k):Nat)/\vk=.int .i64 k) (λ_ vk=>s.size-(RowKit.intOf vk).toNat)
 case atStart=>exact⟨0,by omega,rfl,rfl⟩
 case round=>
  obtain⟨k,hk,rfl,rfl⟩:=hrel;have hX:C.crc 0 (s.data.toList.take k)<65536:=C.S9 (by omega) _;by_cases hlt:k<s.size
  ·have HS:=zH (aco s k hlt);generalize C.crc 0 (s.data.toList.take k)=X at hX HS ⊢;have HR:=zH (ahu hX s[k]);have hcb:=s[k].toNat_lt;have hj:X/256^^^s[k].toNat<256:=Xk (n:=8) (by omega) (by omega);have hbx:bits .xor .u8 ((X:Int)/256) (s[k].toNat:Int)=((X/256^^^s[k].toNat:Nat):Int):=u8_xor_nat (X/256) s[k].toNat (by omega) hcb;have hcell:w2.cell? ⟨g,X/256^^^s[k].toNat,none⟩=some (.int .u16 (C.tab (X/256^^^s[k].toNat):Nat)):=by rw[Xd w2 _ _ _ _ _ HT.out];exact aku 256 _ hj (by omega)
   generalize X/256^^^s[k].toNat=j at hj hbx hcell HR;have HJ:=zH hj;go_wp2_with fail;refine⟨⟨k+1,by omega,Yp (Value.int .u16) ?_,rfl⟩,by simp[RowKit.intOf];omega⟩;rw[HS.out,HR.out];exact aiA (X*256%65536) (C.tab j) (by first|(rw[afg];omega)|omega) rfl (by omega) (C.NF (by have:=HJ.out;omega) 8)
  ·obtain rfl:k=s.size:=by omega
   have HF:Hid (C.crc 0 (s.data.toList.take s.size)=C.crc 0 s.data.toList):=zH (by rw[YE (by simp)]);go_wp2_with fail;go_ret;exact⟨by rw[<-HF.out];rfl,hb2⟩
theorem afP(s:ByteArray)(w:World)(hs:s.size<=1000000):Calls prog 115 #[.string s] w λe w'=>e=.returned (.int .u16 (C.crc 0 s.data.toList:Nat))/\Below w.heap.size w w':=by go_enter func115,ntmps115;go_wp2_with fail;refine(agm s _ hs).mono ?_;rintro e w1 ⟨rfl,hb⟩;go_wp2_with fail;go_ret;exact⟨rfl,hb⟩
theorem Rd.lit(w:World)(l:List UInt8)(t:TypeId)(hl:l.length<=140737488351232):Rd (w.alloc (.cells (bs l).toArray t)) (.slice (some ⟨w.heap.size,0,none⟩) l.length l.length) l:=by refine⟨hl,some ⟨w.heap.size,0,none⟩,l.length,w.heap.size,0,rfl,zl _,λi hi=>⟨rfl,?_⟩⟩;rw[Yf];exact(Bx.new w t (bs l)).cell (jh hi)
theorem toNat_ofNat{n:Nat}(h:n<256):((UInt8.ofNat n).toNat:Int)=n:=by simp;omega
def vI(c:Nat):List UInt8:=[UInt8.ofNat (c/256),UInt8.ofNat (c%256)]
theorem acm(c:Nat)(w:World)(hc:c<65536)(t:TypeId):(convert 65 9 (.slice (some ⟨w.heap.size,0,none⟩) 2 2)).run prog (w.alloc (.cells #[.int .u8 ((c:Int)/256),.int .u8 ((c:Int)%256)] t))=.ok (.string (str (vI c))) (w.alloc (.cells #[.int .u8 ((c:Int)/256),.int .u8 ((c:Int)%256)] t)):=by
 have h:=eX (dst:=9) underlying65 underlying5 underlying9 (Rd.lit w (vI c) t (by simp[vI]));have e:(bs (vI c)).toArray = #[.int .u8 ((c:Int)/256),.int .u8 ((c:Int)%256)]:=by simp only[vI,bs,B,Vh,Vg,toNat_ofNat (show c/256<256 by omega),toNat_ofNat (show c%256<256 by omega)];simp
 rw[e]at h;exact h
theorem Le(c:Nat)(w:World)(hc:c<65536):Calls prog 114 #[.int .u16 c] w λe w'=>e=.returned (.string (str (vI c)))/\Below w.heap.size w w':=by have hst:=acm c w hc 5;go_enter func114,ntmps114;go_wp2_with fail;go_ret;exact⟨rfl,(zB _ _).alloc (zl _) _⟩
def chk(s:List UInt8):List UInt8:=vI (65535-C.crc 0 s)
end Ih
section
open Go Go.RowKit
section
variable {F:Fence} {n:Nat} {P:Program}
def RQ(F:Fence)(n:Nat)(P:Program)(gf:Nat)(lb:Array Value)(N:Nat)(G:Nat->Value->World->Prop)(w:World):Prop:=
 ∀(l:Nat)(J:Nat->World->Prop)(Jx:World->Prop)(W:World),Below w.heap.size w W->(∀A,¬ J N A)->(∀k A A',J k A->Below A.heap.size A A'->J k A')->
   (∀k v A,k<N->J k A->G k v A->YieldAt F (n-1) P l #[v] A λe A'=>(e=.returned (.bool true)/\J (k+1) A'/\A.heap.size<=A'.heap.size)\/(e=.returned (.bool false)/\Jx A'))->
   J 0 W->CallsIn F n P gf (#[.func (.yield l) #[] #[]]++lb) W λe W'=>(∃v,e=.returned v)/\Jx W'
theorem zI{g:Operand}{ps:Array Tmp}{assign body:Code}{Q:Exit->Act->World->Prop}{a:Act}{w:World}
 (hro:F.round=none)(h1:1<=n){gf:Nat}{lb:Array Value}(hg:a.eval g=.func (.func gf) #[] lb)(hFg:F.fn gf)(eg:∀args w,(callFunc gf args).run P w=.ok (.enter gf args) w)
 {N:Nat}{G:Nat->Value->World->Prop}(hseq:RQ F (n-1) P gf lb N G w)(hps:ps.size=1)
 (I:Nat->World->Prop)(Ix:Code->World->Prop)(A:Nat->Value->Act->World->Prop)
 (hI:∀k,bD w.heap.size (I k))(hIx:∀c,bD w.heap.size (Ix c))(hA:∀k v a',bD w.heap.size (A k v a'))(h0:I 0 w)(hN:∀W,¬ I N W)
 (hassign:∀(l k:Nat)(v:Value)(W:World)(K:Act->World->Prop),k<N->I k W->G k v W->(∀a' W',KeepsFrom w.heap.size W W'->I k W'->A k v a' W'->K a' W')->
  assign.wpIn (F.inRound l) (n-1-1) P (Exit.then K (λ_ _ _=>False)) {tmps:=(ps.zip #[v]).foldl (λt (p,v)=>t.setIfInBounds p v) a.tmps,defers:=[]} W)
 (hbody:∀(l k:Nat)(v:Value)(a':Act)(W:World),w.heap.size<=l->(∃r,W.heap[l]? = some (.loop r))->k<N->I k W->A k v a' W->body.wpIn (F.inRound l) (n-1-1) P (Fb w.heap.size I Ix k W) a' W)
 (hstop:∀(D:Nat)(c:Code)(W:World),w.heap.size<=D->Ix c W->W.heap[D]? = some (.deferred (some []))->c.wpIn F n P Q {a with defers:={target:=.collected D,args:=#[]}::a.defers} W):
 (Code.rangeFunc g ps assign body).wpIn F n P Q a w:=
 oZ hro h1 hg hFg eg (E:=False) (λl J Jx W hb h9 h1 h2 h3=>(hseq l J Jx W hb (h9 id) h1 h2 h3).mono λe W' h=>⟨h.1,.inr h.2⟩) hps I Ix A hI hIx hA h0 (λ_=>hN) hassign hbody (λD W _ h=>(hN W h).elim) hstop
theorem xq{g:Operand}{ps:Array Tmp}{assign body:Code}{Q:Exit->Act->World->Prop}{a:Act}{w:World}
 (hro:F.round=none)(h1:1<=n){gf:Nat}{lb:Array Value}(hg:a.eval g=.func (.func gf) #[] lb)(hFg:F.fn gf)(eg:∀args w,(callFunc gf args).run P w=.ok (.enter gf args) w)
 {N:Nat}{G:Nat->Value->World->Prop}(hseq:RQ F (n-1) P gf lb N G w)(hps:ps.size=1)
 (I:Nat->World->Prop)(Ix:Code->World->Prop)(a₁:Value->Act)
 (hI:∀k,bD w.heap.size (I k))(hIx:∀c,bD w.heap.size (Ix c))(hG:∀k v,bD w.heap.size (G k v))(h0:I 0 w)(hN:∀W,¬ I N W)
 (hassign:∀(l:Nat)(v:Value)(W:World)(K:Act->World->Prop),(∃k,G k v W)->K (a₁ v) W->
  assign.wpIn (F.inRound l) (n-1-1) P (Exit.then K (λ_ _ _=>False)) {tmps:=(ps.zip #[v]).foldl (λt (p,v)=>t.setIfInBounds p v) a.tmps,defers:=[]} W)
 (hbody:∀(l k:Nat)(v:Value)(W:World),k<N->I k W->G k v W->body.wpIn (F.inRound l) (n-1-1) P (Fb w.heap.size I Ix k W) (a₁ v) W)
 (hstop:∀(D:Nat)(c:Code)(W:World),w.heap.size<=D->Ix c W->W.heap[D]? = some (.deferred (some []))->c.wpIn F n P Q {a with defers:={target:=.collected D,args:=#[]}::a.defers} W):
 (Code.rangeFunc g ps assign body).wpIn F n P Q a w:=
 zI hro h1 hg hFg eg hseq hps I Ix (λk v a' W=>a'=a₁ v/\G k v W) hI hIx (λk v a'=>(bD.const _ (a'=a₁ v)).and (hG k v)) h0 hN
  (λl k v W K _ hi hgv hK=>hassign l v W K ⟨k,hgv⟩ (hK _ _ (KeepsFrom.refl _ _) hi ⟨rfl,hgv⟩))
  (λl k v a' W _ _ hk hi ⟨e,hgv⟩=>by subst e;exact hbody l k v W hk hi hgv) hstop
end
end
namespace Ih
open Go.RowKit
abbrev jK(m s f:Int):Value:=.agg #[.int .i64 m,.int .i64 s,.int .i64 f]
abbrev adU(n:Int):Value:=jK (Q.mM n) (Q.mS n) (Q.mF n)
def RV(v:Value)(w:World)(e:Ending)(w':World):Prop:=e=.returned v/\Below w.heap.size w w'
theorem aj7(n:Int):Q.mM n=n/75/60:=by unfold Q.mM;omega
theorem Qr(n:Int)(w:World)(h0:0<=n)(h1:n<=449999):Calls prog 221 #[.int .i64 n] w (RV (.tuple #[adU n,.bool true]) w):=by show Calls _ _ _ _ (RV (.tuple #[jK (Q.mM n) (n/75%60) (n%75),.bool true]) w);rw[aj7];go_enter func221,ntmps221;go_wp2;exact zr (v:=.tuple #[jK (n/75/60) (n/75%60) (n%75),.bool true]) (by simp[results,results221,go_sem]) rfl ⟨rfl,(zB _ _).alloc (zl _) _⟩
theorem Rl(n:Int)(w:World)(h0:-150<=n)(h1:n<=449849):Calls prog 136 #[.int .i64 n] w (RV (.tuple #[adU (n+150),.int .i64 0]) w):=by go_enter func136,ntmps136;go_wp2_with fail;refine(Qr (n+150) _ (by omega) (by omega)).mono ?_;rintro e w1 ⟨rfl,hb⟩;have hb1:=((zB w.heap.size w).alloc (zl _) (.cells #[.int .i64 0,.int .i64 0,.int .i64 0] 235)).trans (hb.mono (by simp));have hB:Bx w1 w.heap.size 235 [.int .i64 0,.int .i64 0,.int .i64 0]:=(Bx.new w 235 [.int .i64 0,.int .i64 0,.int .i64 0]).call hb;have g0:=hB.cell (i:=0) rfl;have g1:=hB.cell (i:=1) rfl;have g2:=hB.cell (i:=2) rfl;have gf:=hB.free;have gl:=hB.lt;go_wp2_with fail;exact zr (v:=.tuple #[adU (n+150),.int .i64 0]) (by simp[results,results136,go_sem,g0,g1,g2,gl]) rfl ⟨rfl,(((hb1.setCell (zl _) _).setCell (zl _) _).setCell (zl _) _).alloc (by simp;omega) _⟩
def uH(n:Int):Int:=n/10*16+n%10
def aH(x:Int):Int×Int:=if 9<x/16\/9<x%16 then(0,2) else(10*(x/16)+x%16,0)
def vB(m s f:Int):Bool:=decide (0<=m/\m<=99/\0<=s/\s<=59/\0<=f/\f<=74)
theorem abG{m s f:Int}(h:¬ (0<=m/\m<=99/\0<=s/\s<=59/\0<=f/\f<=74)):vB m s f=false:=zf h
theorem ahY{m s f:Int}(h:0<=m/\m<=99/\0<=s/\s<=59/\0<=f/\f<=74):vB m s f=true:=zt h
theorem Zd{m s f:Int}:vB m s f=true↔(0<=m/\m<=99/\0<=s/\s<=59/\0<=f/\f<=74):=decide_eq_true_iff
def R2(a b:Value)(w:World)(e:Ending)(w':World):Prop:=e=.returned (.tuple #[a,b])/\w=w'
def R2B(a b:Value)(w:World)(e:Ending)(w':World):Prop:=e=.returned (.tuple #[a,b])/\Below w.heap.size w w'
theorem akd:∀k:Nat,k<100->bits .or .i64 ((k:Int)/10*16) ((k:Int)%10)%256=(k:Int)/10*16+(k:Int)%10:=by decide+kernel
theorem ag8(n:Int)(h0:0<=n)(h1:n<=99):bits .or .i64 (n/10*16) (n%10)%256=uH n:=by have h:=akd n.toNat (by omega);rwa[Int.toNat_of_nonneg h0]at h
theorem Rn{c:Int}(h:9<c/16\/9<c%16):aH c=(0,2):=zj h
theorem J4{c:Int}(h:c/16<=9/\c%16<=9):aH c=(10*(c/16)+c%16,0):=zi (by omega)
theorem amO{x y:Int}{r:Int×Int}(h:r=(x,y)):Ending.returned (.tuple #[.int .i64 x,.int .i64 y])=.returned (.tuple #[.int .i64 r.1,.int .i64 r.2]):=by rw[h]
theorem aoM{a a' b:Value}(h:a=a'):Ending.returned (.tuple #[a,b])=.returned (.tuple #[a',b]):=by rw[h]
theorem afF(n:Int)(w:World)(h0:0<=n)(h1:n<=99):Calls prog 225 #[.int .i64 n] w (R2 (.int .u8 (uH n)) (.int .i64 0) w):=by go_enter func225,ntmps225;go_wp2;go_ret2;refine⟨aoM (Yp (Value.int .u8) ?_),rfl⟩;first|exact ag8 n h0 h1|rfl
theorem Bc(c:Int)(w:World)(h0:0<=c)(h1:c<=255):Calls prog 234 #[.int .u8 c] w (R2 (.int .i64 (aH c).1) (.int .i64 (aH c).2) w):=by
 go_enter func234,ntmps234;go_wp2;all_goals
  go_ret2;refine⟨amO ?_,rfl⟩;first|exact Rn (.inl (by assumption))|exact Rn (by assumption)|exact J4 (by assumption)|exact(J4 (by assumption)).trans (by rw[Int.mul_comm])
theorem WI(w:World):Calls prog 293 #[.int .i64 0] w (RV (.int .i64 100) w):=by go_enter func293,ntmps293;go_wp2;go_ret;exact⟨rfl,(zB _ _).alloc (zl _) _⟩
theorem WJ(w:World):Calls prog 293 #[.int .i64 1] w (RV (.int .i64 60) w):=by go_enter func293,ntmps293;go_wp2;go_ret;exact⟨rfl,(zB _ _).alloc (zl _) _⟩
theorem WL(w:World):Calls prog 293 #[.int .i64 2] w (RV (.int .i64 75) w):=by go_enter func293,ntmps293;go_wp2;go_ret;exact⟨rfl,(zB _ _).alloc (zl _) _⟩
theorem JW(m s f:Int)(w:World):Calls prog 292 #[jK m s f] w (RV (jK m s f) w):=by go_enter func292,ntmps292;go_wp2;exact zr (v:=jK m s f) (by simp[results,results292,go_sem]) rfl ⟨rfl,((zB _ _).alloc (zl _) _).alloc (by simp) _⟩
theorem Oz(m s f:Int)(w:World)(h:0<=m/\m<=99/\0<=s/\s<=59/\0<=f/\f<=74):Calls prog 236 #[jK m s f] w (RV (.int .i64 ((60*m+s)*75+f)) w):=by obtain⟨h1,h2,h3,h4,h5,h6⟩:=h;go_enter func236,ntmps236;go_wp2;go_ret;exact⟨rfl,(zB _ _).alloc (zl _) _⟩
def Fine(x:T.ax):Prop:=0<=x.st/\x.st<=449849/\1<=x.len/\x.len<=449849
theorem JQ{a:Bool}(h:a=false):Ending.returned (.bool false)=.returned (.bool a):=by rw[h]
theorem amP{a:Bool}(h:a=true):Ending.returned (.bool true)=.returned (.bool a):=by rw[h]
theorem wC(m s f:Int)(w:World):Calls prog 222 #[jK m s f] w (RB (vB m s f) w):=by
 have i0:∀w,(Instr.index 325 (.agg #[.int .i64 m,.int .i64 s,.int .i64 f]) (.int .i64 0)).run prog w=.ok (.int .i64 m) w:=λ_=>by kernel_rfl
 have i1:∀w,(Instr.index 325 (.agg #[.int .i64 m,.int .i64 s,.int .i64 f]) (.int .i64 1)).run prog w=.ok (.int .i64 s) w:=λ_=>by kernel_rfl
 have i2:∀w,(Instr.index 325 (.agg #[.int .i64 m,.int .i64 s,.int .i64 f]) (.int .i64 2)).run prog w=.ok (.int .i64 f) w:=λ_=>by kernel_rfl
 go_enter func222,ntmps222;go_wp2_with fail;refine(JW m s f _).mono ?_;rintro e w1 ⟨rfl,hb⟩;have hb1:=((zB w.heap.size w).alloc (zl _) (.cells #[.int .i64 m,.int .i64 s,.int .i64 f] 235)).trans (hb.mono (by simp));clear hb;go_wp2_with fail
 go_loopw [7] (λvi wr=>∃(k:Nat),k<=3/\vi=.int .i64 k/\(0<k->0<=m/\m<=99)/\(1<k->0<=s/\s<=59)/\(2<k->0<=f/\f<=74)/\Below w.heap.size w wr) (λvi _=>3-(RowKit.intOf vi).toNat)
 case atStart=>exact⟨0,by omega,rfl,λh=>by omega,λh=>by omega,λh=>by omega,hb1⟩
 case round=>
  clear hb1;obtain⟨k,hk,rfl,hK0,hK1,hK2,hb⟩:=hrel;by_cases h3:k=3
  ·subst h3;have a0:=zH (hK0 (by omega));have a1:=zH (hK1 (by omega));have a2:=zH (hK2 (by omega));clear hK0 hK1 hK2;go_wp2_with fail;go_ret;exact⟨amP (ahY (by have:=a0.out;have:=a1.out;have:=a2.out;omega)),hb⟩
  by_cases h0:k=0
  ·subst h0;have A0:=zH hK0;have A1:=zH hK1;have A2:=zH hK2;clear hK0 hK1 hK2 h3;by_cases hp:0<=m
   ·have d1:decide (m<0)=false:=zf (by omega);by_cases hq:m<=99
    ·have d2:decide (100<=m)=false:=zf (by omega);go_wp2_with fail;refine(WI _).mono ?_;rintro e w2 ⟨rfl,hb2⟩;have hb3:=hb.trans (hb2.mono hb.size);go_wp2_with fail;first
     | (go_roundw
        case rel=>exact⟨1,by omega,by go_num,λ_=>⟨hp,hq⟩,λh=>by omega,λh=>by omega,hb3⟩
        case measure=>simp[RowKit.intOf])
     |exact⟨⟨1,by omega,by go_num,λ_=>⟨hp,hq⟩,λh=>by omega,λh=>by omega,hb3⟩,by simp[RowKit.intOf]⟩
    ·have d2:decide (100<=m)=true:=zt (by omega);go_wp2_with fail;refine(WI _).mono ?_;rintro e w2 ⟨rfl,hb2⟩;have hb3:=hb.trans (hb2.mono hb.size);go_wp2_with fail;go_ret;exact⟨JQ (abG (by omega)),hb3⟩
   ·have d1:decide (m<0)=true:=zt (by omega);go_wp2_with fail;go_ret;exact⟨JQ (abG (by omega)),hb⟩
  by_cases h1:k=1
  ·subst h1;have A0:=zH hK0;have A1:=zH hK1;have A2:=zH hK2;clear hK0 hK1 hK2 h3;by_cases hp:0<=s
   ·have d1:decide (s<0)=false:=zf (by omega);by_cases hq:s<=59
    ·have d2:decide (60<=s)=false:=zf (by omega);go_wp2_with fail;refine(WJ _).mono ?_;rintro e w2 ⟨rfl,hb2⟩;have hb3:=hb.trans (hb2.mono hb.size);go_wp2_with fail;first
     | (go_roundw
        case rel=>exact⟨2,by omega,by go_num,λ_=>A0.out (by omega),λ_=>⟨hp,hq⟩,λh=>by omega,hb3⟩
        case measure=>simp[RowKit.intOf])
     |exact⟨⟨2,by omega,by go_num,λ_=>A0.out (by omega),λ_=>⟨hp,hq⟩,λh=>by omega,hb3⟩,by simp[RowKit.intOf]⟩
    ·have d2:decide (60<=s)=true:=zt (by omega);go_wp2_with fail;refine(WJ _).mono ?_;rintro e w2 ⟨rfl,hb2⟩;have hb3:=hb.trans (hb2.mono hb.size);go_wp2_with fail;go_ret;exact⟨JQ (abG (by omega)),hb3⟩
   ·have d1:decide (s<0)=true:=zt (by omega);go_wp2_with fail;go_ret;exact⟨JQ (abG (by omega)),hb⟩
  by_cases h2:k=2
  ·subst h2;have A0:=zH hK0;have A1:=zH hK1;have A2:=zH hK2;clear hK0 hK1 hK2 h3;by_cases hp:0<=f
   ·have d1:decide (f<0)=false:=zf (by omega);by_cases hq:f<=74
    ·have d2:decide (75<=f)=false:=zf (by omega);go_wp2_with fail;refine(WL _).mono ?_;rintro e w2 ⟨rfl,hb2⟩;have hb3:=hb.trans (hb2.mono hb.size);go_wp2_with fail;first
     | (go_roundw
        case rel=>exact⟨3,by omega,by go_num,λ_=>A0.out (by omega),λ_=>A1.out (by omega),λ_=>⟨hp,hq⟩,hb3⟩
        case measure=>simp[RowKit.intOf])
     |exact⟨⟨3,by omega,by go_num,λ_=>A0.out (by omega),λ_=>A1.out (by omega),λ_=>⟨hp,hq⟩,hb3⟩,by simp[RowKit.intOf]⟩
    ·have d2:decide (75<=f)=true:=zt (by omega);go_wp2_with fail;refine(WL _).mono ?_;rintro e w2 ⟨rfl,hb2⟩;have hb3:=hb.trans (hb2.mono hb.size);go_wp2_with fail;go_ret;exact⟨JQ (abG (by omega)),hb3⟩
   ·have d1:decide (f<0)=true:=zt (by omega);go_wp2_with fail;go_ret;exact⟨JQ (abG (by omega)),hb⟩
  omega
def aoQ(n:Int):Bool:=btw n 0 99 || n == 170
def ptB(n:Int):Bool:=btw n 0 99 || btw n 160 162
def frB(q:Q.Fr):Bool:=btw q.ctl 0 15 && aoQ q.bP && ptB q.pt && vB q.rm q.rs q.rf && vB q.am q.as q.af
end Ih
section
open Go.RowKit
def fl(l:List T.ax):List Value:=l.flatMap kK
theorem Wh(l:List T.ax):(List.range l.length).flatMap (λi=>kK (T.tr l i))=fl l:=by
 unfold fl;have h:l=(List.range l.length).map (T.tr l):=by
  apply Xt
  ·simp
  ·intro i h1 h2;simp[T.tr,h1]
 conv=>rhs;rw[h]
 rw[List.flatMap_map]
theorem uN(l:List T.ax):(fl l).length=l.length*7:=by rw[<-Wh];exact ui (λ_=>eH _) _
theorem TW(l:List T.ax)(i j:Nat)(hi:i<l.length)(hj:j<7):(fl l)[i*7+j]? = (kK (T.tr l i))[j]?:=by rw[<-Wh];exact tX (λ_=>eH _) _ i j hi hj
theorem Z9(l m:List T.ax):fl (l++m)=fl l++fl m:=by simp[fl]
theorem aju(l:List T.ax):∀u∈fl l,u.oneCell'=true:=by intro u hu;simp only[fl,List.mem_flatMap]at hu;obtain⟨x,_,hu⟩:=hu;simp only[kK,XW,List.not_mem_nil,or_false]at hu;rcases hu with rfl|rfl|rfl|rfl|rfl|rfl|rfl <;> rfl
theorem ajv(l:List T.ax)(i j:Nat)(hi:i<l.length)(hj:j<7)(v:Value)(x:T.ax)(hx:kK x=(kK (T.tr l i)).set j v):(fl l).set (i*7+j) v=fl (l.set i x):=by
 have hl:(l.set i x).length=l.length:=by simp
 apply YS;intro k;by_cases hk:k<l.length*7
 ·have e:k/7*7+k%7=k:=by omega
  have h2:=TW (l.set i x) (k/7) (k%7) (by rw[hl];omega) (by omega);rw[e]at h2;rw[h2,YP];by_cases h:i*7+j=k
  ·rw[zj h,zj (by rw[uN];omega)];obtain⟨h3,h4⟩:k/7=i/\k%7=j:=by omega
   rw[h3,h4,T.gy _ _ _ hi,hx,YP,zj rfl,zj (by rw[eH];omega)]
  ·rw[zi h];have h1:=TW l (k/7) (k%7) (by omega) (by omega);rw[e]at h1;rw[h1];by_cases h5:k/7=i
   ·rw[h5,T.gy _ _ _ hi,hx,YP,zi (by omega)]
   ·rw[T.kW _ _ _ _ h5]
 ·rw[Yh (by rw[Yu,uN];omega),Yh (by rw[uN,hl];omega)]
theorem bQ.bg{w:World}{base e:Nat}{v:Value}{l:List T.ax}(h:w.ownsRow base e 7 v l.length (fl l)):bQ w v l:=by rw[<-Wh]at h;exact dU.bg (λ_=>eH _) h
theorem bQ.reads{w:World}{v:Value}{l:List T.ax}(h:bQ w v l):Reads w 7 v l.length (fl l):=by have:=dU.reads (λ_=>eH _) h;rwa[Wh]at this
theorem infoTrack:(prog.info? 94).map (λi=>(i.zero,i.size,i.bytes))=some (some (.agg #[.int .i64 0,.int .i64 0,.int .i64 0,.int .i64 0,.int .i64 0,.int .i64 0,.int .i64 0]),7,56):=by kernel_rfl
theorem Cb{ops:Array Oper}{rest:List Oper}{o:Oper}{a:Act}{Q:Exit->Act->World->Prop}{w:World}(hg:o.guard=none)(s x:Operand)
 (hop:o.op=.call {callee:=.builtin .append,args:=#[s,x],argTypes:=#[35,35]}){base:Nat}
 {v:Value}{n:Nat}{l:List T.ax}(hown:w.ownsRow base 94 7 v n (fl l))(hv:a.eval s=v){vs:Value}{m:List T.ax}(hs:bQ w vs m)(hx:a.eval x=vs)
 (h63:n+m.length<=1099511627776)(hbase:base<=w.heap.size)
 (hK:∀v' w',w'.ownsRow base 94 7 v' (n+m.length) (fl (l++m))->w.grownBy w' v.ownBlock->wpList prog ops Q rest (a.put o.dst v') w'):wpList prog ops Q (o::rest) a w:=by
 obtain⟨i0,hi,hz0,hz1,hz2⟩:=info_parts infoTrack;refine oH hg s x hop underlying35 hi hz0 hz1 hz2 rfl (by omega) hown hv hs.reads hx (aju m) (by unfold maxLen;omega) (by omega) hbase λv' w' g1 g2 g3=>?_
 rw[<-Z9]at g1;exact hK v' w' g1 g2
theorem F7(v:Value)(l:List T.ax)(w:World)(hr:bQ w v l)(hn:l.length<=110):
 Calls prog 120 #[v] w λe w'=>∃v',e=.returned v'/\w'.ownsRow w.heap.size 94 7 v' l.length (fl l)/\Below w.heap.size w w':=by
 obtain⟨a,c,rfl,hac⟩:=dU.form hr;have heq:=λW=>Lib.run_eql_slice_nil (P:=prog) W 35 94 a l.length c 0 0 underlying35
 cases a with
 | none=>
   have hl:l = []:=by
    obtain⟨a,c,b,off,h1,_,h2⟩:=hr;cases l with
    |nil=>rfl
    |cons x l=>have:=(h2 0 (by simp)).1;injection h1 with h1;rw[<-h1]at this;cases this
   subst hl;simp only[YC]at heq;go_enter func120,ntmps120;go_wp2;go_ret;exact⟨_,rfl,⟨rfl,.inl ⟨rfl,rfl⟩⟩,zB _ _⟩
 | some ad=>
   have hown0:(w.alloc (.cells #[] 94)).ownsRow w.heap.size 94 7 (.slice (some ⟨w.heap.size,0,none⟩) 0 0) 0 (fl []):=Xc w #[] 0 (zl _) (by simp[maxLen]) (by simp);have hr1:bQ (w.alloc (.cells #[] 94)) (.slice (some ad) l.length c) l:=hr.keep ((zB _ _).alloc (zl _) _);go_enter func120,ntmps120;go_wp2_with (refine Cb rfl _ _ rfl hown0 rfl hr1 rfl (by omega) (by simp) ?_;intro v' w' hown' hg');go_ret;rw[Yf,YV]at hown';exact⟨v',rfl,hown',((zB _ _).alloc (zl _) _).grown hg' (by simp) (λk hk=>by obtain rfl:=zs hk;exact zl _)⟩
theorem dL{w:World}{base e size n:Nat}{v:Value}{xs:List Value}(h:w.ownsRow base e size v n xs){p:Addr}(hp:p.block<base)(u:Value):(w.setCell p u).ownsRow base e size v n xs:=by
 refine⟨h.1,?_⟩;rcases h.2 with h|⟨g,cap,cur,hv,hg,hh,r⟩
 ·exact .inl h
 ·exact .inr ⟨g,cap,cur,hv,hg,(zh w p u g (by omega)).trans hh,r⟩
theorem ad6{w w':World}{base e size n:Nat}{v:Value}{xs:List Value}(h:w.ownsRow base e size v n xs)(hb:∀k,k<w.heap.size->w'.heap[k]? = w.heap[k]?):w'.ownsRow base e size v n xs:=by
 refine⟨h.1,?_⟩;rcases h.2 with h|⟨g,cap,cur,hv,hg,hh,r⟩
 ·exact .inl h
 ·exact .inr ⟨g,cap,cur,hv,hg,(hb g (Yd.1 hh).1).trans hh,r⟩
abbrev aN(cl:Int)(fin:Bool)(v:Value):Value:=.agg #[.int .i64 cl,.bool fin,v]
def afw(base:Nat)(cl:Int)(fin:Bool)(l:List T.ax)(w:World)(e:Ending)(w':World):Prop:=
 ∃v',e=.returned (aN cl fin v')/\w'.ownsRow base 94 7 v' l.length (fl l)/\Below w.heap.size w w'
theorem clone_any(cl:Int)(fin:Bool)(v:Value)(l:List T.ax)(w:World)(hr:bQ w v l)(hn:l.length<=110):
 Calls prog 238 #[aN cl fin v] w (afw w.heap.size cl fin l w):=by
 have hb0:=((zB w.heap.size w).alloc (zl _) (.cells #[.int .i64 cl,.bool fin,v] 37)).alloc (by simp) (.cells #[.int .i64 0,.bool false,.slice none 0 0] 37);have hr1:=hr.keep hb0;have hcon:=F7 v l _ hr1 hn;have iG:=zH hcon;clear hcon;obtain⟨a,c,rfl,hac⟩:=dU.form hr;go_enter func238,ntmps238;go_wp2_with fail;refine iG.out.mono ?_;rintro e w1 ⟨v',rfl,hown,hb⟩;have hb1:=hb0.trans (hb.mono (by simp;omega));have ht0:w1.cell? ⟨w.heap.size,0,none⟩=some (.int .i64 cl):=(hb.cell (p:=⟨w.heap.size,0,none⟩) (by simp;omega)).trans (by simp[go_sem]);have ht1:w1.cell? ⟨w.heap.size,1,none⟩=some (.bool fin):=(hb.cell (p:=⟨w.heap.size,1,none⟩) (by simp;omega)).trans (by simp[go_sem]);have ht2:w1.cell? ⟨w.heap.size,2,none⟩=some (.slice a l.length c):=(hb.cell (p:=⟨w.heap.size,2,none⟩) (by simp;omega)).trans (by simp[go_sem]);have hs0:w1.cell? ⟨w.heap.size+1,0,none⟩=some (.int .i64 0):=(hb.cell (p:=⟨w.heap.size+1,0,none⟩) (by simp)).trans (by simp[go_sem]);have hs1:w1.cell? ⟨w.heap.size+1,1,none⟩=some (.bool false):=(hb.cell (p:=⟨w.heap.size+1,1,none⟩) (by simp)).trans (by simp[go_sem]);have hs2:w1.cell? ⟨w.heap.size+1,2,none⟩=some (.slice none 0 0):=(hb.cell (p:=⟨w.heap.size+1,2,none⟩) (by simp)).trans (by simp[go_sem]);have hf0:∀k,w1.frozen? ⟨w.heap.size,k,none⟩=false:=λk=>(hb.frozen (p:=⟨w.heap.size,k,none⟩) (by simp;omega)).trans (by simp[go_sem])
 have hf1:∀k,w1.frozen? ⟨w.heap.size+1,k,none⟩=false:=λk=>(hb.frozen (p:=⟨w.heap.size+1,k,none⟩) (by simp)).trans (by simp[go_sem])
 obtain⟨a2,c2,rfl,_⟩:=dU.form (bQ.bg hown);have hw1:w.heap.size+1<w1.heap.size:=by have:=hb.size;simp at this;omega
 go_wp2_with fail;refine zr (v:=aN cl fin (.slice a2 l.length c2)) (by simp[results,results238,go_sem,hs0,hs1,hs2]) rfl ⟨_,rfl,?_,?_⟩
 ·refine iQ (base:=w.heap.size+2) ?_ (by omega);have hown2:w1.ownsRow (w.heap.size+2) 94 7 (.slice a2 l.length c2) l.length (fl l):=by simpa using hown
  exact dL (dL (dL (dL hown2 (by simp) _) (by simp) _) (by simp) _) (by simp) _
 ·exact(((hb1.setCell (by simp) _).setCell (by simp) _).setCell (by simp) _).setCell (by simp) _
theorem MP{w:World}{base e g n c:Nat}{l:List T.ax}(h:w.ownsRow base e 7 (.slice (some ⟨g,0,none⟩) n c) n (fl l))(i j:Nat)(hi:i<l.length)(hj:j<7)(v:Value)(x:T.ax)(hx:kK x=(kK (T.tr l i)).set j v):
 (w.setCell ⟨g,i*7+j,none⟩ v).ownsRow base e 7 (.slice (some ⟨g,0,none⟩) n c) n (fl (l.set i x)):=by
 have:=(h.stored (i*7+j) v).1;rwa[ajv l i j hi hj v x hx]at this
theorem QA{w:World}{base e n:Nat}{v:Value}{l:List T.ax}(h:w.ownsRow base e 7 v n (fl l))(hn:0<n):∃g c,v=.slice (some ⟨g,0,none⟩) n c/\base<=g/\g<w.heap.size:=by
 rcases h.2 with ⟨_,h0⟩|⟨g,cap,cur,hv,hb,hg,_⟩
 ·omega
 ·exact⟨g,cap,hv,hb,(Yd.1 hg).1⟩
theorem Jy{w:World}{base e g n c:Nat}{l:List T.ax}(h:w.ownsRow base e 7 (.slice (some ⟨g,0,none⟩) n c) n (fl l))(i:Nat)(hi:i<l.length):w.rangeAt g (i*7) (kK (T.tr l i)):=λj u hu=>by
 have hj:j<7:=by have:=(Yr.1 hu).1;rwa[eH]at this
 have hn:l.length=n:=by have:=h.1;rw[uN]at this;omega
 rw[h.cellAt (i*7+j) (by omega),TW l i j hi hj];exact hu
end
end Go.Proofs.YtfnehkmhcmkhjaaGreat
