/- Parts:XFa XOpen XGiv XGiw -/
import Derived.Test.YtfnehkmhcmkhjaaGreatDvAl
import Derived.Test.YtfnehkmhcmkhjaaGreatDv02
import Derived.Test.YtfnehkmhcmkhjaaGreatDv04
import Derived.ProofKit
import Derived.OpenShut
import Derived.ShutString
import Derived.ChangeOld
import Derived.Below
import Derived.RangeFuncNested
import Derived.RangeFuncBox
import Derived.RangeFuncLeaves
import Derived.RangeFuncWrites
import Derived.RangeFuncCalls
set_option maxRecDepth 100000
set_option maxHeartbeats 8000000
set_option linter.unusedVariables false
namespace Go.Proofs.YtfnehkmhcmkhjaaGreat
open Tryz
namespace oH
open C9 Go.RowKit
structure CQ where
 st:Nat
 cnt:Nat
 raw:List UInt8
 er:Nat->Bool
 ch:Nat->UInt8
structure aP where
 kind:Nat
 iU:Nat
 secs:List CQ
 scr:List Sc
def blank:CQ:=⟨0,0,[],fun _=>false,fun _=>0⟩
def aP.n(M:aP):Nat:=M.secs.length
def aP.sec(M:aP)(i:Nat):CQ:=bF blank M.secs i
def aP.put(M:aP)(i:Nat)(s:CQ):aP:={ M with secs:=M.secs.set i s }
theorem aP.zA(M:aP)(i:Nat)(s:CQ):(M.put i s).n=M.n:=by simp[aP.put,aP.n]
theorem aP.qH(M:aP){i:Nat}(s:CQ)(h:i<M.n):(M.put i s).sec i=s:=bQ _ _ _ h
theorem aP.kJ(M:aP){i k:Nat}(s:CQ)(h:k≠i):(M.put i s).sec k=M.sec k:=rP _ _ _ _ h
def MZ(n:Nat)(scr:List Sc):List Int:=yU scr (98 * n)
def Bv(n:Nat)(scr:List Sc)(i k:Nat):Bool:=decide (((2352 * i+k:Nat):Int) ∈ MZ n scr)
def aP.rq(M:aP)(i k:Nat):Bool:=(M.sec i).er k || Bv M.n M.scr i k
def aP.gone(M:aP)(i:Nat):List Int:=((List.range 2352).filter (M.rq i)).map Int.ofNat
def jF(l:List UInt8)(k:Nat):UInt8:=bF 0 l k
def aP.out(M:aP)(i:Nat):List UInt8:=(List.range 2352).map fun k=>if M.rq i k=true then 0 else jF (M.sec i).raw k ^^^ (M.sec i).ch k
def aP.BK(M:aP)(a:Int):List UInt8×List Int×Int:=
 if 0<=a/\a<M.n then
  if (M.sec a.toNat).st=0 then([],[],8) else if (M.sec a.toNat).st=1 then(M.out a.toNat,M.gone a.toNat,0) else([],[],9)
 else([],[],2)
def aP.Ja(M:aP)(i:Nat):Prop:=(M.sec i).st=1/\M.gone i = []/\∀k,k<2352->(M.sec i).ch k=0
open Classical in
noncomputable def aP.kQ(M:aP)(a:Int):Bool:=decide ((0<=a/\a<M.n)/\M.Ja a.toNat)
def aP.eu(M:aP)(a:Int):Int×Int:=if 0<=a/\a<M.n then((M.sec a.toNat).st,0) else(0,2)
def aP.write(M:aP)(i st:Nat)(raw:List UInt8):Int×aP:=
 if M.kind=0 then(15,M) else if M.kind=1/\(M.sec i).st≠0 then(8,M)
 else if (M.sec i).cnt+1 > M.iU then(16,M.put i { M.sec i with st:=3,cnt:=(M.sec i).cnt+1,raw:=[],ch:=fun _=>0 })
 else(0,M.put i { M.sec i with st:=st,cnt:=(M.sec i).cnt+1,raw:=raw,ch:=fun _=>0 })
def aP.record(M:aP)(a:Int)(raw:List UInt8):Int×aP:=if 0<=a/\a<M.n then(if raw.length=2352 then M.write a.toNat 1 raw else(1,M)) else(2,M)
def aP.pV(M:aP)(a:Int):Int×aP:=if 0<=a/\a<M.n then M.write a.toNat 2 [] else(2,M)
structure Dam where
 aj:Int
 er:List Int
 ch:List (Int×Int)
structure CQ.Ok (s:CQ) (N:Nat):Prop where
 st:s.st<=3
 cnt:s.cnt<=N
 one:s.st=1->s.raw.length=2352
 raw:s.raw.length<=2352
 er:∀k,s.er k=true->k<2352
 ch:∀k,s.ch k≠0->k<2352
structure aP.Ok (M:aP) (N:Nat):Prop where
 kind:M.kind<=2
 iU:1<=M.iU/\M.iU<=1048576
 n:1<=M.n/\M.n<=4096
 sec:∀i,i<M.n->(M.sec i).Ok N
 scr:M.scr.length<=256
 fit:acQ (98 * M.n+108) M.scr=true
theorem CQ.Ok.mono{s:CQ}{N K:Nat}(h:s.Ok N)(hk:N<=K):s.Ok K:=⟨h.st,zT h.cnt hk,h.one,h.raw,h.er,h.ch⟩
theorem aP.Ok.mono{M:aP}{N K:Nat}(h:M.Ok N)(hk:N<=K):M.Ok K:=⟨h.kind,h.iU,h.n,fun i hi=>(h.sec i hi).mono hk,h.scr,h.fit⟩
theorem aP.Ok.put{M:aP}{N:Nat}(h:M.Ok N){i:Nat}{s:CQ}(hi:i<M.n)(hs:s.Ok N):(M.put i s).Ok N:=by
 refine⟨h.kind,h.iU,by rw[aP.zA]; exact h.n,fun k hk=>?_,h.scr,by rw[aP.zA]; exact h.fit⟩;rw[aP.zA]at hk;by_cases e:k=i
 ·subst e; rw[aP.qH _ _ hi]; exact hs
 ·rw[aP.kJ _ _ e]; exact h.sec k hk
theorem aP.Ok.write{M:aP}{N:Nat}(h:M.Ok N){i st:Nat}{raw:List UInt8}(hi:i<M.n)(hst:st<=3)(h1:st=1->raw.length=2352)(hr:raw.length<=2352):(M.write i st raw).2.Ok (N+1):=by
 have hs:=(h.sec i hi).mono (Nat.le_succ N);have hc:=(h.sec i hi).cnt;have hM:=h.mono (Nat.le_succ N);unfold aP.write;split
 ·exact hM
 ·split
  ·exact hM
  ·split
   ·exact hM.put hi ⟨by simp,by simp only; omega,by simp,by simp,hs.er,by simp⟩
   ·exact hM.put hi ⟨hst,by simp only; omega,h1,hr,hs.er,by simp⟩
theorem aP.Ok.record{M:aP}{N:Nat}(h:M.Ok N)(a:Int)(raw:List UInt8):(M.record a raw).2.Ok (N+1):=by
 have hM:=h.mono (Nat.le_succ N);unfold aP.record;split
 ·split
  ·exact h.write (by omega) (by omega) (fun _=>by assumption) (by omega)
  ·exact hM
 ·exact hM
theorem aP.Ok.pV{M:aP}{N:Nat}(h:M.Ok N)(a:Int):(M.pV a).2.Ok (N+1):=by
 have hM:=h.mono (Nat.le_succ N);unfold aP.pV;split
 ·exact h.write (by omega) (by omega) (fun h=>by omega) (by simp)
 ·exact hM
def dO(kind n iU:Nat):aP:=⟨kind,iU,List.replicate n blank,[]⟩
theorem sF(kind n iU i:Nat):(dO kind n iU).sec i=blank:=by unfold aP.sec dO bF;simp only[List.getElem?_replicate];split <;> rfl
theorem O3{kind n iU:Nat}(hk:kind<=2)(he:1<=iU/\iU<=1048576)(hn:1<=n/\n<=4096):(dO kind n iU).Ok 0:=by refine⟨hk,he,by simpa[dO,aP.n]using hn,fun i _=>?_,by simp[dO],by simp[dO,acQ]⟩;rw[sF];exact⟨by simp[blank],by simp[blank],by simp[blank],by simp[blank],by simp[blank],by simp[blank]⟩
theorem pI(M:aP)(i:Nat)(x:Int):x ∈ M.gone i↔∃k:Nat,k<2352/\M.rq i k=true/\x=k:=by
 simp only[aP.gone,List.mem_map,List.mem_filter,List.mem_range];constructor
 ·rintro⟨k,⟨h1,h2⟩,rfl⟩; exact⟨k,h1,h2,rfl⟩
 ·rintro⟨k,h1,h2,rfl⟩; exact⟨k,⟨h1,h2⟩,rfl⟩
theorem FY(M:aP)(i:Nat):(M.gone i).Pairwise (· < ·):=by unfold aP.gone;rw[List.pairwise_map];exact(List.Pairwise.filter _ List.pairwise_lt_range).imp fun h=>by simpa using h
theorem xG(M:aP)(i:Nat):∀x ∈ M.gone i,0<=x/\x<2352:=fun x hx=>by obtain⟨k,h,_,rfl⟩:=(pI M i x).1 hx; omega
theorem Qe{l m:List Int}(hl:l.Pairwise (· < ·))(hm:m.Pairwise (· < ·))(h:∀z,z ∈ l↔z ∈ m):l=m:=by
 have hln:l.Nodup:=hl.imp fun h e=>by omega
 have hmn:m.Nodup:=hm.imp fun h e=>by omega
 exact((List.perm_ext_iff_of_nodup hln hmn).2 h).eq_of_pairwise (le:=(·<=·)) (fun a b _ _ h1 h2=>by omega) (hl.imp Int.le_of_lt) (hm.imp Int.le_of_lt)
theorem nP(M:aP)(i:Nat):(M.out i).length=2352:=by simp[aP.out]
end oH
section
open Go.ChangeShapes Go.WideShapes Go.ChangeAt Go.RowKit
section
variable {H:Type} {enc:TypeId×Value->H} {P:Program} {w:World} {base b0:Nat} {held:Bool}
end
theorem acH{a:Int}(h:(Lit.int .u8 a).wf=true):0<=a/\a<=255:=by simpa[Lit.wf,IntKind.min,IntKind.max,IntKind.signed,IntKind.bits]using h
theorem abq{a:Int}(h:(Lit.int .u8 a).wf=true):∃n:Nat,a=n/\n<256:=by have:=acH h;exact⟨a.toNat,by omega,by omega⟩
end
section
open Go Go.RowKit
section
variable {F:Fence} {n:Nat} {P:Program}
def Gives(F:Fence)(n:Nat)(P:Program)(gf:Nat)(lb:Array Value)(N:Nat)(G:Nat->Value->World->Prop)(w:World):Prop:=
 ∀(l:Nat)(J:Nat->World->Prop)(Jx:World->Prop)(W:World),Below w.heap.size w W->(∀k A A',J k A->Below A.heap.size A A'->J k A')->
   (∀k v A,k<N->J k A->G k v A->YieldAt F (n - 1) P l #[v] A fun e A'=>(e=.returned (.bool true)/\J (k+1) A'/\A.heap.size<=A'.heap.size)\/(e=.returned (.bool false)/\Jx A'))->
   J 0 W->CallsIn F n P gf (#[.func (.yield l) #[] #[]]++lb) W fun e W'=>(∃v,e=.returned v)/\(J N W'\/Jx W')
theorem lQ(W:World)(l:Nat)(o:Obj):(W.putObj l o).heap.size=W.heap.size:=by simp[World.putObj]
def DY(B:Nat)(I:Nat->World->Prop)(Ix:Code->World->Prop)(k:Nat)(W:World):Exit->Act->World->Prop
 | .normal,_,W'=>KeepsFrom B W W'/\I (k+1) W'
 | .ret,_,W'=>KeepsFrom B W W'/\Ix .ret W'
 | .exit id,_,W'=>KeepsFrom B W W'/\Ix (.exit id) W'
 | .goto t,_,W'=>KeepsFrom B W W'/\Ix (.goto t) W'
 | _,_,_=>False
def dJ(B:Nat)(p:World->Prop):Prop:=OwnFrom B fun(_:Unit) W=>p W
theorem dJ.grown{B:Nat}{p:World->Prop}(h:dJ B p){W W':World}{row:Option Nat}(hp:p W)(hg:W.grownBy W' row)(hr:∀r,row=some r->B<=r/\∃o:Obj,W.heap[r]? = some o/\o.isCells=false):p W':=h () W W' row hp hg hr
theorem dJ.below{B:Nat}{p:World->Prop}(h:dJ B p){W W':World}(hp:p W)(hb:Below W.heap.size W W'):p W':=
 h.grown hp (row:=none) ⟨hb.os,hb.tape,hb.output,hb.size,fun k hk _=>hb.block k hk⟩ (fun r e=>by cases e)
theorem dJ.putObj{B l:Nat}{p:World->Prop}(h:dJ B p){W:World}{o:Obj}(o':Obj)(hp:p W)(hB:B<=l)(hl:W.heap[l]? = some o)(ho:o.isCells=false):p (W.putObj l o'):=OwnFrom.putObj (s:=()) h o' hp hB hl ho
theorem dJ.and{B:Nat}{p q:World->Prop}(h:dJ B p)(h':dJ B q):dJ B fun W=>p W/\q W:=OwnFrom.and h h'
theorem dJ.const(B:Nat)(p:Prop):dJ B fun _=>p:=fun _ _ _ _ h _ _=>h
theorem vX{g:Operand}{ps:Array Tmp}{assign body:Code}{Q:Exit->Act->World->Prop}{a:Act}{w:World}
 (hro:F.round=none)(h1:1<=n){gf:Nat}{lb:Array Value}(hg:a.eval g=.func (.func gf) #[] lb)(hFg:F.fn gf)(eg:∀args w,(callFunc gf args).run P w=.ok (.enter gf args) w)
 {N:Nat}{G:Nat->Value->World->Prop}(hseq:Gives F (n - 1) P gf lb N G w)(hps:ps.size=1)
 (I:Nat->World->Prop)(Ix:Code->World->Prop)(A:Nat->Value->Act->World->Prop)
 (hI:∀k,dJ w.heap.size (I k))(hIx:∀c,dJ w.heap.size (Ix c))(hA:∀k v a',dJ w.heap.size (A k v a'))(h0:I 0 w)
 (hassign:∀(l k:Nat)(v:Value)(W:World)(K:Act->World->Prop),k<N->I k W->G k v W->(∀a' W',KeepsFrom w.heap.size W W'->I k W'->A k v a' W'->K a' W')->
  assign.wpIn (F.inRound l) (n - 1 - 1) P (Exit.then K (fun _ _ _=>False)) { tmps:=(ps.zip #[v]).foldl (fun t (p,v)=>t.setIfInBounds p v) a.tmps,defers:=[] } W)
 (hbody:∀(l k:Nat)(v:Value)(a':Act)(W:World),w.heap.size<=l->(∃r,W.heap[l]? = some (.loop r))->k<N->I k W->A k v a' W->body.wpIn (F.inRound l) (n - 1 - 1) P (DY w.heap.size I Ix k W) a' W)
 (hdone:∀(D:Nat)(W:World),w.heap.size<=D->I N W->W.heap[D]? = some (.deferred (some []))->Q .normal { a with defers:={ target:=.collected D,args:=#[] } :: a.defers } W)
 (hstop:∀(D:Nat)(c:Code)(W:World),w.heap.size<=D->Ix c W->W.heap[D]? = some (.deferred (some []))->c.wpIn F n P Q { a with defers:={ target:=.collected D,args:=#[] } :: a.defers } W):
 (Code.rangeFunc g ps assign body).wpIn F n P Q a w:=by
 refine wpIn_rangeFunc fun fn hfn=>?_
 rw[hro];obtain⟨B,hB⟩:∃B,B=w.heap.size:=⟨_,rfl⟩;obtain⟨rec,hrec⟩:∃rec:LoopState->Option Code->Loop,rec=fun st pe=>{ state:=st,pending:=pe,fn,tmps:=a.tmps,params:=ps,assign,body,defers:=w.heap.size }:=⟨_,rfl⟩
 have hs1:∀st pe,(rec st pe).state=st:=fun _ _=>by rw[hrec]
 have hs2:∀st pe,(rec st pe).pending=pe:=fun _ _=>by rw[hrec]
 have hs3:∀st pe st' pe',{ rec st pe with state:=st',pending:=pe' } = rec st' pe':=fun _ _ _ _=>by rw[hrec]
 have hs4:∀st pe st',{ rec st pe with state:=st' } = rec st' pe:=fun _ _ _=>by rw[hrec]
 obtain⟨W1,hW1⟩:∃W1,W1=(w.alloc (.deferred (some []))).alloc (.loop (rec .ready none)):=⟨_,rfl⟩;have hbw:Below w.heap.size w W1:=by rw[hW1]; exact((zB _ w).alloc (zl _) _).alloc (by simp) _
 have hL1:W1.heap[B+1]? = some (.loop (rec .ready none)):=by have:=World.alloc_heap_new (w.alloc (.deferred (some []))) (.loop (rec .ready none));rw[World.size_alloc]at this;rw[hW1,hB]; exact this
 have hD1:W1.heap[B]? = some (.deferred (some [])):=by rw[hW1,hB]; exact(Below.heap_alloc _ _ _ (by simp)).trans (World.alloc_heap_new w _)
 have hput:∀(r:Loop)(W:World),B+1<W.heap.size->(W.putObj (B+1) (.loop r)).heap[B+1]? = some (.loop r)/\(∀k,k≠B+1->(W.putObj (B+1) (.loop r)).heap[k]? = W.heap[k]?):=
  fun r W h=>⟨World.putObj_heap_same h,fun k hk=>World.putObj_heap_other hk⟩
 refine⟨B+1,[{ target:=.collected B,args:=#[] }],W1,{ target:=.fn (.func gf) lb,args:=#[.func (.yield (B+1)) #[] #[]] },W1,gf,#[.func (.yield (B+1)) #[] #[]]++lb,W1,?_,?_,?_,?_,fun _=>h1,?_⟩
 ·rw[hW1,hrec,hB]; exact run_enterLoop_outer _ _ _ _ _
 ·simp only[resolve,hg];simp[go_sem]
 ·intro f' hf';simp[Target.leads]at hf';exact hf' ▸ hFg
 ·simp[invoke,go_sem,eg]
 ·refine(hseq (B+1) (fun k W=>I k W/\W.heap[B+1]? = some (.loop (rec .ready none))/\W.heap[B]? = some (.deferred (some [])))
  (fun W=>∃c,Ix c W/\W.heap[B+1]? = some (.loop (rec .done (some c)))/\W.heap[B]? = some (.deferred (some []))) W1 hbw ?_ ?_ ⟨(hI 0).below h0 hbw,hL1,hD1⟩).mono ?_
  ·rintro k X Y ⟨hi,hl,hd⟩ hb;exact⟨(hI k).below hi hb,(hb.block _ (Array.getElem?_eq_some_iff.1 hl).1).trans hl,(hb.block _ (Array.getElem?_eq_some_iff.1 hd).1).trans hd⟩
  ·rintro k v W hk ⟨hi,hl,hd⟩ hgv;have hy:=run_yield (P:=P) (args:=#[v]) hl (by rw[hrec]; exact hps.symm);rw[hrec]at hy;refine⟨fn,_,assign,body,hy,roundIn_of_wpIn hfn (hassign _ k v W _ hk hi hgv ?_)⟩;intro a' Wa hka hia hax;have hla:=hka.same _ _ (by omega) hl rfl;have hda:=hka.same _ _ (by omega) hd rfl;have hlt:=(Array.getElem?_eq_some_iff.1 hla).1;refine⟨_,run_beginRound hla (hs1 _ _),?_⟩;rw[hs4];obtain⟨p1,p2⟩:=hput (rec .busy none) Wa hlt;refine wpIn_mono (hbody _ k v a' _ (by omega) ⟨_,p1⟩ hk ((hI k).putObj _ hia (by omega) hla rfl) ((hA k v a').putObj _ hax (by omega) hla rfl)) ?_;have fin:∀(jump:Option Code)(W3:World),KeepsFrom w.heap.size (Wa.putObj (B+1) (.loop (rec .busy none))) W3->
    (Instr.endRound (B+1) jump).run P W3=.ok (.bool jump.isNone) (W3.putObj (B+1) (.loop (rec (if jump.isNone then .ready else .done) jump)))/\W3.heap[B+1]? = some (.loop (rec .busy none))/\
    (W3.putObj (B+1) (.loop (rec (if jump.isNone then .ready else .done) jump))).heap[B+1]? = some (.loop (rec (if jump.isNone then .ready else .done) jump))/\
    (W3.putObj (B+1) (.loop (rec (if jump.isNone then .ready else .done) jump))).heap[B]? = some (.deferred (some [])):=fun jump W3 hk3=>by
    have hl3:=hk3.same _ _ (by omega) p1 rfl;have hd3:=hk3.same _ _ (by omega) ((p2 B (by omega)).trans hda) rfl;have hr:=run_endRound (P:=P) jump hl3;rw[hs3]at hr;obtain⟨q1,q2⟩:=hput (rec (if jump.isNone then .ready else .done) jump) W3 (Array.getElem?_eq_some_iff.1 hl3).1;exact⟨hr,hl3,q1,(q2 B (by omega)).trans hd3⟩
   have jmp:∀(c:Code)(W3:World),KeepsFrom w.heap.size (Wa.putObj (B+1) (.loop (rec .busy none))) W3->Ix c W3->∃v w',(Instr.endRound (B+1) (some c)).run P W3=.ok v w'/\
    ((Ending.returned v=.returned (.bool true)/\(I (k+1) w'/\w'.heap[B+1]? = some (.loop (rec .ready none))/\w'.heap[B]? = some (.deferred (some [])))/\W.heap.size<=w'.heap.size)\/
      (Ending.returned v=.returned (.bool false)/\∃c,Ix c w'/\w'.heap[B+1]? = some (.loop (rec .done (some c)))/\w'.heap[B]? = some (.deferred (some [])))):=fun c W3 hk3 hx=>by
    obtain⟨hr,hl3,hl4,hd4⟩:=fin (some c) W3 hk3;exact⟨_,_,hr,.inr ⟨rfl,c,(hIx c).putObj _ hx (by omega) hl3 rfl,hl4,hd4⟩⟩
   intro e a3 W3 hp;cases e with
   | normal=>
     obtain⟨hr,hl3,hl4,hd4⟩:=fin none W3 hp.1;have z1:=hka.size;have z2:=hp.1.size;rw[lQ]at z2;exact⟨_,_,hr,.inl ⟨rfl,⟨(hI (k+1)).putObj _ hp.2 (by omega) hl3 rfl,hl4,hd4⟩,by rw[lQ]; omega⟩⟩
   | ret=>exact jmp _ W3 hp.1 hp.2
   | exit id=>exact jmp _ W3 hp.1 hp.2
   | goto t=>exact jmp _ W3 hp.1 hp.2
   | panic ch=>exact hp.elim
   | outgrown=>exact hp.elim
  ·rintro e W2 ⟨⟨v,rfl⟩,(⟨hi,hl,hd⟩ | ⟨c,hx,hl,hd⟩)⟩
   ·have hr:=run_endLoop (P:=P) hl (by rw[hs1]; simp);rw[hs2]at hr;refine⟨none,_,hr,?_⟩;rw[hB]at hd hl ⊢;exact hdone _ _ (zl _) ((hI N).putObj _ hi (by omega) hl rfl) ((World.putObj_heap_other (by omega)).trans hd)
   ·have hr:=run_endLoop (P:=P) hl (by rw[hs1]; simp);rw[hs2]at hr;refine⟨some c,_,hr,?_⟩;rw[hB]at hd hl ⊢;exact hstop _ c _ (zl _) ((hIx c).putObj _ hx (by omega) hl rfl) ((World.putObj_heap_other (by omega)).trans hd)
theorem uF{g:Operand}{ps:Array Tmp}{assign body:Code}{Q:Exit->Act->World->Prop}{a:Act}{w:World}
 (hro:F.round=none)(h1:1<=n){gf:Nat}{lb:Array Value}(hg:a.eval g=.func (.func gf) #[] lb)(hFg:F.fn gf)(eg:∀args w,(callFunc gf args).run P w=.ok (.enter gf args) w)
 {N:Nat}{G:Nat->Value->World->Prop}(hseq:Gives F (n - 1) P gf lb N G w)(hps:ps.size=1)
 (I:Nat->World->Prop)(Ix:Code->World->Prop)(a₁:Value->Act)
 (hI:∀k,dJ w.heap.size (I k))(hIx:∀c,dJ w.heap.size (Ix c))(hG:∀k v,dJ w.heap.size (G k v))(h0:I 0 w)
 (hassign:∀(l:Nat)(v:Value)(W:World)(K:Act->World->Prop),(∃k,G k v W)->K (a₁ v) W->
  assign.wpIn (F.inRound l) (n - 1 - 1) P (Exit.then K (fun _ _ _=>False)) { tmps:=(ps.zip #[v]).foldl (fun t (p,v)=>t.setIfInBounds p v) a.tmps,defers:=[] } W)
 (hbody:∀(l k:Nat)(v:Value)(W:World),k<N->I k W->G k v W->body.wpIn (F.inRound l) (n - 1 - 1) P (DY w.heap.size I Ix k W) (a₁ v) W)
 (hdone:∀(D:Nat)(W:World),w.heap.size<=D->I N W->W.heap[D]? = some (.deferred (some []))->Q .normal { a with defers:={ target:=.collected D,args:=#[] } :: a.defers } W)
 (hstop:∀(D:Nat)(c:Code)(W:World),w.heap.size<=D->Ix c W->W.heap[D]? = some (.deferred (some []))->c.wpIn F n P Q { a with defers:={ target:=.collected D,args:=#[] } :: a.defers } W):
 (Code.rangeFunc g ps assign body).wpIn F n P Q a w:=
 vX hro h1 hg hFg eg hseq hps I Ix (fun k v a' W=>a'=a₁ v/\G k v W) hI hIx (fun k v a'=>(dJ.const _ (a'=a₁ v)).and (hG k v)) h0
  (fun l k v W K _ hi hgv hK=>hassign l v W K ⟨k,hgv⟩ (hK _ _ (KeepsFrom.refl _ _) hi ⟨rfl,hgv⟩))
  (fun l k v a' W _ _ hk hi ⟨e,hgv⟩=>by subst e; exact hbody l k v W hk hi hgv) hdone hstop
end
section
variable {F:Fence} {n:Nat} {P:Program}
def IK(F:Fence)(n:Nat)(P:Program)(gf:Nat)(lb:Array Value)(N:Nat)(G:Nat->Value->World->Prop)(w:World):Prop:=
 ∀(l:Nat)(J:Nat->World->Prop)(Jx:World->Prop)(W:World),Below w.heap.size w W->(∀A,¬ J N A)->(∀k A A',J k A->Below A.heap.size A A'->J k A')->
   (∀k v A,k<N->J k A->G k v A->YieldAt F (n - 1) P l #[v] A fun e A'=>(e=.returned (.bool true)/\J (k+1) A'/\A.heap.size<=A'.heap.size)\/(e=.returned (.bool false)/\Jx A'))->
   J 0 W->CallsIn F n P gf (#[.func (.yield l) #[] #[]]++lb) W fun e W'=>(∃v,e=.returned v)/\Jx W'
theorem uG{g:Operand}{ps:Array Tmp}{assign body:Code}{Q:Exit->Act->World->Prop}{a:Act}{w:World}
 (hro:F.round=none)(h1:1<=n){gf:Nat}{lb:Array Value}(hg:a.eval g=.func (.func gf) #[] lb)(hFg:F.fn gf)(eg:∀args w,(callFunc gf args).run P w=.ok (.enter gf args) w)
 {N:Nat}{G:Nat->Value->World->Prop}(hseq:IK F (n - 1) P gf lb N G w)(hps:ps.size=1)
 (I:Nat->World->Prop)(Ix:Code->World->Prop)(A:Nat->Value->Act->World->Prop)
 (hI:∀k,dJ w.heap.size (I k))(hIx:∀c,dJ w.heap.size (Ix c))(hA:∀k v a',dJ w.heap.size (A k v a'))(h0:I 0 w)(hN:∀W,¬ I N W)
 (hassign:∀(l k:Nat)(v:Value)(W:World)(K:Act->World->Prop),k<N->I k W->G k v W->(∀a' W',KeepsFrom w.heap.size W W'->I k W'->A k v a' W'->K a' W')->
  assign.wpIn (F.inRound l) (n - 1 - 1) P (Exit.then K (fun _ _ _=>False)) { tmps:=(ps.zip #[v]).foldl (fun t (p,v)=>t.setIfInBounds p v) a.tmps,defers:=[] } W)
 (hbody:∀(l k:Nat)(v:Value)(a':Act)(W:World),w.heap.size<=l->(∃r,W.heap[l]? = some (.loop r))->k<N->I k W->A k v a' W->body.wpIn (F.inRound l) (n - 1 - 1) P (DY w.heap.size I Ix k W) a' W)
 (hstop:∀(D:Nat)(c:Code)(W:World),w.heap.size<=D->Ix c W->W.heap[D]? = some (.deferred (some []))->c.wpIn F n P Q { a with defers:={ target:=.collected D,args:=#[] } :: a.defers } W):
 (Code.rangeFunc g ps assign body).wpIn F n P Q a w:=by
 refine wpIn_rangeFunc fun fn hfn=>?_
 rw[hro];obtain⟨B,hB⟩:∃B,B=w.heap.size:=⟨_,rfl⟩;obtain⟨rec,hrec⟩:∃rec:LoopState->Option Code->Loop,rec=fun st pe=>{ state:=st,pending:=pe,fn,tmps:=a.tmps,params:=ps,assign,body,defers:=w.heap.size }:=⟨_,rfl⟩
 have hs1:∀st pe,(rec st pe).state=st:=fun _ _=>by rw[hrec]
 have hs2:∀st pe,(rec st pe).pending=pe:=fun _ _=>by rw[hrec]
 have hs3:∀st pe st' pe',{ rec st pe with state:=st',pending:=pe' } = rec st' pe':=fun _ _ _ _=>by rw[hrec]
 have hs4:∀st pe st',{ rec st pe with state:=st' } = rec st' pe:=fun _ _ _=>by rw[hrec]
 obtain⟨W1,hW1⟩:∃W1,W1=(w.alloc (.deferred (some []))).alloc (.loop (rec .ready none)):=⟨_,rfl⟩;have hbw:Below w.heap.size w W1:=by rw[hW1]; exact((zB _ w).alloc (zl _) _).alloc (by simp) _
 have hL1:W1.heap[B+1]? = some (.loop (rec .ready none)):=by have:=World.alloc_heap_new (w.alloc (.deferred (some []))) (.loop (rec .ready none));rw[World.size_alloc]at this;rw[hW1,hB]; exact this
 have hD1:W1.heap[B]? = some (.deferred (some [])):=by rw[hW1,hB]; exact(Below.heap_alloc _ _ _ (by simp)).trans (World.alloc_heap_new w _)
 have hput:∀(r:Loop)(W:World),B+1<W.heap.size->(W.putObj (B+1) (.loop r)).heap[B+1]? = some (.loop r)/\(∀k,k≠B+1->(W.putObj (B+1) (.loop r)).heap[k]? = W.heap[k]?):=
  fun r W h=>⟨World.putObj_heap_same h,fun k hk=>World.putObj_heap_other hk⟩
 refine⟨B+1,[{ target:=.collected B,args:=#[] }],W1,{ target:=.fn (.func gf) lb,args:=#[.func (.yield (B+1)) #[] #[]] },W1,gf,#[.func (.yield (B+1)) #[] #[]]++lb,W1,?_,?_,?_,?_,fun _=>h1,?_⟩
 ·rw[hW1,hrec,hB]; exact run_enterLoop_outer _ _ _ _ _
 ·simp only[resolve,hg];simp[go_sem]
 ·intro f' hf';simp[Target.leads]at hf';exact hf' ▸ hFg
 ·simp[invoke,go_sem,eg]
 ·refine(hseq (B+1) (fun k W=>I k W/\W.heap[B+1]? = some (.loop (rec .ready none))/\W.heap[B]? = some (.deferred (some [])))
  (fun W=>∃c,Ix c W/\W.heap[B+1]? = some (.loop (rec .done (some c)))/\W.heap[B]? = some (.deferred (some []))) W1 hbw (fun A h=>hN A h.1) ?_ ?_ ⟨(hI 0).below h0 hbw,hL1,hD1⟩).mono ?_
  ·rintro k X Y ⟨hi,hl,hd⟩ hb;exact⟨(hI k).below hi hb,(hb.block _ (Array.getElem?_eq_some_iff.1 hl).1).trans hl,(hb.block _ (Array.getElem?_eq_some_iff.1 hd).1).trans hd⟩
  ·rintro k v W hk ⟨hi,hl,hd⟩ hgv;have hy:=run_yield (P:=P) (args:=#[v]) hl (by rw[hrec]; exact hps.symm);rw[hrec]at hy;refine⟨fn,_,assign,body,hy,roundIn_of_wpIn hfn (hassign _ k v W _ hk hi hgv ?_)⟩;intro a' Wa hka hia hax;have hla:=hka.same _ _ (by omega) hl rfl;have hda:=hka.same _ _ (by omega) hd rfl;have hlt:=(Array.getElem?_eq_some_iff.1 hla).1;refine⟨_,run_beginRound hla (hs1 _ _),?_⟩;rw[hs4];obtain⟨p1,p2⟩:=hput (rec .busy none) Wa hlt;refine wpIn_mono (hbody _ k v a' _ (by omega) ⟨_,p1⟩ hk ((hI k).putObj _ hia (by omega) hla rfl) ((hA k v a').putObj _ hax (by omega) hla rfl)) ?_;have fin:∀(jump:Option Code)(W3:World),KeepsFrom w.heap.size (Wa.putObj (B+1) (.loop (rec .busy none))) W3->
    (Instr.endRound (B+1) jump).run P W3=.ok (.bool jump.isNone) (W3.putObj (B+1) (.loop (rec (if jump.isNone then .ready else .done) jump)))/\W3.heap[B+1]? = some (.loop (rec .busy none))/\
    (W3.putObj (B+1) (.loop (rec (if jump.isNone then .ready else .done) jump))).heap[B+1]? = some (.loop (rec (if jump.isNone then .ready else .done) jump))/\
    (W3.putObj (B+1) (.loop (rec (if jump.isNone then .ready else .done) jump))).heap[B]? = some (.deferred (some [])):=fun jump W3 hk3=>by
    have hl3:=hk3.same _ _ (by omega) p1 rfl;have hd3:=hk3.same _ _ (by omega) ((p2 B (by omega)).trans hda) rfl;have hr:=run_endRound (P:=P) jump hl3;rw[hs3]at hr;obtain⟨q1,q2⟩:=hput (rec (if jump.isNone then .ready else .done) jump) W3 (Array.getElem?_eq_some_iff.1 hl3).1;exact⟨hr,hl3,q1,(q2 B (by omega)).trans hd3⟩
   have jmp:∀(c:Code)(W3:World),KeepsFrom w.heap.size (Wa.putObj (B+1) (.loop (rec .busy none))) W3->Ix c W3->∃v w',(Instr.endRound (B+1) (some c)).run P W3=.ok v w'/\
    ((Ending.returned v=.returned (.bool true)/\(I (k+1) w'/\w'.heap[B+1]? = some (.loop (rec .ready none))/\w'.heap[B]? = some (.deferred (some [])))/\W.heap.size<=w'.heap.size)\/
      (Ending.returned v=.returned (.bool false)/\∃c,Ix c w'/\w'.heap[B+1]? = some (.loop (rec .done (some c)))/\w'.heap[B]? = some (.deferred (some [])))):=fun c W3 hk3 hx=>by
    obtain⟨hr,hl3,hl4,hd4⟩:=fin (some c) W3 hk3;exact⟨_,_,hr,.inr ⟨rfl,c,(hIx c).putObj _ hx (by omega) hl3 rfl,hl4,hd4⟩⟩
   intro e a3 W3 hp;cases e with
   | normal=>
     obtain⟨hr,hl3,hl4,hd4⟩:=fin none W3 hp.1;have z1:=hka.size;have z2:=hp.1.size;rw[lQ]at z2;exact⟨_,_,hr,.inl ⟨rfl,⟨(hI (k+1)).putObj _ hp.2 (by omega) hl3 rfl,hl4,hd4⟩,by rw[lQ]; omega⟩⟩
   | ret=>exact jmp _ W3 hp.1 hp.2
   | exit id=>exact jmp _ W3 hp.1 hp.2
   | goto t=>exact jmp _ W3 hp.1 hp.2
   | panic ch=>exact hp.elim
   | outgrown=>exact hp.elim
  ·rintro e W2 ⟨⟨v,rfl⟩,c,hx,hl,hd⟩;have hr:=run_endLoop (P:=P) hl (by rw[hs1]; simp);rw[hs2]at hr;refine⟨some c,_,hr,?_⟩;rw[hB]at hd hl ⊢;exact hstop _ c _ (zl _) ((hIx c).putObj _ hx (by omega) hl rfl) ((World.putObj_heap_other (by omega)).trans hd)
theorem sN{g:Operand}{ps:Array Tmp}{assign body:Code}{Q:Exit->Act->World->Prop}{a:Act}{w:World}
 (hro:F.round=none)(h1:1<=n){gf:Nat}{lb:Array Value}(hg:a.eval g=.func (.func gf) #[] lb)(hFg:F.fn gf)(eg:∀args w,(callFunc gf args).run P w=.ok (.enter gf args) w)
 {N:Nat}{G:Nat->Value->World->Prop}(hseq:IK F (n - 1) P gf lb N G w)(hps:ps.size=1)
 (I:Nat->World->Prop)(Ix:Code->World->Prop)(a₁:Value->Act)
 (hI:∀k,dJ w.heap.size (I k))(hIx:∀c,dJ w.heap.size (Ix c))(hG:∀k v,dJ w.heap.size (G k v))(h0:I 0 w)(hN:∀W,¬ I N W)
 (hassign:∀(l:Nat)(v:Value)(W:World)(K:Act->World->Prop),(∃k,G k v W)->K (a₁ v) W->
  assign.wpIn (F.inRound l) (n - 1 - 1) P (Exit.then K (fun _ _ _=>False)) { tmps:=(ps.zip #[v]).foldl (fun t (p,v)=>t.setIfInBounds p v) a.tmps,defers:=[] } W)
 (hbody:∀(l k:Nat)(v:Value)(W:World),k<N->I k W->G k v W->body.wpIn (F.inRound l) (n - 1 - 1) P (DY w.heap.size I Ix k W) (a₁ v) W)
 (hstop:∀(D:Nat)(c:Code)(W:World),w.heap.size<=D->Ix c W->W.heap[D]? = some (.deferred (some []))->c.wpIn F n P Q { a with defers:={ target:=.collected D,args:=#[] } :: a.defers } W):
 (Code.rangeFunc g ps assign body).wpIn F n P Q a w:=
 uG hro h1 hg hFg eg hseq hps I Ix (fun k v a' W=>a'=a₁ v/\G k v W) hI hIx (fun k v a'=>(dJ.const _ (a'=a₁ v)).and (hG k v)) h0 hN
  (fun l k v W K _ hi hgv hK=>hassign l v W K ⟨k,hgv⟩ (hK _ _ (KeepsFrom.refl _ _) hi ⟨rfl,hgv⟩))
  (fun l k v a' W _ _ hk hi ⟨e,hgv⟩=>by subst e; exact hbody l k v W hk hi hgv) hstop
end
end
end Go.Proofs.YtfnehkmhcmkhjaaGreat
