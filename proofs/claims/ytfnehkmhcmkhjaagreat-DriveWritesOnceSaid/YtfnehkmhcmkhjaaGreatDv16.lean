/- Parts:XCw XFb XFc XFd XFe XFf XFg XWn -/
import Derived.Test.YtfnehkmhcmkhjaaGreatDvAl
import Derived.Test.YtfnehkmhcmkhjaaGreatDv11
import Derived.Test.YtfnehkmhcmkhjaaGreatDv07
set_option maxRecDepth 100000
set_option maxHeartbeats 8000000
set_option linter.unusedVariables false
namespace Go.Proofs.YtfnehkmhcmkhjaaGreat
open Tryz
namespace C9
open Go.RowKit W8
theorem sizeInt9:(prog.info? 3).map (·.size)=some 1:=by kernel_rfl
theorem infoInt9:(prog.info? 3).map (fun i=>(i.zero,i.size,i.bytes))=some (some (.int .i64 0),1,8):=by kernel_rfl
def scz:Sc:=⟨0,0⟩
def scc(s:Sc):List Value:=[.int .i64 s.f,.int .i64 s.c]
def scA(l:List Sc)(i:Nat):Sc:=bF scz l i
def Wf(s:Sc):Prop:=(-9223372036854775808<=s.f/\s.f<=9223372036854775807)/\(-9223372036854775808<=s.c/\s.c<=9223372036854775807)
def aai(w:World)(v:Value)(l:List Sc):Prop:=dX scz scc 2 w v l
end C9
namespace oH
open Go.RowKit Go.Maps C9
open W8 (is)
def QV(w:World)(b:Option Nat)(f:Nat->Bool):Prop:=
 match b with
 | none=>∀k,f k=false
 | some b=>∃D:DataW Unit,w.ownsMap prog 3 (plainElem prog 4) b 2352 D/\∀x:Int,Maps.has D (.int .i64 x)=(decide (0<=x) && f x.toNat)
def QD(w:World)(b:Option Nat)(f:Nat->UInt8):Prop:=
 match b with
 | none=>∀k,f k=0
 | some b=>∃D:DataW Unit,w.ownsMap prog 3 (plainElem prog 5) b 2352 D/\(∀x:Int,Maps.has D (.int .i64 x)=true->0<=x/\x<2352)/\∀k:Nat,k<2352->D.atKey (.int .i64 k) (.lit (.int .u8 0))=.lit (.int .u8 (f k).toNat)
theorem QV.kept{w w':World}{b:Option Nat}{f:Nat->Bool}(h:QV w b f)(hk:∀c,b=some c->w'.heap[c]? = w.heap[c]?):QV w' b f:=by
 cases b with
 | none=>exact h
 | some b=>
   obtain⟨D,⟨es,clock,hb,F,hs,hD⟩,hf⟩:=h;exact⟨D,⟨es,clock,(hk b rfl).trans hb,F,hs,hD⟩,hf⟩
theorem QD.kept{w w':World}{b:Option Nat}{f:Nat->UInt8}(h:QD w b f)(hk:∀c,b=some c->w'.heap[c]? = w.heap[c]?):QD w' b f:=by
 cases b with
 | none=>exact h
 | some b=>
   obtain⟨D,⟨es,clock,hb,F,hs,hD⟩,hf⟩:=h;exact⟨D,⟨es,clock,(hk b rfl).trans hb,F,hs,hD⟩,hf⟩
theorem QV.map{w:World}{b:Nat}{f:Nat->Bool}(h:QV w (some b) f):∃es clock,w.heap[b]? = some (.map es clock):=by obtain⟨D,⟨es,clock,hb,F,hs,hD⟩,hf⟩:=h;exact⟨es,clock,hb⟩
theorem QD.map{w:World}{b:Nat}{f:Nat->UInt8}(h:QD w (some b) f):∃es clock,w.heap[b]? = some (.map es clock):=by obtain⟨D,⟨es,clock,hb,F,hs,hD⟩,hf⟩:=h;exact⟨es,clock,hb⟩
def gW(n:Nat)(scr:List Sc)(i:Nat):List Int:=((List.range 2352).filter (Bv n scr i)).map Int.ofNat
def LoM(w:World)(b:Option Nat)(n:Nat)(scr:List Sc):Prop:=
 match b with
 | none=>∀i,i<n->gW n scr i = []
 | some b=>∃N,N<=100000000/\∃D:DataW Value,w.ownsMap prog 3 Mp.Kz b N D/\∀i,i<n->∃v,D.atKey (.int .i64 (i:Nat)) (.held (.slice none 0 0))=.held v/\uS w v (gW n scr i)
structure SM where
 s:CQ
 e:Option Nat
 c:Option Nat
def jS:SM:=⟨blank,none,none⟩
def rH(x:SM):List Value:=[.int .i64 x.s.st,.int .i64 x.s.cnt,.string (str x.s.raw),.map x.e,.map x.c]
theorem qK(x:SM):(rH x).length=5:=rfl
def SM.bk(x:SM)(p:Bool):Option Nat:=if p=true then x.e else x.c
def SM.W(w:World)(p:Bool)(x:SM):Prop:=if p=true then QV w x.e x.s.er else QD w x.c x.s.ch
theorem SM.W.kept{w w':World}{p:Bool}{x:SM}(h:x.W w p)(hk:∀c,x.bk p=some c->w'.heap[c]? = w.heap[c]?):x.W w' p:=by
 cases p with
 | true=>exact QV.kept h hk
 | false=>exact QD.kept h hk
theorem SM.W.map{w:World}{p:Bool}{x:SM}{b:Nat}(h:x.W w p)(hb:x.bk p=some b):∃es clock,w.heap[b]? = some (.map es clock):=by
 cases p with
 | true=>
   have e:x.e=some b:=hb;have h':QV w x.e x.s.er:=h;rw[e]at h';exact h'.map
 | false=>
   have e:x.c=some b:=hb;have h':QD w x.c x.s.ch:=h;rw[e]at h';exact h'.map
structure Lay where
 S:List SM
 gs:Nat
 sp:List Value
 cap:Nat
 vs:Value
 lo:Option Nat
structure fE (w:World) (g:Nat) (L:Lay) (M:aP) (X R:Nat->Prop):Prop where
 secs:M.secs=L.S.map SM.s
 box:Bx w g 166 [.int .i64 M.kind,.int .i64 M.iU,.slice (some ⟨L.gs,0,none⟩) L.S.length L.cap,L.vs,.map L.lo]
 sec:Bx w L.gs 175 (fK rH L.S++L.sp)
 cap:L.S.length<=L.cap
 maps:∀i p,i<L.S.length->(bF jS L.S i).W w p
 inj:∀i j p q b,i<L.S.length->j<L.S.length->(bF jS L.S i).bk p=some b->(bF jS L.S j).bk q=some b->i=j/\p=q
 scr:∀w':World,(∀b,R b->w'.heap[b]? = w.heap[b]?)->aai w' L.vs M.scr
 lost:∀w':World,(∀b,R b->w'.heap[b]? = w.heap[b]?)->LoM w' L.lo M.n M.scr
 xg:X g
 xs:X L.gs
 xm:∀i p b,i<L.S.length->(bF jS L.S i).bk p=some b->X b
 lt:∀b,X b\/R b->b<w.heap.size
 dis:∀b,X b->¬ R b
 wf:∀s ∈ M.scr,Wf s
 lor:∀b,L.lo=some b->R b
def gZ(w:World)(g:Nat)(M:aP)(X R:Nat->Prop):Prop:=∃L,fE w g L M X R
structure Ch (X R X2 R2:Nat->Prop) (w w':World):Prop where
 os:w'.os=w.os
 tape:w'.tape=w.tape
 output:w'.output=w.output
 size:w.heap.size<=w'.heap.size
 block:∀b,b<w.heap.size->¬ X b->w'.heap[b]? = w.heap[b]?
 x:∀b,X2 b->X b\/w.heap.size<=b
 r:∀b,R2 b->R b\/w.heap.size<=b
section
variable {X R X2 R2 X3 R3:Nat->Prop} {w w' w2:World} {g:Nat} {L:Lay} {M:aP}
theorem Ch.of(h:Below w.heap.size w w'):Ch X R X R w w':=⟨h.os,h.tape,h.output,h.size,fun b hb _=>h.block b hb,fun _ h=>.inl h,fun _ h=>.inl h⟩
theorem Ch.refl:Ch X R X R w w:=.of (zB _ _)
theorem Ch.trans(h:Ch X R X2 R2 w w')(k:Ch X2 R2 X3 R3 w' w2):Ch X R X3 R3 w w2:=
 ⟨k.os.trans h.os,k.tape.trans h.tape,k.output.trans h.output,zT h.size k.size,
  fun b hb hx=>(k.block b (zL hb h.size) (fun h2=>(h.x b h2).elim hx (fun h3=>by omega))).trans (h.block b hb hx),
  fun b h3=>(k.x b h3).elim (h.x b) (fun h4=>.inr (zT h.size h4)),fun b h3=>(k.r b h3).elim (h.r b) (fun h4=>.inr (zT h.size h4))⟩
theorem fE.n(h:fE w g L M X R):L.S.length=M.n:=by unfold aP.n; rw[h.secs,List.length_map]
theorem fE.at_(h:fE w g L M X R)(i:Nat):(bF jS L.S i).s=M.sec i:=by unfold aP.sec bF;rw[h.secs,List.getElem?_map];cases L.S[i]? <;> rfl
theorem fE.keep(h:fE w g L M X R)(hs:w.heap.size<=w'.heap.size)(hk:∀b,X b\/R b->w'.heap[b]? = w.heap[b]?):fE w' g L M X R:=
 ⟨h.secs,(hk g (.inl h.xg)).trans h.box,(hk _ (.inl h.xs)).trans h.sec,h.cap,fun i p hi=>(h.maps i p hi).kept (fun c hc=>hk c (.inl (h.xm i p c hi hc))),h.inj,
  fun w2 h2=>h.scr w2 (fun b hb=>(h2 b hb).trans (hk b (.inr hb))),fun w2 h2=>h.lost w2 (fun b hb=>(h2 b hb).trans (hk b (.inr hb))),h.xg,h.xs,h.xm,fun b hb=>zL (h.lt b hb) hs,h.dis,h.wf,h.lor⟩
theorem fE.below(h:fE w g L M X R)(hb:Below w.heap.size w w'):fE w' g L M X R:=h.keep hb.size fun b hx=>hb.block b (h.lt b hx)
theorem gZ.below(h:gZ w g M X R)(hb:Below w.heap.size w w'):gZ w' g M X R:=by obtain⟨L,h⟩:=h; exact⟨L,h.below hb⟩
theorem fE.cells(h:fE w g L M X R):w.cell? ⟨g,0,none⟩=some (.int .i64 M.kind)/\w.cell? ⟨g,1,none⟩=some (.int .i64 M.iU)/\w.cell? ⟨g,2,none⟩=some (.slice (some ⟨L.gs,0,none⟩) L.S.length L.cap)/\w.cell? ⟨g,3,none⟩=some L.vs/\w.cell? ⟨g,4,none⟩=some (.map L.lo):=
 ⟨h.box.cell (i:=0) rfl,h.box.cell (i:=1) rfl,h.box.cell (i:=2) rfl,h.box.cell (i:=3) rfl,h.box.cell (i:=4) rfl⟩
theorem fE.gJ(h:fE w g L M X R){i j:Nat}(hi:i<L.S.length)(hj:j<5):w.cell? ⟨L.gs,i * 5+j,none⟩=(rH (bF jS L.S i))[j]?:=by
 have h1:=tN (d:=jS) qK L.S i j hi hj;have hl:i * 5+j<(fK rH L.S).length:=by rw[iM qK]; omega
 have h2:(fK rH L.S++L.sp)[i * 5+j]? = (rH (bF jS L.S i))[j]?:=by rw[List.getElem?_append_left hl,h1]
 have h3:(rH (bF jS L.S i))[j]? = some ((rH (bF jS L.S i))[j]'(by rw[qK]; exact hj)):=List.getElem?_eq_getElem _;rw[h3]at h2 ⊢;exact h.sec.cell h2
theorem fE.ne(h:fE w g L M X R):g≠L.gs:=fun e=>by have h1:=h.box;have h2:=h.sec;unfold Bx at h1 h2;rw[e,h2]at h1;simp only[Option.some.injEq,Obj.cells.injEq]at h1;exact absurd h1.2.1 (by decide)
theorem fE.abo(h:fE w g L M X R){i:Nat}{p:Bool}{b:Nat}(hi:i<L.S.length)(hb:(bF jS L.S i).bk p=some b):b≠g/\b≠L.gs:=by
 obtain⟨es,clock,hm⟩:=(h.maps i p hi).map hb;have h1:=h.box;have h2:=h.sec;unfold Bx at h1 h2;refine⟨fun e=>?_,fun e=>?_⟩
 ·rw[e,h1]at hm; simp at hm
 ·rw[e,h2]at hm; simp at hm
theorem fE.store(h:fE w g L M X R){i j:Nat}(hi:i<L.S.length)(hj:j<5)(u:Value)(x:SM)(hx:rH x=(rH (bF jS L.S i)).set j u)
 (hW:∀p,x.W w p)(hb:∀p b,x.bk p=some b->(bF jS L.S i).bk p=some b\/(¬ X b/\¬ R b/\b<w.heap.size))(hself:∀b,x.e=some b->x.c≠some b):
 fE (w.setCell ⟨L.gs,i * 5+j,none⟩ u) g { L with S:=L.S.set i x } (M.put i x.s) (fun b=>X b\/x.e=some b\/x.c=some b) R:=by
 have hne:∀k,k≠L.gs->(w.setCell ⟨L.gs,i * 5+j,none⟩ u).heap[k]? = w.heap[k]?:=fun k hk=>zh w _ _ k hk
 have acU:∀b,R b->(w.setCell ⟨L.gs,i * 5+j,none⟩ u).heap[b]? = w.heap[b]?:=fun b hR=>hne b fun e=>h.dis b (e ▸ h.xs) hR
 have hsz:(w.setCell ⟨L.gs,i * 5+j,none⟩ u).heap.size=w.heap.size:=by simp
 have hat:∀k,k≠i->bF jS (L.S.set i x) k=bF jS L.S k:=fun k hk=>rP _ _ _ _ hk
 have Ti:bF jS (L.S.set i x) i=x:=bQ _ _ _ hi;have hxX:∀p b,x.bk p=some b->X b\/(¬ X b/\¬ R b/\b<w.heap.size):=fun p b hp=>(hb p b hp).imp (h.xm i p b hi) id
 have adb:∀p b,x.bk p=some b->b≠L.gs:=fun p b hp e=>by obtain⟨es,clock,hm⟩:=(hW p).map hp;have h2:=h.sec;unfold Bx at h2;rw[e,h2]at hm;simp at hm
 refine⟨?_,(hne g h.ne).trans (by have h1:=h.box; unfold Bx at h1; simpa[aP.put]using h1),?_,by simpa using h.cap,?_,?_,fun w2 h2=>h.scr w2 fun b hR=>(h2 b hR).trans (acU b hR),?_,.inl h.xg,.inl h.xs,?_,?_,?_,h.wf,h.lor⟩
 ·show M.secs.set i x.s=(L.S.set i x).map SM.s;rw[h.secs,List.map_set]
 ·show Bx _ L.gs _ (fK rH (L.S.set i x)++L.sp);have:=h.sec.set (i * 5+j) u;rw[List.set_append_left _ _ (by rw[iM qK]; omega),MC qK L.S i j hi hj u x hx]at this;exact this
 ·intro k p hk;simp only[List.length_set]at hk;by_cases e:k=i
  ·subst e; simp only[Ti]; exact(hW p).kept fun c hc=>hne c (adb p c hc)
  ·simp only[hat k e]; exact(h.maps k p hk).kept fun c hc=>hne c (h.abo hk hc).2
 ·intro k l p q b hk hl h1 h2;simp only[List.length_set]at hk hl;by_cases e:k=i
  ·by_cases e2:l=i
   ·subst e e2;simp only[Ti]at h1 h2;refine⟨rfl,?_⟩;cases p <;> cases q
    ·rfl
    ·exact absurd h1 (hself b h2)
    ·exact absurd h2 (hself b h1)
    ·rfl
   ·subst e;simp only[Ti]at h1;simp only[hat l e2]at h2;rcases hb p b h1 with h3 | h3
    ·exact h.inj k l p q b hk hl h3 h2
    ·exact absurd (h.xm l q b hl h2) h3.1
  ·by_cases e2:l=i
   ·subst e2;simp only[Ti]at h2;simp only[hat k e]at h1;rcases hb q b h2 with h3 | h3
    ·exact h.inj k l p q b hk hl h1 h3
    ·exact absurd (h.xm k p b hk h1) h3.1
   ·simp only[hat k e]at h1;simp only[hat l e2]at h2;exact h.inj k l p q b hk hl h1 h2
 ·rw[aP.zA];exact fun w2 h2=>h.lost w2 fun b hR=>(h2 b hR).trans (acU b hR)
 ·intro k p b hk h1;simp only[List.length_set]at hk;by_cases e:k=i
  ·subst e;simp only[Ti]at h1;cases p
   ·exact .inr (.inr h1)
   ·exact .inr (.inl h1)
  ·simp only[hat k e]at h1;exact .inl (h.xm k p b hk h1)
 ·rw[hsz];rintro b ((h1 | h1 | h1) | h1)
  ·exact h.lt b (.inl h1)
  ·rcases hxX true b h1 with h2 | h2
   ·exact h.lt b (.inl h2)
   ·exact h2.2.2
  ·rcases hxX false b h1 with h2 | h2
   ·exact h.lt b (.inl h2)
   ·exact h2.2.2
  ·exact h.lt b (.inr h1)
 ·rintro b (h1 | h1 | h1)
  ·exact h.dis b h1
  ·rcases hxX true b h1 with h2 | h2
   ·exact h.dis b h2
   ·exact h2.2.1
  ·rcases hxX false b h1 with h2 | h2
   ·exact h.dis b h2
   ·exact h2.2.1
end
theorem KN{a b:Bool}(h:a=b):(Ending.returned (.bool a))=.returned (.bool b):=by rw[h]
theorem nY{w:World}{g:Nat}{L:Lay}{M:aP}{X R:Nat->Prop}(h:fE w g L M X R)(hn:M.n<=4096)(b:Int):
 Calls prog 91 #[.pointer (some ⟨g,0,none⟩),.int .i64 b] w fun e w'=>e=.returned (.bool (decide (0<=b/\b<M.n)))/\w=w':=by
 obtain⟨c0,c1,c2,c3,c4⟩:=h.cells;have e:=h.n;rw[e]at c2;generalize M.n=n at *;clear h e;by_cases h0:0<=b
 ·by_cases h1:b<(n:Int)
  ·rw[zt ⟨h0,h1⟩];go_enter func91,ntmps91;go_wp2_with fail;go_ret;exact⟨KN (by simp),rfl⟩
  ·rw[zf fun e=>h1 e.2];go_enter func91,ntmps91;go_wp2_with fail;go_ret;exact⟨KN (by simp),rfl⟩
 ·rw[zf fun e=>h0 e.1];go_enter func91,ntmps91;go_wp2_with fail;go_ret;exact⟨KN (by simp),rfl⟩
def aaj(v:Value)(w:World)(e:Ending)(w':World):Prop:=e=.returned v/\Below w.heap.size w w'
theorem xR{w:World}{g:Nat}{M:aP}{X R:Nat->Prop}(h:gZ w g M X R)(hn:M.n<=4096)(b:Int):
 Calls prog 68 #[.pointer (some ⟨g,0,none⟩),.int .i64 b] w (aaj (.tuple #[.int .i64 (M.eu b).1,.int .i64 (M.eu b).2]) w):=by
 obtain⟨L,h⟩:=h;obtain⟨c0,c1,c2,c3,c4⟩:=h.cells;have HH:=zH (nY h hn b);have e:=h.n;have HS:=zH h;rw[e]at c2;clear h;unfold aP.eu;by_cases hr:0<=b/\b<(M.n:Int)
 ·rw[zj hr];rw[zt hr]at HH;obtain⟨k,rfl⟩:∃k:Nat,b=k:=⟨b.toNat,by omega⟩;have hk:k<M.n:=by omega
  have s0:=HS.out.gJ (i:=k) (j:=0) (by omega) (by decide);simp only[rH,List.getElem?_cons_zero,HS.out.at_,Nat.add_zero]at s0;have e1:((k:Int)).toNat=k:=by simp
  rw[e1];generalize M.n=n at *;generalize L.gs=gs at *;clear hr HS e;go_enter func68,ntmps68;go_wp2_with fail;refine HH.out.mono ?_;rintro e w' ⟨rfl,rfl⟩;go_wp2_with fail;go_ret2;exact⟨rfl,zB _ _⟩
 ·rw[zi hr];rw[zf hr]at HH;clear hr;go_enter func68,ntmps68;go_wp2_with fail;refine HH.out.mono ?_;rintro e w' ⟨rfl,rfl⟩;go_wp2_with fail;go_ret2;exact⟨rfl,zB _ _⟩
def VK(Z:Int×aP)(g:Nat)(X R:Nat->Prop)(w:World)(e:Ending)(w':World):Prop:=e=.returned (.int .i64 Z.1)/\∃X2 R2,gZ w' g Z.2 X2 R2/\Ch X R X2 R2 w w'
section
variable {X R:Nat->Prop} {w w':World} {g:Nat} {L:Lay} {M:aP}
theorem fE.vU(h:fE w g L M X R){i j:Nat}(hi:i<L.S.length)(hj:j<5)(u:Value)(x:SM)(hx:rH x=(rH (bF jS L.S i)).set j u)
 (hW:∀p,x.W w p)(hb:∀p b,x.bk p=some b->(bF jS L.S i).bk p=some b):
 fE (w.setCell ⟨L.gs,i * 5+j,none⟩ u) g { L with S:=L.S.set i x } (M.put i x.s) X R/\Ch X R X R w (w.setCell ⟨L.gs,i * 5+j,none⟩ u):=by
 have h1:=h.store hi hj u x hx hW (fun p b hp=>.inl (hb p b hp)) (fun b h1 h2=>by
  have:=h.inj i i true false b hi hi (hb true b h1) (hb false b h2);simp at this)
 have e:(fun b=>X b\/x.e=some b\/x.c=some b)=X:=by
  funext b;refine propext ⟨?_,.inl⟩;rintro(h2 | h2 | h2)
  ·exact h2
  ·exact h.xm i true b hi (hb true b h2)
  ·exact h.xm i false b hi (hb false b h2)
 rw[e]at h1;refine⟨h1,rfl,rfl,rfl,by simp,fun b hb hX=>zh w _ _ b fun e=>hX (e ▸ h.xs),fun _ h=>.inl h,fun _ h=>.inl h⟩
end
theorem aP.uk(M:aP)(i:Nat)(s t:CQ):(M.put i s).put i t=M.put i t:=by simp[aP.put]
theorem fE.afk{X R:Nat->Prop}{w:World}{g:Nat}{L:Lay}{M:aP}(h:fE w g L M X R){i:Nat}(hi:i<L.S.length)(st:Nat)(raw:List UInt8):
 ∃w4 L4,w4=((((w.setCell ⟨L.gs,i * 5+1,none⟩ (.int .i64 ((M.sec i).cnt+1))).setCell ⟨L.gs,i * 5+4,none⟩ (.map none)).setCell ⟨L.gs,i * 5,none⟩ (.int .i64 st)).setCell ⟨L.gs,i * 5+2,none⟩ (.string (str raw)))/\fE w4 g L4 (M.put i { M.sec i with st:=st,cnt:=(M.sec i).cnt+1,raw:=raw,ch:=fun _=>0 }) X R/\
   L4.gs=L.gs/\L4.S.length=L.S.length/\Ch X R X R w w4:=by
 obtain⟨x,hx⟩:∃x,x=bF jS L.S i:=⟨_,rfl⟩;have hs:x.s=M.sec i:=by rw[hx]; exact h.at_ i
 have hm:=fun p=>h.maps i p hi
 rw[<-hx]at hm;have k1:=h.vU hi (j:=1) (by decide) (.int .i64 ((M.sec i).cnt+1)) { x with s:={ x.s with cnt:=(M.sec i).cnt+1 } } (by rw[<-hx]; rfl) (fun p=>by have:=hm p; cases p <;> exact this) (fun p b hp=>by rw[<-hx]; cases p <;> exact hp);obtain⟨h1,c1⟩:=k1;have k2:=h1.vU (i:=i) (by simpa using hi) (j:=4) (by decide) (.map none) { x with s:={ x.s with cnt:=(M.sec i).cnt+1,ch:=fun _=>0 },c:=none } (by rw[bQ _ _ _ hi]; rfl) (fun p=>by cases p with
  | true=>
    have:=h1.maps i true (by simpa using hi);simp only[bQ _ _ _ hi]at this;exact this
  | false=>exact fun _=>rfl) (fun p b hp=>by simp only[bQ _ _ _ hi]; cases p with
  | true=>exact hp
  | false=>simp[SM.bk]at hp)
 obtain⟨h2,c2⟩:=k2;simp only[List.set_set,aP.uk]at h2;have k3:=h2.vU (i:=i) (by simpa using hi) (j:=0) (by decide) (.int .i64 st) { x with s:={ x.s with st:=st,cnt:=(M.sec i).cnt+1,ch:=fun _=>0 },c:=none } (by rw[bQ _ _ _ hi]; rfl) (fun p=>by cases p with
  | true=>
    have:=h2.maps i true (by simpa using hi);simp only[bQ _ _ _ hi]at this;exact this
  | false=>exact fun _=>rfl) (fun p b hp=>by simp only[bQ _ _ _ hi]; cases p with
  | true=>exact hp
  | false=>simp[SM.bk]at hp)
 obtain⟨h3,c3⟩:=k3;simp only[List.set_set,aP.uk]at h3;have k4:=h3.vU (i:=i) (by simpa using hi) (j:=2) (by decide) (.string (str raw)) { x with s:={ x.s with st:=st,cnt:=(M.sec i).cnt+1,raw:=raw,ch:=fun _=>0 },c:=none } (by rw[bQ _ _ _ hi]; rfl) (fun p=>by cases p with
  | true=>
    have:=h3.maps i true (by simpa using hi);simp only[bQ _ _ _ hi]at this;exact this
  | false=>exact fun _=>rfl) (fun p b hp=>by simp only[bQ _ _ _ hi]; cases p with
  | true=>exact hp
  | false=>simp[SM.bk]at hp)
 obtain⟨h4,c4⟩:=k4;simp only[List.set_set,aP.uk,hs]at h4;exact⟨_,_,rfl,h4,rfl,by simp,((c1.trans c2).trans c3).trans c4⟩
theorem fE.afj{X R:Nat->Prop}{w:World}{g:Nat}{L:Lay}{M:aP}(h:fE w g L M X R){i:Nat}(hi:i<L.S.length)(st:Nat)(raw:List UInt8):
 ∃w4 L4,w4=(w.setCell ⟨L.gs,i * 5,none⟩ (.int .i64 st)).setCell ⟨L.gs,i * 5+2,none⟩ (.string (str raw))/\fE w4 g L4 (M.put i { M.sec i with st:=st,raw:=raw }) X R/\L4.gs=L.gs/\L4.S.length=L.S.length/\Ch X R X R w w4:=by
 obtain⟨x,hx⟩:∃x,x=bF jS L.S i:=⟨_,rfl⟩;have hs:x.s=M.sec i:=by rw[hx]; exact h.at_ i
 have hm:=fun p=>h.maps i p hi
 rw[<-hx]at hm;have k1:=h.vU hi (j:=0) (by decide) (.int .i64 st) { x with s:={ x.s with st:=st } } (by rw[<-hx]; rfl) (fun p=>by have:=hm p; cases p <;> exact this) (fun p b hp=>by rw[<-hx]; cases p <;> exact hp);obtain⟨h1,c1⟩:=k1;have hm1:=fun p=>h1.maps i p (by simpa using hi)
 simp only[bQ _ _ _ hi]at hm1;have k2:=h1.vU (i:=i) (by simpa using hi) (j:=2) (by decide) (.string (str raw)) { x with s:={ x.s with st:=st,raw:=raw } } (by rw[bQ _ _ _ hi]; rfl) (fun p=>by have:=hm1 p; cases p <;> exact this) (fun p b hp=>by simp only[bQ _ _ _ hi]; cases p <;> exact hp);obtain⟨h2,c2⟩:=k2;simp only[List.set_set,aP.uk,hs]at h2;exact⟨_,_,rfl,h2,rfl,by simp,c1.trans c2⟩
theorem NP{w:World}{g:Nat}{L:Lay}{M:aP}{X R:Nat->Prop}(h:fE w g L M X R)(hn:M.n<=4096){i:Nat}(hi:i<M.n)(hc:(M.sec i).cnt<=4611686018427387904)(hse:M.iU<=1048576)(hk:M.kind<=2)(hs:(M.sec i).st<=3)(st:Nat)(hst:st<=3)(raw:List UInt8):
 Calls prog 244 #[.pointer (some ⟨g,0,none⟩),.int .i64 i,.int .i64 st,.string (str raw)] w (VK (M.write i st raw) g X R w):=by
 obtain⟨c0,c1,c2,c3,c4⟩:=h.cells;have e:=h.n;have hiL:i<L.S.length:=by omega
 have s0:=h.gJ hiL (j:=0) (by decide);have s1:=h.gJ hiL (j:=1) (by decide);have s2:=h.gJ hiL (j:=2) (by decide);have s4:=h.gJ hiL (j:=4) (by decide);simp only[rH,List.getElem?_cons_zero,List.getElem?_cons_succ,h.at_,Nat.add_zero]at s0 s1 s2 s4;have f:=h.sec.free;rw[e]at c2;unfold aP.write;by_cases hk0:M.kind=0
 ·rw[zj hk0];have HH:=zH h;have q:((M.kind:Int) == 0)=true:=by rw[hk0]; rfl
  clear h f s0 s1 c3 c4;generalize M.n=n at *;go_enter func244,ntmps244;go_wp2_with fail;go_ret;exact⟨rfl,X,R,⟨L,HH.out⟩,.refl⟩
 ·rw[zi hk0];have q0:((M.kind:Int) == 0)=false:=by rw[beq_eq_false_iff_ne]; omega
  by_cases hk1:M.kind=1/\(M.sec i).st≠0
  ·rw[zj hk1];have HH:=zH h;have q1:((M.kind:Int) == 1)=true:=by rw[hk1.1]; rfl
   have q2:(((M.sec i).st:Int) == 0)=false:=by rw[beq_eq_false_iff_ne]; omega
   clear h f s1 c3 c4 hk1;generalize M.n=n at *;go_enter func244,ntmps244;go_wp2_with fail;go_ret;exact⟨rfl,X,R,⟨L,HH.out⟩,.refl⟩
  ·rw[zi hk1];obtain⟨w4,L4,hw4,h4,e4,l4,ch4⟩:=h.afk hiL st raw;have hW4:=zH hw4;clear hw4;have f1:=f (i * 5+1);have f4:=f (i * 5+4);have f0:=f (i * 5);have f2:=f (i * 5+2);have d1:=h4.gJ (i:=i) (by omega) (j:=1) (by decide);simp only[rH,List.getElem?_cons_zero,List.getElem?_cons_succ,h4.at_,aP.qH _ _ hi,e4]at d1;have d2:=h4.cells.2.1;change w4.cell? ⟨g,1,none⟩=some (.int .i64 M.iU) at d2;have d3:((((M.sec i).cnt+1:Nat)):Int)=(M.sec i).cnt+1:=rfl;rw[d3]at d1;have H4:=zH h4;have C4:=zH ch4;have E4:=zH e4;have LE:=zH l4;have hkk:((M.kind:Int) == 1)=false\/(((M.kind:Int) == 1)=true/\(((M.sec i).st:Int) == 0)=true):=by
    by_cases e1:M.kind=1
    ·right; rw[beq_iff_eq,beq_iff_eq]; exact⟨by omega,by have:¬ (M.sec i).st≠0:=fun h2=>hk1 ⟨e1,h2⟩; omega⟩
    ·left; rw[beq_eq_false_iff_ne]; omega
   clear h f c3 c4 hk1 h4 ch4 e4 l4;have HE:=zH e;clear e;have hi2:i<L.S.length:=hiL;generalize Zf:M.n=n at *;by_cases hw:(M.sec i).cnt+1 > M.iU
   ·rw[zj hw];have hwI:(M.iU:Int)<((M.sec i).cnt:Int)+1:=by omega
    have hwB:decide ((M.iU:Int)<((M.sec i).cnt:Int)+1)=true:=zt hwI;rcases hkk with q1 | ⟨q1,q2⟩
    all_goals
     go_enter func244,ntmps244;go_wp2_with fail;rw[<-hW4.out];go_quiet (fail);have h5:=H4.out.below (Below.drewN (zB w4.heap.size w4) nq);have C5:=zH (C4.out.trans (Ch.of (X:=X) (R:=R) (Below.drewN (zB w4.heap.size w4) nq)));generalize w4.drewN nq=w5 at *;obtain⟨w6,L6,hw6,h6,e6,l6,ch6⟩:=h5.afj (i:=i) (by rw[LE.out]; exact hiL) 3 [];rw[E4.out]at hw6;subst hw6;have g0:=h5.sec.free (i * 5);have g2:=h5.sec.free (i * 5+2);rw[E4.out]at g0 g2;have m0:=h5.gJ (i:=i) (by rw[LE.out]; exact hiL) (j:=0) (by decide);have m2:=h5.gJ (i:=i) (by rw[LE.out]; exact hiL) (j:=2) (by decide);simp only[rH,List.getElem?_cons_zero,List.getElem?_cons_succ,Nat.add_zero,E4.out]at m0 m2;simp only[aP.uk,aP.qH M _ (show i<M.n by omega)]at h6;change fE ((w5.setCell ⟨L.gs,i * 5,none⟩ (.int .i64 3)).setCell ⟨L.gs,i * 5+2,none⟩ (.string ⟨#[]⟩)) _ _ _ _ _ at h6;have H6:=zH h6;have c6:=C5.out.trans ch6;change Ch X R X R w ((w5.setCell ⟨L.gs,i * 5,none⟩ (.int .i64 3)).setCell ⟨L.gs,i * 5+2,none⟩ (.string ⟨#[]⟩)) at c6;have C6:=zH c6;clear h5 h6 ch6 c6 e6 l6;go_wp2_with fail;go_ret;exact⟨rfl,X,R,⟨L6,H6.out⟩,C6.out⟩
   ·rw[zi hw];have hwI:¬ (M.iU:Int)<((M.sec i).cnt:Int)+1:=by omega
    have hwB:decide ((M.iU:Int)<((M.sec i).cnt:Int)+1)=false:=zf hwI;rcases hkk with q1 | ⟨q1,q2⟩
    all_goals
     go_enter func244,ntmps244;go_wp2_with fail;rw[<-hW4.out];go_quiet (fail);have h5:=H4.out.below (Below.drewN (zB w4.heap.size w4) nq);have C5:=zH (C4.out.trans (Ch.of (X:=X) (R:=R) (Below.drewN (zB w4.heap.size w4) nq)));generalize w4.drewN nq=w5 at *;have H5:=zH h5;clear h5;go_wp2_with fail;go_ret;exact⟨rfl,X,R,⟨L4,H5.out⟩,C5.out⟩
theorem VK.same{g:Nat}{X R:Nat->Prop}{w w':World}{M:aP}{c:Int}(h:gZ w g M X R)(hb:Below w.heap.size w w'):VK (c,M) g X R w (.returned (.int .i64 c)) w':=⟨rfl,X,R,h.below hb,.of hb⟩
theorem UF{w:World}{g:Nat}{M:aP}{X R:Nat->Prop}{N:Nat}(h:gZ w g M X R)(ho:M.Ok N)(hN:N<=4611686018427387904)(a:Int)(raw:List UInt8)(hr:raw.length<=1000000):
 Calls prog 304 #[.pointer (some ⟨g,0,none⟩),.int .i64 a,.string (str raw)] w (VK (M.record a raw) g X R w):=by
 obtain⟨L,hc⟩:=h;have HH:=zH (nY hc ho.n.2 a);have HS:=zH (VK.same (c:=2) ⟨L,hc⟩ (zB _ _));have EH:=zH (VK.same (c:=1) ⟨L,hc⟩ (zB _ _));unfold aP.record;by_cases hb:0<=a/\a<(M.n:Int)
 ·rw[zj hb];rw[zt hb]at HH;obtain⟨k,rfl⟩:∃k:Nat,a=k:=⟨a.toNat,by omega⟩;have hk:k<M.n:=by omega
  have hs:=ho.sec k hk;have e1:((k:Int)).toNat=k:=by simp
  rw[e1];have HW:=zH (fun st hst raw=>NP hc ho.n.2 hk (zT hs.cnt hN) ho.iU.2 ho.kind hs.st st hst raw);by_cases hl:raw.length=2352
  ·rw[zj hl];have q:(((str raw).size:Int) != 2352)=false:=by rw[ax,hl]; rfl
   have hw1:=HW.out 1 (by decide) raw;change Calls prog 244 #[.pointer (some ⟨g,0,none⟩),.int .i64 k,.int .i64 1,.string (str raw)] w _ at hw1;have HW1:=zH hw1;clear hw1;clear hc ho hb hs HS EH HW hl;generalize M.write k 1 raw=Z at *;go_enter func304,ntmps304;go_wp2_with fail;refine HH.out.mono ?_;rintro e w' ⟨rfl,rfl⟩;go_wp2_with fail;refine HW1.out.mono ?_;rintro e w' ⟨rfl,hw⟩;have HQ:=zH hw;clear hw;go_wp2_with fail;go_ret;exact⟨rfl,HQ.out⟩
  ·rw[zi hl];have q:(((str raw).size:Int) != 2352)=true:=by rw[ax,bne_iff_ne]; omega
   clear hc ho hb hs HS HW hl;go_enter func304,ntmps304;go_wp2_with fail;refine HH.out.mono ?_;rintro e w' ⟨rfl,rfl⟩;go_wp2_with fail;go_ret;exact EH.out
 ·rw[zi hb];rw[zf hb]at HH;clear hc ho hb EH;go_enter func304,ntmps304;go_wp2_with fail;refine HH.out.mono ?_;rintro e w' ⟨rfl,rfl⟩;go_wp2_with fail;go_ret;exact HS.out
theorem abK{w:World}{g:Nat}{M:aP}{X R:Nat->Prop}{N:Nat}(h:gZ w g M X R)(ho:M.Ok N)(hN:N<=4611686018427387904)(a:Int):
 Calls prog 161 #[.pointer (some ⟨g,0,none⟩),.int .i64 a] w (VK (M.pV a) g X R w):=by
 obtain⟨L,hc⟩:=h;have HH:=zH (nY hc ho.n.2 a);have HS:=zH (VK.same (c:=2) ⟨L,hc⟩ (zB _ _));unfold aP.pV;by_cases hb:0<=a/\a<(M.n:Int)
 ·rw[zj hb];rw[zt hb]at HH;obtain⟨k,rfl⟩:∃k:Nat,a=k:=⟨a.toNat,by omega⟩;have hk:k<M.n:=by omega
  have hs:=ho.sec k hk;have e1:((k:Int)).toNat=k:=by simp
  rw[e1];have hw1:=NP hc ho.n.2 hk (zT hs.cnt hN) ho.iU.2 ho.kind hs.st 2 (by decide) [];change Calls prog 244 #[.pointer (some ⟨g,0,none⟩),.int .i64 k,.int .i64 2,.string ⟨#[]⟩] w _ at hw1;have HW1:=zH hw1;clear hw1;clear hc ho hb hs HS;generalize M.write k 2 []=Z at *;go_enter func161,ntmps161;go_wp2_with fail;refine HH.out.mono ?_;rintro e w' ⟨rfl,rfl⟩;go_wp2_with fail;refine HW1.out.mono ?_;rintro e w' ⟨rfl,hw⟩;have HQ:=zH hw;clear hw;go_wp2_with fail;go_ret;exact⟨rfl,HQ.out⟩
 ·rw[zi hb];rw[zf hb]at HH;clear hc ho hb;go_enter func161,ntmps161;go_wp2_with fail;refine HH.out.mono ?_;rintro e w' ⟨rfl,rfl⟩;go_wp2_with fail;go_ret;exact HS.out
theorem mV{α:Type}(D:α->List Value)(x:α)(sz n:Nat)(h0:0<sz)(hD:∀y,(D y).length=sz):(madeCells (D x).toArray (n * sz)).toList=fK D (List.replicate n x):=by
 apply List.ext_getElem?;intro k;by_cases hk:k<n * sz
 ·have e:k / sz * sz+k % sz=k:=by rw[Nat.mul_comm]; exact Nat.div_add_mod k sz
  have hki:k / sz<n:=Nat.div_lt_of_lt_mul (by rw[Nat.mul_comm]; exact hk);have hkj:k % sz<sz:=Nat.mod_lt _ h0;have h2:=tN (d:=x) hD (List.replicate n x) (k / sz) (k % sz) (by simpa using hki) hkj;rw[e]at h2;have e3:bF x (List.replicate n x) (k / sz)=x:=by simp[bF,hki]
  rw[h2,e3];have hlt:k % sz<(D x).length:=by rw[hD]; exact hkj
  simp only[madeCells,Array.toList_map,Array.toList_range,List.getElem?_map,List.getElem?_range hk,Option.map_some,List.size_toArray,hD];rw[getElem!_pos _ _ (by simpa using hlt),List.getElem?_eq_getElem hlt];simp
 ·rw[List.getElem?_eq_none (by simp[madeCells]; omega),List.getElem?_eq_none (by rw[iM hD]; simp; omega)]
theorem infoSurf:(prog.info? 175).map (fun i=>(i.zero,i.size,i.bytes))=some (some (.agg (rH jS).toArray),5,48):=by kernel_rfl
theorem AY{w:World}{ops:Array Oper}{rest:List Oper}{o:Oper}{a:Act}{Q:Exit->Act->World->Prop}
 (hg:o.guard=none)(l c:Operand)(hop:o.op=Op.makeSlice 163 l c)
 {L C:Int}(n:Nat)(hl:a.eval l=.int .i64 L)(hc:a.eval c=.int .i64 C)(hL:L=(n:Int))(hC:C=(n:Int))(b3:n<=1000000)
 (hK:∀w',Bx w' w.heap.size 175 (fK rH (List.replicate n jS))->Below w.heap.size w w'->w.heap.size<w'.heap.size->wpList prog ops Q rest (a.put o.dst (.slice (some ⟨w.heap.size,0,none⟩) n n)) w'):
 wpList prog ops Q (o :: rest) a w:=by
 obtain⟨i0,hi,hz0,hz1,hz2⟩:=info_parts infoSurf;refine wpList_make_full w hg l c _ hop w.heap.size 175 i0 _ 5 underlying163 hi hz0 hz1 .i64 .i64 L C n hl hc hL hC (by rw[hz2]; omega) (by unfold maxLen; omega) (zl _) fun w' h3 h4=>hK w' ?_ ((zB _ _).grown h4 (zl _) (fun k hk=>by cases hk)) ?_
 ·have e1:(Value.agg (rH jS).toArray).cells=(rH jS).toArray:=rfl;rw[e1,mV rH jS 5 n (by decide) qK]at h3;exact Bx.bM h3
 ·exact(h3.lt w.heap.size rfl).2
def adB(k s e:Int):Prop:=(k=1\/k=2)/\(1<=s/\s<=4096)/\1<=e/\e<=1048576
def aag(k n en:Nat)(w:World)(e:Ending)(w':World):Prop:=∃g X R,e=.returned (.tuple #[.pointer (some ⟨g,0,none⟩),.int .i64 0])/\gZ w' g (dO k n en) X R/\Below w.heap.size w w'/\∀b,X b\/R b->w.heap.size<=b
theorem fE.fresh{w w1 w2:World}(k n en:Nat)(hk:k<=2)(hb:Bx w1 w.heap.size 175 (fK rH (List.replicate n jS)))(hb1:Below w.heap.size w w1)
 (h2:w2=w1.alloc (.cells #[.int .i64 k,.int .i64 en,.slice (some ⟨w.heap.size,0,none⟩) n n,.slice none 0 0,.map none] 166)):
 aag k n en w (.returned (.tuple #[.pointer (some ⟨w1.heap.size,0,none⟩),.int .i64 0])) w2:=by
 subst h2;have hlt:=hb.lt;have hat:∀i,i<n->bF jS (List.replicate n jS) i=jS:=fun i hi=>by simp[bF,hi]
 refine⟨w1.heap.size,fun b=>b=w.heap.size\/b=w1.heap.size,fun _=>False,rfl,⟨⟨List.replicate n jS,w.heap.size,[],n,.slice none 0 0,none⟩,?_,?_,?_,by simp,?_,?_,?_,?_,.inr rfl,.inl rfl,?_,?_,?_,?_,fun b hb=>by cases hb⟩,hb1.alloc hb1.size _,?_⟩
 ·simp[dO,jS]
 ·rw[List.length_replicate];exact Bx.new w1 _ _
 ·rw[List.append_nil];exact hb.alloc _
 ·intro i p hi;simp only[List.length_replicate]at hi;simp only[hat i hi];cases p
  ·exact fun _=>rfl
  ·exact fun _=>rfl
 ·intro i j p q b hi hj h1 h2;simp only[List.length_replicate]at hi;simp only[hat i hi]at h1;cases p <;> simp[SM.bk,jS]at h1
 ·intro w' _;exact dX.nil w'
 ·intro w' _ i hi;show gW _ [] i = [];have e:∀m,yU [] m = []:=fun m=>nM (fun f=>by
   have:Dl [] f 28 = []:=by simp[Dl,gon]
   rw[ers,this]; decide) m
  simp[gW,Bv,MZ,e]
 ·intro i p b hi h1;simp only[List.length_replicate]at hi;simp only[hat i hi]at h1;cases p <;> simp[SM.bk,jS]at h1
 ·rintro b ((rfl | rfl) | h)
  ·simp; omega
  ·simp
  ·exact h.elim
 ·intro b _ h;exact h
 ·intro s hs;cases hs
 ·rintro b ((rfl | rfl) | h)
  ·exact zl _
  ·omega
  ·exact h.elim
theorem adz(k s e:Int)(h:adB k s e)(w:World):
 Calls prog 34 #[.int .i64 k,.int .i64 s,.int .i64 e] w (aag k.toNat s.toNat e.toNat w):=by
 obtain⟨hk,⟨s1,s2⟩,e1,e2⟩:=h;obtain⟨n,rfl⟩:∃n:Nat,s=n:=⟨s.toNat,by omega⟩;obtain⟨m,rfl⟩:∃n:Nat,e=n:=⟨e.toNat,by omega⟩;rw[Int.toNat_natCast,Int.toNat_natCast];rcases hk with rfl | rfl
 all_goals
  go_enter func34,ntmps34;go_wp2_with (refine AY rfl _ _ rfl n rfl rfl rfl rfl (by omega) ?_; intro w1 hb hb1 hlt);go_ret2;exact fE.fresh _ n m (by decide) hb hb1 rfl
def chc(c:Int×Int):List Value:=[.int .i64 c.1,.int .i64 c.2]
def aeT(w:World)(v:Value)(l:List (Int×Int)):Prop:=dX (0,0) chc 2 w v l
def chA(l:List (Int×Int))(i:Nat):Int×Int:=bF (0,0) l i
def In64(x:Int):Prop:=-9223372036854775808<=x/\x<=9223372036854775807
end oH
namespace W8
theorem JL(m i:Nat)(h:i<26):dm (pw m) i=pf m i:=by simp[dm,pw,pl,h]
theorem abd(m i:Nat)(h:i<43):dm (qw m) i=qf m i:=by
 have:i<(ql m 43).length:=by rw[qI]; exact h
 unfold dm qw;rw[List.getD_eq_getElem?_getD,List.getElem?_append_left this];simp[ql,h]
theorem Gm(m:Nat):dm (qw m) 43=12+2 * (1118+(m:Int) / 2)+m % 2:=by have h:(ql m 43).length=43:=qI _ _;unfold dm qw;rw[List.getD_eq_getElem?_getD,List.getElem?_append_right (by omega),h];rfl
theorem Gn(m:Nat):dm (qw m) 44=12+2 * (1144+(m:Int) / 2)+m % 2:=by have h:(ql m 43).length=43:=qI _ _;unfold dm qw;rw[List.getD_eq_getElem?_getD,List.getElem?_append_right (by omega),h];rfl
end W8
end Go.Proofs.YtfnehkmhcmkhjaaGreat
