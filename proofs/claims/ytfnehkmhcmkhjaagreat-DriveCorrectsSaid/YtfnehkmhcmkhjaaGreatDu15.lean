/- Parts -/
import Derived.Test.YtfnehkmhcmkhjaaGreatDu12
set_option maxRecDepth 100000
set_option maxHeartbeats 8000000
set_option linter.unusedVariables false
namespace Go.Proofs.YtfnehkmhcmkhjaaGreat
open Tryz
namespace wu
open Go.RowKit Go.Maps C9
open W8 (is)
def Kz(w:World)(b:Option Nat)(f:Nat->Bool):Prop:=
 match b with
 |none=>∀k,f k=false
 |some b=>∃D:DataW Unit,w.ownsMap prog 3 (plainElem prog 4) b 2352 D/\∀x:Int,Maps.has D (.int .i64 x)=(decide (0<=x) && f x.toNat)
def DI(w:World)(b:Option Nat)(f:Nat->UInt8):Prop:=
 match b with
 |none=>∀k,f k=0
 |some b=>∃D:DataW Unit,w.ownsMap prog 3 (plainElem prog 5) b 2352 D/\(∀x:Int,Maps.has D (.int .i64 x)=true->0<=x/\x<2352)/\∀k:Nat,k<2352->D.atKey (.int .i64 k) (.lit (.int .u8 0))=.lit (.int .u8 (f k).toNat)
theorem Kz.kept{w w':World}{b:Option Nat}{f:Nat->Bool}(h:Kz w b f)(hk:∀c,b=some c->w'.heap[c]? = w.heap[c]?):Kz w' b f:=by
 cases b with
 |none=>exact h
 | some b=>
   obtain⟨D,⟨es,clock,hb,F,hs,hD⟩,hf⟩:=h;exact⟨D,⟨es,clock,(hk b rfl).trans hb,F,hs,hD⟩,hf⟩
theorem DI.kept{w w':World}{b:Option Nat}{f:Nat->UInt8}(h:DI w b f)(hk:∀c,b=some c->w'.heap[c]? = w.heap[c]?):DI w' b f:=by
 cases b with
 |none=>exact h
 | some b=>
   obtain⟨D,⟨es,clock,hb,F,hs,hD⟩,hf⟩:=h;exact⟨D,⟨es,clock,(hk b rfl).trans hb,F,hs,hD⟩,hf⟩
theorem Kz.map{w:World}{b:Nat}{f:Nat->Bool}(h:Kz w (some b) f):∃es clock,w.heap[b]? = some (.map es clock):=by obtain⟨D,⟨es,clock,hb,F,hs,hD⟩,hf⟩:=h;exact⟨es,clock,hb⟩
theorem DI.map{w:World}{b:Nat}{f:Nat->UInt8}(h:DI w (some b) f):∃es clock,w.heap[b]? = some (.map es clock):=by obtain⟨D,⟨es,clock,hb,F,hs,hD⟩,hf⟩:=h;exact⟨es,clock,hb⟩
def fE(n:Nat)(scr:List Sc)(i:Nat):List Int:=((List.range 2352).filter (qE n scr i)).map Int.ofNat
def LoM(w:World)(b:Option Nat)(n:Nat)(scr:List Sc):Prop:=
 match b with
 |none=>∀i,i<n->fE n scr i = []
 |some b=>∃N,N<=100000000/\∃D:DataW Value,w.ownsMap prog 3 Mp.CO b N D/\∀i,i<n->∃v,D.atKey (.int .i64 (i:Nat)) (.held (.slice none 0 0))=.held v/\lu w v (fE n scr i)
structure SM where
 s:N8
 e:Option Nat
 c:Option Nat
def dD:SM:=⟨blank,none,none⟩
def kU(x:SM):List Value:=[.int .i64 x.s.st,.int .i64 x.s.cnt,.string (str x.s.raw),.map x.e,.map x.c]
theorem kC(x:SM):(kU x).length=5:=rfl
def SM.bk(x:SM)(p:Bool):Option Nat:=if p=true then x.e else x.c
def SM.W(w:World)(p:Bool)(x:SM):Prop:=if p=true then Kz w x.e x.s.er else DI w x.c x.s.ch
theorem SM.W.kept{w w':World}{p:Bool}{x:SM}(h:x.W w p)(hk:∀c,x.bk p=some c->w'.heap[c]? = w.heap[c]?):x.W w' p:=by
 cases p with
 |true=>exact Kz.kept h hk
 |false=>exact DI.kept h hk
theorem SM.W.map{w:World}{p:Bool}{x:SM}{b:Nat}(h:x.W w p)(hb:x.bk p=some b):∃es clock,w.heap[b]? = some (.map es clock):=by
 cases p with
 | true=>
   have e:x.e=some b:=hb;have h':Kz w x.e x.s.er:=h;rw[e]at h';exact h'.map
 | false=>
   have e:x.c=some b:=hb;have h':DI w x.c x.s.ch:=h;rw[e]at h';exact h'.map
structure Lay where
 S:List SM
 gs:Nat
 sp:List Value
 cap:Nat
 vs:Value
 lo:Option Nat
structure cu (w:World) (g:Nat) (L:Lay) (M:aA) (X R:Nat->Prop):Prop where
 secs:M.secs=L.S.map SM.s
 box:Bx w g 166 [.int .i64 M.kind,.int .i64 M.iL,.slice (some ⟨L.gs,0,none⟩) L.S.length L.cap,L.vs,.map L.lo]
 sec:Bx w L.gs 175 (fH kU L.S++L.sp)
 cap:L.S.length<=L.cap
 maps:∀i p,i<L.S.length->(aJ dD L.S i).W w p
 inj:∀i j p q b,i<L.S.length->j<L.S.length->(aJ dD L.S i).bk p=some b->(aJ dD L.S j).bk q=some b->i=j/\p=q
 scr:∀w':World,(∀b,R b->w'.heap[b]? = w.heap[b]?)->xH w' L.vs M.scr
 lost:∀w':World,(∀b,R b->w'.heap[b]? = w.heap[b]?)->LoM w' L.lo M.n M.scr
 xg:X g
 xs:X L.gs
 xm:∀i p b,i<L.S.length->(aJ dD L.S i).bk p=some b->X b
 lt:∀b,X b\/R b->b<w.heap.size
 dis:∀b,X b->¬ R b
 wf:∀s∈M.scr,Wf s
 lor:∀b,L.lo=some b->R b
def fF(w:World)(g:Nat)(M:aA)(X R:Nat->Prop):Prop:=∃L,cu w g L M X R
structure Ch (X R X2 R2:Nat->Prop) (w w':World):Prop where
 os:w'.os=w.os
 tape:w'.tape=w.tape
 output:w'.output=w.output
 size:w.heap.size<=w'.heap.size
 block:∀b,b<w.heap.size->¬ X b->w'.heap[b]? = w.heap[b]?
 x:∀b,X2 b->X b\/w.heap.size<=b
 r:∀b,R2 b->R b\/w.heap.size<=b
section
variable {X R X2 R2 X3 R3:Nat->Prop} {w w' w2:World} {g:Nat} {L:Lay} {M:aA}
theorem Ch.of(h:Below w.heap.size w w'):Ch X R X R w w':=⟨h.os,h.tape,h.output,h.size,λb hb _=>h.block b hb,λ_ h=>.inl h,λ_ h=>.inl h⟩
theorem Ch.refl:Ch X R X R w w:=.of (zB _ _)
theorem Ch.trans(h:Ch X R X2 R2 w w')(k:Ch X2 R2 X3 R3 w' w2):Ch X R X3 R3 w w2:=
 ⟨k.os.trans h.os,k.tape.trans h.tape,k.output.trans h.output,zT h.size k.size,
  λb hb hx=>(k.block b (zL hb h.size) (λh2=>(h.x b h2).elim hx (λh3=>by omega))).trans (h.block b hb hx),
  λb h3=>(k.x b h3).elim (h.x b) (λh4=>.inr (zT h.size h4)),λb h3=>(k.r b h3).elim (h.r b) (λh4=>.inr (zT h.size h4))⟩
theorem Ch.below(h:Ch X R X2 R2 w w')(B:Nat)(hB:B<=w.heap.size)(hx:∀b,X b->B<=b):Below B w w':=
 ⟨h.os,h.tape,h.output,h.size,λk hk=>h.block k (by omega) (λh2=>by have:=hx k h2;omega)⟩
theorem cu.n(h:cu w g L M X R):L.S.length=M.n:=by unfold aA.n;rw[h.secs,YQ]
theorem cu.at_(h:cu w g L M X R)(i:Nat):(aJ dD L.S i).s=M.sec i:=by unfold aA.sec aJ;rw[h.secs,Xp];cases L.S[i]? <;> rfl
theorem cu.keep(h:cu w g L M X R)(hs:w.heap.size<=w'.heap.size)(hk:∀b,X b\/R b->w'.heap[b]? = w.heap[b]?):cu w' g L M X R:=
 ⟨h.secs,(hk g (.inl h.xg)).trans h.box,(hk _ (.inl h.xs)).trans h.sec,h.cap,λi p hi=>(h.maps i p hi).kept (λc hc=>hk c (.inl (h.xm i p c hi hc))),h.inj,
  λw2 h2=>h.scr w2 (λb hb=>(h2 b hb).trans (hk b (.inr hb))),λw2 h2=>h.lost w2 (λb hb=>(h2 b hb).trans (hk b (.inr hb))),h.xg,h.xs,h.xm,λb hb=>zL (h.lt b hb) hs,h.dis,h.wf,h.lor⟩
theorem cu.below(h:cu w g L M X R)(hb:Below w.heap.size w w'):cu w' g L M X R:=h.keep hb.size λb hx=>hb.block b (h.lt b hx)
theorem fF.below(h:fF w g M X R)(hb:Below w.heap.size w w'):fF w' g M X R:=by obtain⟨L,h⟩:=h;exact⟨L,h.below hb⟩
theorem cu.cells(h:cu w g L M X R):w.cell? ⟨g,0,none⟩=some (.int .i64 M.kind)/\w.cell? ⟨g,1,none⟩=some (.int .i64 M.iL)/\w.cell? ⟨g,2,none⟩=some (.slice (some ⟨L.gs,0,none⟩) L.S.length L.cap)/\w.cell? ⟨g,3,none⟩=some L.vs/\w.cell? ⟨g,4,none⟩=some (.map L.lo):=
 ⟨h.box.cell (i:=0) rfl,h.box.cell (i:=1) rfl,h.box.cell (i:=2) rfl,h.box.cell (i:=3) rfl,h.box.cell (i:=4) rfl⟩
theorem cu.fG(h:cu w g L M X R){i j:Nat}(hi:i<L.S.length)(hj:j<5):w.cell? ⟨L.gs,i*5+j,none⟩=(kU (aJ dD L.S i))[j]?:=by
 have h1:=uM (d:=dD) kC L.S i j hi hj;have hl:i*5+j<(fH kU L.S).length:=by rw[fJ kC];omega
 have h2:(fH kU L.S++L.sp)[i*5+j]? = (kU (aJ dD L.S i))[j]?:=by rw[YY hl,h1]
 have h3:(kU (aJ dD L.S i))[j]? = some ((kU (aJ dD L.S i))[j]'(by rw[kC];exact hj)):=Ye _;rw[h3]at h2 ⊢;exact h.sec.cell h2
theorem cu.ne(h:cu w g L M X R):g≠L.gs:=λe=>by have h1:=h.box;have h2:=h.sec;unfold Bx at h1 h2;rw[e,h2]at h1;simp only[YA,Obj.cells.injEq]at h1;exact absurd h1.2.1 (by decide)
theorem cu.UB(h:cu w g L M X R){i:Nat}{p:Bool}{b:Nat}(hi:i<L.S.length)(hb:(aJ dD L.S i).bk p=some b):b≠g/\b≠L.gs:=by
 obtain⟨es,clock,hm⟩:=(h.maps i p hi).map hb;have h1:=h.box;have h2:=h.sec;unfold Bx at h1 h2;refine⟨λe=>?_,λe=>?_⟩
 ·rw[e,h1]at hm;simp at hm
 ·rw[e,h2]at hm;simp at hm
theorem cu.store(h:cu w g L M X R){i j:Nat}(hi:i<L.S.length)(hj:j<5)(u:Value)(x:SM)(hx:kU x=(kU (aJ dD L.S i)).set j u)
 (hW:∀p,x.W w p)(hb:∀p b,x.bk p=some b->(aJ dD L.S i).bk p=some b\/(¬ X b/\¬ R b/\b<w.heap.size))(hself:∀b,x.e=some b->x.c≠some b):
 cu (w.setCell ⟨L.gs,i*5+j,none⟩ u) g {L with S:=L.S.set i x} (M.put i x.s) (λb=>X b\/x.e=some b\/x.c=some b) R:=by
 have hne:∀k,k≠L.gs->(w.setCell ⟨L.gs,i*5+j,none⟩ u).heap[k]? = w.heap[k]?:=λk hk=>zh w _ _ k hk
 have ac0:∀b,R b->(w.setCell ⟨L.gs,i*5+j,none⟩ u).heap[b]? = w.heap[b]?:=λb hR=>hne b λe=>h.dis b (e ▸ h.xs) hR
 have hsz:(w.setCell ⟨L.gs,i*5+j,none⟩ u).heap.size=w.heap.size:=by simp
 have hat:∀k,k≠i->aJ dD (L.S.set i x) k=aJ dD L.S k:=λk hk=>qO _ _ _ _ hk
 have Ir:aJ dD (L.S.set i x) i=x:=aQ _ _ _ hi;have hxX:∀p b,x.bk p=some b->X b\/(¬ X b/\¬ R b/\b<w.heap.size):=λp b hp=>(hb p b hp).imp (h.xm i p b hi) id
 have al6:∀p b,x.bk p=some b->b≠L.gs:=λp b hp e=>by obtain⟨es,clock,hm⟩:=(hW p).map hp;have h2:=h.sec;unfold Bx at h2;rw[e,h2]at hm;simp at hm
 refine⟨?_,(hne g h.ne).trans (by have h1:=h.box;unfold Bx at h1;simpa[aA.put]using h1),?_,by simpa using h.cap,?_,?_,λw2 h2=>h.scr w2 λb hR=>(h2 b hR).trans (ac0 b hR),?_,.inl h.xg,.inl h.xs,?_,?_,?_,h.wf,h.lor⟩
 ·show M.secs.set i x.s=(L.S.set i x).map SM.s;rw[h.secs,List.map_set]
 ·show Bx _ L.gs _ (fH kU (L.S.set i x)++L.sp);have:=h.sec.set (i*5+j) u;rw[List.set_append_left _ _ (by rw[fJ kC];omega),Di kC L.S i j hi hj u x hx]at this;exact this
 ·intro k p hk;simp only[Yu]at hk;by_cases e:k=i
  ·subst e;simp only[Ir];exact(hW p).kept λc hc=>hne c (al6 p c hc)
  ·simp only[hat k e];exact(h.maps k p hk).kept λc hc=>hne c (h.UB hk hc).2
 ·intro k l p q b hk hl h1 h2;simp only[Yu]at hk hl;by_cases e:k=i
  ·by_cases e2:l=i
   ·subst e e2;simp only[Ir]at h1 h2;refine⟨rfl,?_⟩;cases p <;> cases q
    ·rfl
    ·exact absurd h1 (hself b h2)
    ·exact absurd h2 (hself b h1)
    ·rfl
   ·subst e;simp only[Ir]at h1;simp only[hat l e2]at h2;rcases hb p b h1 with h3|h3
    ·exact h.inj k l p q b hk hl h3 h2
    ·exact absurd (h.xm l q b hl h2) h3.1
  ·by_cases e2:l=i
   ·subst e2;simp only[Ir]at h2;simp only[hat k e]at h1;rcases hb q b h2 with h3|h3
    ·exact h.inj k l p q b hk hl h1 h3
    ·exact absurd (h.xm k p b hk h1) h3.1
   ·simp only[hat k e]at h1;simp only[hat l e2]at h2;exact h.inj k l p q b hk hl h1 h2
 ·rw[aA.yP];exact λw2 h2=>h.lost w2 λb hR=>(h2 b hR).trans (ac0 b hR)
 ·intro k p b hk h1;simp only[Yu]at hk;by_cases e:k=i
  ·subst e;simp only[Ir]at h1;cases p
   ·exact .inr (.inr h1)
   ·exact .inr (.inl h1)
  ·simp only[hat k e]at h1;exact .inl (h.xm k p b hk h1)
 ·rw[hsz];rintro b ((h1|h1|h1)|h1)
  ·exact h.lt b (.inl h1)
  ·rcases hxX true b h1 with h2|h2
   ·exact h.lt b (.inl h2)
   ·exact h2.2.2
  ·rcases hxX false b h1 with h2|h2
   ·exact h.lt b (.inl h2)
   ·exact h2.2.2
  ·exact h.lt b (.inr h1)
 ·rintro b (h1|h1|h1)
  ·exact h.dis b h1
  ·rcases hxX true b h1 with h2|h2
   ·exact h.dis b h2
   ·exact h2.2.1
  ·rcases hxX false b h1 with h2|h2
   ·exact h.dis b h2
   ·exact h2.2.1
theorem cu.grown(h:cu w g L M X R){i b:Nat}{p:Bool}(hi:i<L.S.length)(hb:(aJ dD L.S i).bk p=some b)(hg:w.grownBy w' (some b))(x:SM)(hx:kU x=kU (aJ dD L.S i))(hxe:x.e=(aJ dD L.S i).e)(Iy:x.c=(aJ dD L.S i).c)
 (hW:x.W w' p)(hW2:x.W w (!p)):cu w' g {L with S:=L.S.set i x} (M.put i x.s) X R/\Ch X R X R w w':=by
 have hbX:=h.xm i p b hi hb;have hne:∀k,k<w.heap.size->k≠b->w'.heap[k]? = w.heap[k]?:=λk hk hkb=>hg.block k hk (λe=>hkb (zs e))
 have ac0:∀k,R k->w'.heap[k]? = w.heap[k]?:=λk hR=>hne k (h.lt k (.inr hR)) λe=>h.dis b hbX (e ▸ hR)
 have hat:∀k,k≠i->aJ dD (L.S.set i x) k=aJ dD L.S k:=λk hk=>qO _ _ _ _ hk
 have Ir:aJ dD (L.S.set i x) i=x:=aQ _ _ _ hi;have hbk:∀k q,(aJ dD (L.S.set i x) k).bk q=(aJ dD L.S k).bk q:=λk q=>by
  by_cases e:k=i
  ·subst e;rw[Ir];cases q
   ·exact Iy
   ·exact hxe
  ·rw[hat k e]
 obtain⟨m1,m2⟩:=h.UB hi hb;refine⟨⟨?_,(hne g (h.lt g (.inl h.xg)) (Vb m1)).trans (by have h1:=h.box;unfold Bx at h1;simpa[aA.put]using h1),?_,by simpa using h.cap,?_,?_,λw2 h2=>h.scr w2 λb hR=>(h2 b hR).trans (ac0 b hR),?_,h.xg,h.xs,?_,λk hk=>zL (h.lt k hk) hg.size,h.dis,h.wf,h.lor⟩,
  ⟨hg.os,hg.tape,hg.output,hg.size,λk hk hX=>hne k hk λe=>hX (e ▸ hbX),λ_ h=>.inl h,λ_ h=>.inl h⟩⟩
 ·show M.secs.set i x.s=(L.S.set i x).map SM.s;rw[h.secs,List.map_set]
 ·have e:=Di (d:=dD) kC L.S i 0 hi (by decide) (.int .i64 (aJ dD L.S i).s.st) x (by rw[hx];rfl);have e2:(fH kU L.S).set (i*5+0) (.int .i64 (aJ dD L.S i).s.st)=fH kU L.S:=by
   have h0:=uM (d:=dD) kC L.S i 0 hi (by decide);apply YS;intro k;rw[YP];split
   ·rename_i e3
    subst e3;rw[h0];have:i*5+0<(fH kU L.S).length:=by rw[fJ kC];omega
    rw[zj this];rfl
   ·rfl
  rw[e2]at e;show Bx w' L.gs _ (fH kU (L.S.set i x)++L.sp);rw[<-e];exact(hne L.gs (h.lt _ (.inl h.xs)) (Vb m2)).trans h.sec
 ·intro k q hk;simp only[Yu]at hk;by_cases e:k=i
  ·subst e;simp only[Ir];by_cases e2:q=p
   ·subst e2;exact hW
   ·have e3:q = !p:=by cases q <;> cases p <;> simp_all
    subst e3;refine hW2.kept λc hc=>hne c ?_ ?_
    ·have h1:=hbk k (!p);rw[Ir]at h1;exact h.lt c (.inl (h.xm k (!p) c hk (h1 ▸ hc)))
    ·rintro rfl;have h1:=hbk k (!p);rw[Ir]at h1;have h2:=h.inj k k (!p) p c hk hk (h1 ▸ hc) hb;cases p <;> simp at h2
  ·simp only[hat k e];refine(h.maps k q hk).kept λc hc=>hne c (h.lt c (.inl (h.xm k q c hk hc))) λe2=>?_
   subst e2;exact e (h.inj k i q p c hk hi hc hb).1
 ·intro k l q r c hk hl h1 h2;simp only[Yu]at hk hl;simp only[hbk]at h1 h2;exact h.inj k l q r c hk hl h1 h2
 ·rw[aA.yP];exact λw2 h2=>h.lost w2 λb hR=>(h2 b hR).trans (ac0 b hR)
 ·intro k q c hk h1;simp only[Yu]at hk;simp only[hbk]at h1;exact h.xm k q c hk h1
end
theorem AA{a b:Bool}(h:a=b):(Ending.returned (.bool a))=.returned (.bool b):=by rw[h]
theorem su{w:World}{g:Nat}{L:Lay}{M:aA}{X R:Nat->Prop}(h:cu w g L M X R)(hn:M.n<=4096)(b:Int):
 Calls prog 91 #[.pointer (some ⟨g,0,none⟩),.int .i64 b] w λe w'=>e=.returned (.bool (decide (0<=b/\b<M.n)))/\w=w':=by
 obtain⟨c0,c1,c2,c3,c4⟩:=h.cells;have e:=h.n;rw[e]at c2;generalize M.n=n at *;clear h e;by_cases h0:0<=b
 ·by_cases h1:b<(n:Int)
  ·rw[zt ⟨h0,h1⟩];go_enter func91,ntmps91;go_wp2_with fail;go_ret;exact⟨AA (by simp),rfl⟩
  ·rw[zf λe=>h1 e.2];go_enter func91,ntmps91;go_wp2_with fail;go_ret;exact⟨AA (by simp),rfl⟩
 ·rw[zf λe=>h0 e.1];go_enter func91,ntmps91;go_wp2_with fail;go_ret;exact⟨AA (by simp),rfl⟩
def ai4(v:Value)(w:World)(e:Ending)(w':World):Prop:=e=.returned v/\Below w.heap.size w w'
theorem Dz{w:World}{g:Nat}{M:aA}{X R:Nat->Prop}(h:fF w g M X R)(hn:M.n<=4096)(b:Int):
 Calls prog 68 #[.pointer (some ⟨g,0,none⟩),.int .i64 b] w (ai4 (.tuple #[.int .i64 (M.eF b).1,.int .i64 (M.eF b).2]) w):=by
 obtain⟨L,h⟩:=h;obtain⟨c0,c1,c2,c3,c4⟩:=h.cells;have HH:=zH (su h hn b);have e:=h.n;have HS:=zH h;rw[e]at c2;clear h;unfold aA.eF;by_cases hr:0<=b/\b<(M.n:Int)
 ·rw[zj hr];rw[zt hr]at HH;obtain⟨k,rfl⟩:∃k:Nat,b=k:=⟨b.toNat,by omega⟩;have hk:k<M.n:=by omega
  have s0:=HS.out.fG (i:=k) (j:=0) (by omega) (by decide);simp only[kU,Yg,HS.out.at_,YO]at s0;have e1:((k:Int)).toNat=k:=by simp
  rw[e1];generalize M.n=n at *;generalize L.gs=gs at *;clear hr HS e;go_enter func68,ntmps68;go_wp2_with fail;refine HH.out.mono ?_;rintro e w' ⟨rfl,rfl⟩;go_wp2_with fail;go_ret2;exact⟨rfl,zB _ _⟩
 ·rw[zi hr];rw[zf hr]at HH;clear hr;go_enter func68,ntmps68;go_wp2_with fail;refine HH.out.mono ?_;rintro e w' ⟨rfl,rfl⟩;go_wp2_with fail;go_ret2;exact⟨rfl,zB _ _⟩
def Ho(Z:Int×aA)(g:Nat)(X R:Nat->Prop)(w:World)(e:Ending)(w':World):Prop:=e=.returned (.int .i64 Z.1)/\∃X2 R2,fF w' g Z.2 X2 R2/\Ch X R X2 R2 w w'
section
variable {X R:Nat->Prop} {w w':World} {g:Nat} {L:Lay} {M:aA}
theorem cu.A8(h:cu w g L M X R){i j:Nat}(hi:i<L.S.length)(hj:j<5)(u:Value)(x:SM)(hx:kU x=(kU (aJ dD L.S i)).set j u)
 (hW:∀p,x.W w p)(hb:∀p b,x.bk p=some b->(aJ dD L.S i).bk p=some b):
 cu (w.setCell ⟨L.gs,i*5+j,none⟩ u) g {L with S:=L.S.set i x} (M.put i x.s) X R/\Ch X R X R w (w.setCell ⟨L.gs,i*5+j,none⟩ u):=by
 have h1:=h.store hi hj u x hx hW (λp b hp=>.inl (hb p b hp)) (λb h1 h2=>by
  have:=h.inj i i true false b hi hi (hb true b h1) (hb false b h2);simp at this)
 have e:(λb=>X b\/x.e=some b\/x.c=some b)=X:=by
  funext b;refine propext ⟨?_,.inl⟩;rintro(h2|h2|h2)
  ·exact h2
  ·exact h.xm i true b hi (hb true b h2)
  ·exact h.xm i false b hi (hb false b h2)
 rw[e]at h1;refine⟨h1,rfl,rfl,rfl,by simp,λb hb hX=>zh w _ _ b λe=>hX (e ▸ h.xs),λ_ h=>.inl h,λ_ h=>.inl h⟩
end
theorem aA.rJ(M:aA)(i:Nat)(s t:N8):(M.put i s).put i t=M.put i t:=by simp[aA.put]
theorem cu.aoL{X R:Nat->Prop}{w:World}{g:Nat}{L:Lay}{M:aA}(h:cu w g L M X R){i:Nat}(hi:i<L.S.length)(st:Nat)(raw:List UInt8):
 ∃w4 L4,w4=((((w.setCell ⟨L.gs,i*5+1,none⟩ (.int .i64 ((M.sec i).cnt+1))).setCell ⟨L.gs,i*5+4,none⟩ (.map none)).setCell ⟨L.gs,i*5,none⟩ (.int .i64 st)).setCell ⟨L.gs,i*5+2,none⟩ (.string (str raw)))/\cu w4 g L4 (M.put i {M.sec i with st:=st,cnt:=(M.sec i).cnt+1,raw:=raw,ch:=λ_=>0}) X R/\
   L4.gs=L.gs/\L4.S.length=L.S.length/\Ch X R X R w w4:=by
 obtain⟨x,hx⟩:∃x,x=aJ dD L.S i:=⟨_,rfl⟩;have hs:x.s=M.sec i:=by rw[hx];exact h.at_ i
 have hm:=λp=>h.maps i p hi
 rw[<-hx]at hm;have k1:=h.A8 hi (j:=1) (by decide) (.int .i64 ((M.sec i).cnt+1)) {x with s:={x.s with cnt:=(M.sec i).cnt+1} } (by rw[<-hx];rfl) (λp=>by have:=hm p;cases p <;> exact this) (λp b hp=>by rw[<-hx];cases p <;> exact hp);obtain⟨h1,c1⟩:=k1;have k2:=h1.A8 (i:=i) (by simpa using hi) (j:=4) (by decide) (.map none) {x with s:={x.s with cnt:=(M.sec i).cnt+1,ch:=λ_=>0},c:=none} (by rw[aQ _ _ _ hi];rfl) (λp=>by cases p with
  | true=>
    have:=h1.maps i true (by simpa using hi);simp only[aQ _ _ _ hi]at this;exact this
  |false=>exact λ_=>rfl) (λp b hp=>by simp only[aQ _ _ _ hi];cases p with
  |true=>exact hp
  |false=>simp[SM.bk]at hp)
 obtain⟨h2,c2⟩:=k2;simp only[List.set_set,aA.rJ]at h2;have k3:=h2.A8 (i:=i) (by simpa using hi) (j:=0) (by decide) (.int .i64 st) {x with s:={x.s with st:=st,cnt:=(M.sec i).cnt+1,ch:=λ_=>0},c:=none} (by rw[aQ _ _ _ hi];rfl) (λp=>by cases p with
  | true=>
    have:=h2.maps i true (by simpa using hi);simp only[aQ _ _ _ hi]at this;exact this
  |false=>exact λ_=>rfl) (λp b hp=>by simp only[aQ _ _ _ hi];cases p with
  |true=>exact hp
  |false=>simp[SM.bk]at hp)
 obtain⟨h3,c3⟩:=k3;simp only[List.set_set,aA.rJ]at h3;have k4:=h3.A8 (i:=i) (by simpa using hi) (j:=2) (by decide) (.string (str raw)) {x with s:={x.s with st:=st,cnt:=(M.sec i).cnt+1,raw:=raw,ch:=λ_=>0},c:=none} (by rw[aQ _ _ _ hi];rfl) (λp=>by cases p with
  | true=>
    have:=h3.maps i true (by simpa using hi);simp only[aQ _ _ _ hi]at this;exact this
  |false=>exact λ_=>rfl) (λp b hp=>by simp only[aQ _ _ _ hi];cases p with
  |true=>exact hp
  |false=>simp[SM.bk]at hp)
 obtain⟨h4,c4⟩:=k4;simp only[List.set_set,aA.rJ,hs]at h4;exact⟨_,_,rfl,h4,rfl,by simp,((c1.trans c2).trans c3).trans c4⟩
theorem cu.aoK{X R:Nat->Prop}{w:World}{g:Nat}{L:Lay}{M:aA}(h:cu w g L M X R){i:Nat}(hi:i<L.S.length)(st:Nat)(raw:List UInt8):
 ∃w4 L4,w4=(w.setCell ⟨L.gs,i*5,none⟩ (.int .i64 st)).setCell ⟨L.gs,i*5+2,none⟩ (.string (str raw))/\cu w4 g L4 (M.put i {M.sec i with st:=st,raw:=raw}) X R/\L4.gs=L.gs/\L4.S.length=L.S.length/\Ch X R X R w w4:=by
 obtain⟨x,hx⟩:∃x,x=aJ dD L.S i:=⟨_,rfl⟩;have hs:x.s=M.sec i:=by rw[hx];exact h.at_ i
 have hm:=λp=>h.maps i p hi
 rw[<-hx]at hm;have k1:=h.A8 hi (j:=0) (by decide) (.int .i64 st) {x with s:={x.s with st:=st} } (by rw[<-hx];rfl) (λp=>by have:=hm p;cases p <;> exact this) (λp b hp=>by rw[<-hx];cases p <;> exact hp);obtain⟨h1,c1⟩:=k1;have hm1:=λp=>h1.maps i p (by simpa using hi)
 simp only[aQ _ _ _ hi]at hm1;have k2:=h1.A8 (i:=i) (by simpa using hi) (j:=2) (by decide) (.string (str raw)) {x with s:={x.s with st:=st,raw:=raw} } (by rw[aQ _ _ _ hi];rfl) (λp=>by have:=hm1 p;cases p <;> exact this) (λp b hp=>by simp only[aQ _ _ _ hi];cases p <;> exact hp);obtain⟨h2,c2⟩:=k2;simp only[List.set_set,aA.rJ,hs]at h2;exact⟨_,_,rfl,h2,rfl,by simp,c1.trans c2⟩
theorem Zk{w:World}{g:Nat}{L:Lay}{M:aA}{X R:Nat->Prop}(h:cu w g L M X R)(hn:M.n<=4096){i:Nat}(hi:i<M.n)(hc:(M.sec i).cnt<=4611686018427387904)(hse:M.iL<=1048576)(hk:M.kind<=2)(hs:(M.sec i).st<=3)(st:Nat)(hst:st<=3)(raw:List UInt8):
 Calls prog 244 #[.pointer (some ⟨g,0,none⟩),.int .i64 i,.int .i64 st,.string (str raw)] w (Ho (M.write i st raw) g X R w):=by
 obtain⟨c0,c1,c2,c3,c4⟩:=h.cells;have e:=h.n;have hiL:i<L.S.length:=by omega
 have s0:=h.fG hiL (j:=0) (by decide);have s1:=h.fG hiL (j:=1) (by decide);have s2:=h.fG hiL (j:=2) (by decide);have s4:=h.fG hiL (j:=4) (by decide);simp only[kU,Yg,Yi,h.at_,YO]at s0 s1 s2 s4;have f:=h.sec.free;rw[e]at c2;unfold aA.write;by_cases hk0:M.kind=0
 ·rw[zj hk0];have HH:=zH h;have q:((M.kind:Int) == 0)=true:=by rw[hk0];rfl
  clear h f s0 s1 c3 c4;generalize M.n=n at *;go_enter func244,ntmps244;go_wp2_with fail;go_ret;exact⟨rfl,X,R,⟨L,HH.out⟩,.refl⟩
 ·rw[zi hk0];have q0:((M.kind:Int) == 0)=false:=by rw[Yc];omega
  by_cases hk1:M.kind=1/\(M.sec i).st≠0
  ·rw[zj hk1];have HH:=zH h;have q1:((M.kind:Int) == 1)=true:=by rw[hk1.1];rfl
   have q2:(((M.sec i).st:Int) == 0)=false:=by rw[Yc];omega
   clear h f s1 c3 c4 hk1;generalize M.n=n at *;go_enter func244,ntmps244;go_wp2_with fail;go_ret;exact⟨rfl,X,R,⟨L,HH.out⟩,.refl⟩
  ·rw[zi hk1];obtain⟨w4,L4,hw4,h4,e4,l4,ch4⟩:=h.aoL hiL st raw;have hW4:=zH hw4;clear hw4;have f1:=f (i*5+1);have f4:=f (i*5+4);have f0:=f (i*5);have f2:=f (i*5+2);have d1:=h4.fG (i:=i) (by omega) (j:=1) (by decide);simp only[kU,Yg,Yi,h4.at_,aA.jY _ _ hi,e4]at d1;have d2:=h4.cells.2.1;change w4.cell? ⟨g,1,none⟩=some (.int .i64 M.iL) at d2;have d3:((((M.sec i).cnt+1:Nat)):Int)=(M.sec i).cnt+1:=rfl;rw[d3]at d1;have H4:=zH h4;have C4:=zH ch4;have E4:=zH e4;have LE:=zH l4;have hkk:((M.kind:Int) == 1)=false\/(((M.kind:Int) == 1)=true/\(((M.sec i).st:Int) == 0)=true):=by
    by_cases e1:M.kind=1
    ·right;rw[YG,YG];exact⟨by omega,by have:¬ (M.sec i).st≠0:=λh2=>hk1 ⟨e1,h2⟩;omega⟩
    ·left;rw[Yc];omega
   clear h f c3 c4 hk1 h4 ch4 e4 l4;have HE:=zH e;clear e;have hi2:i<L.S.length:=hiL;generalize hMn:M.n=n at *;by_cases hw:(M.sec i).cnt+1 > M.iL
   ·rw[zj hw];have hwI:(M.iL:Int)<((M.sec i).cnt:Int)+1:=by omega
    have hwB:decide ((M.iL:Int)<((M.sec i).cnt:Int)+1)=true:=zt hwI;rcases hkk with q1|⟨q1,q2⟩
    all_goals
     go_enter func244,ntmps244;go_wp2_with fail;rw[<-hW4.out];go_quiet (fail);have h5:=H4.out.below (Below.drewN (zB w4.heap.size w4) nq);have C5:=zH (C4.out.trans (Ch.of (X:=X) (R:=R) (Below.drewN (zB w4.heap.size w4) nq)));generalize w4.drewN nq=w5 at *;obtain⟨w6,L6,hw6,h6,e6,l6,ch6⟩:=h5.aoK (i:=i) (by rw[LE.out];exact hiL) 3 [];rw[E4.out]at hw6;subst hw6;have g0:=h5.sec.free (i*5);have g2:=h5.sec.free (i*5+2);rw[E4.out]at g0 g2;have m0:=h5.fG (i:=i) (by rw[LE.out];exact hiL) (j:=0) (by decide);have m2:=h5.fG (i:=i) (by rw[LE.out];exact hiL) (j:=2) (by decide);simp only[kU,Yg,Yi,YO,E4.out]at m0 m2;simp only[aA.rJ,aA.jY M _ (show i<M.n by omega)]at h6;change cu ((w5.setCell ⟨L.gs,i*5,none⟩ (.int .i64 3)).setCell ⟨L.gs,i*5+2,none⟩ (.string ⟨#[]⟩)) _ _ _ _ _ at h6;have H6:=zH h6;have c6:=C5.out.trans ch6;change Ch X R X R w ((w5.setCell ⟨L.gs,i*5,none⟩ (.int .i64 3)).setCell ⟨L.gs,i*5+2,none⟩ (.string ⟨#[]⟩)) at c6;have C6:=zH c6;clear h5 h6 ch6 c6 e6 l6;go_wp2_with fail;go_ret;exact⟨rfl,X,R,⟨L6,H6.out⟩,C6.out⟩
   ·rw[zi hw];have hwI:¬ (M.iL:Int)<((M.sec i).cnt:Int)+1:=by omega
    have hwB:decide ((M.iL:Int)<((M.sec i).cnt:Int)+1)=false:=zf hwI;rcases hkk with q1|⟨q1,q2⟩
    all_goals
     go_enter func244,ntmps244;go_wp2_with fail;rw[<-hW4.out];go_quiet (fail);have h5:=H4.out.below (Below.drewN (zB w4.heap.size w4) nq);have C5:=zH (C4.out.trans (Ch.of (X:=X) (R:=R) (Below.drewN (zB w4.heap.size w4) nq)));generalize w4.drewN nq=w5 at *;have H5:=zH h5;clear h5;go_wp2_with fail;go_ret;exact⟨rfl,X,R,⟨L4,H5.out⟩,C5.out⟩
theorem Ho.same{g:Nat}{X R:Nat->Prop}{w w':World}{M:aA}{c:Int}(h:fF w g M X R)(hb:Below w.heap.size w w'):Ho (c,M) g X R w (.returned (.int .i64 c)) w':=⟨rfl,X,R,h.below hb,.of hb⟩
theorem aey{w:World}{g:Nat}{M:aA}{X R:Nat->Prop}{N:Nat}(h:fF w g M X R)(ho:M.Ok N)(hN:N<=4611686018427387904)(a:Int)(raw:List UInt8)(hr:raw.length<=1000000):
 Calls prog 304 #[.pointer (some ⟨g,0,none⟩),.int .i64 a,.string (str raw)] w (Ho (M.record a raw) g X R w):=by
 obtain⟨L,hc⟩:=h;have HH:=zH (su hc ho.n.2 a);have HS:=zH (Ho.same (c:=2) ⟨L,hc⟩ (zB _ _));have G9:=zH (Ho.same (c:=1) ⟨L,hc⟩ (zB _ _));unfold aA.record;by_cases hb:0<=a/\a<(M.n:Int)
 ·rw[zj hb];rw[zt hb]at HH;obtain⟨k,rfl⟩:∃k:Nat,a=k:=⟨a.toNat,by omega⟩;have hk:k<M.n:=by omega
  have hs:=ho.sec k hk;have e1:((k:Int)).toNat=k:=by simp
  rw[e1];have HW:=zH (λst hst raw=>Zk hc ho.n.2 hk (zT hs.cnt hN) ho.iL.2 ho.kind hs.st st hst raw);by_cases hl:raw.length=2352
  ·rw[zj hl];have q:(((str raw).size:Int) != 2352)=false:=by rw[au,hl];rfl
   have hw1:=HW.out 1 (by decide) raw;change Calls prog 244 #[.pointer (some ⟨g,0,none⟩),.int .i64 k,.int .i64 1,.string (str raw)] w _ at hw1;have HW1:=zH hw1;clear hw1;clear hc ho hb hs HS G9 HW hl;generalize M.write k 1 raw=Z at *;go_enter func304,ntmps304;go_wp2_with fail;refine HH.out.mono ?_;rintro e w' ⟨rfl,rfl⟩;go_wp2_with fail;refine HW1.out.mono ?_;rintro e w' ⟨rfl,hw⟩;have HQ:=zH hw;clear hw;go_wp2_with fail;go_ret;exact⟨rfl,HQ.out⟩
  ·rw[zi hl];have q:(((str raw).size:Int) != 2352)=true:=by rw[au,XV];omega
   clear hc ho hb hs HS HW hl;go_enter func304,ntmps304;go_wp2_with fail;refine HH.out.mono ?_;rintro e w' ⟨rfl,rfl⟩;go_wp2_with fail;go_ret;exact G9.out
 ·rw[zi hb];rw[zf hb]at HH;clear hc ho hb G9;go_enter func304,ntmps304;go_wp2_with fail;refine HH.out.mono ?_;rintro e w' ⟨rfl,rfl⟩;go_wp2_with fail;go_ret;exact HS.out
theorem akr{w:World}{g:Nat}{M:aA}{X R:Nat->Prop}{N:Nat}(h:fF w g M X R)(ho:M.Ok N)(hN:N<=4611686018427387904)(a:Int):
 Calls prog 161 #[.pointer (some ⟨g,0,none⟩),.int .i64 a] w (Ho (M.uA a) g X R w):=by
 obtain⟨L,hc⟩:=h;have HH:=zH (su hc ho.n.2 a);have HS:=zH (Ho.same (c:=2) ⟨L,hc⟩ (zB _ _));unfold aA.uA;by_cases hb:0<=a/\a<(M.n:Int)
 ·rw[zj hb];rw[zt hb]at HH;obtain⟨k,rfl⟩:∃k:Nat,a=k:=⟨a.toNat,by omega⟩;have hk:k<M.n:=by omega
  have hs:=ho.sec k hk;have e1:((k:Int)).toNat=k:=by simp
  rw[e1];have hw1:=Zk hc ho.n.2 hk (zT hs.cnt hN) ho.iL.2 ho.kind hs.st 2 (by decide) [];change Calls prog 244 #[.pointer (some ⟨g,0,none⟩),.int .i64 k,.int .i64 2,.string ⟨#[]⟩] w _ at hw1;have HW1:=zH hw1;clear hw1;clear hc ho hb hs HS;generalize M.write k 2 []=Z at *;go_enter func161,ntmps161;go_wp2_with fail;refine HH.out.mono ?_;rintro e w' ⟨rfl,rfl⟩;go_wp2_with fail;refine HW1.out.mono ?_;rintro e w' ⟨rfl,hw⟩;have HQ:=zH hw;clear hw;go_wp2_with fail;go_ret;exact⟨rfl,HQ.out⟩
 ·rw[zi hb];rw[zf hb]at HH;clear hc ho hb;go_enter func161,ntmps161;go_wp2_with fail;refine HH.out.mono ?_;rintro e w' ⟨rfl,rfl⟩;go_wp2_with fail;go_ret;exact HS.out
theorem Fh{α:Type}(D:α->List Value)(x:α)(sz n:Nat)(h0:0<sz)(hD:∀y,(D y).length=sz):(madeCells (D x).toArray (n*sz)).toList=fH D (List.replicate n x):=by
 apply YS;intro k;by_cases hk:k<n*sz
 ·have e:k/sz*sz+k%sz=k:=by rw[XI];exact Nat.div_add_mod k sz
  have hki:k/sz<n:=Nat.div_lt_of_lt_mul (by rw[XI];exact hk);have hkj:k%sz<sz:=Nat.mod_lt _ h0;have h2:=uM (d:=x) hD (List.replicate n x) (k/sz) (k%sz) (by simpa using hki) hkj;rw[e]at h2;have e3:aJ x (List.replicate n x) (k/sz)=x:=by simp[aJ,hki]
  rw[h2,e3];have hlt:k%sz<(D x).length:=by rw[hD];exact hkj
  simp only[madeCells,Array.toList_map,Array.toList_range,Xp,XJ hk,Option.map_some,Xh,hD];rw[getElem!_pos _ _ (by simpa using hlt),Ye hlt];simp
 ·rw[Yh (by simp[madeCells];omega),Yh (by rw[fJ hD];simp;omega)]
theorem infoSurf:(prog.info? 175).map (λi=>(i.zero,i.size,i.bytes))=some (some (.agg (kU dD).toArray),5,48):=by kernel_rfl
theorem IQ{w:World}{ops:Array Oper}{rest:List Oper}{o:Oper}{a:Act}{Q:Exit->Act->World->Prop}
 (hg:o.guard=none)(l c:Operand)(hop:o.op=Op.makeSlice 163 l c)
 {L C:Int}(n:Nat)(hl:a.eval l=.int .i64 L)(hc:a.eval c=.int .i64 C)(hL:L=(n:Int))(hC:C=(n:Int))(b3:n<=1000000)
 (hK:∀w',Bx w' w.heap.size 175 (fH kU (List.replicate n dD))->Below w.heap.size w w'->w.heap.size<w'.heap.size->wpList prog ops Q rest (a.put o.dst (.slice (some ⟨w.heap.size,0,none⟩) n n)) w'):
 wpList prog ops Q (o::rest) a w:=by
 obtain⟨i0,hi,hz0,hz1,hz2⟩:=info_parts infoSurf;refine wpList_make_full w hg l c _ hop w.heap.size 175 i0 _ 5 underlying163 hi hz0 hz1 .i64 .i64 L C n hl hc hL hC (by rw[hz2];omega) (by unfold maxLen;omega) (zl _) λw' h3 h4=>hK w' ?_ ((zB _ _).grown h4 (zl _) (λk hk=>by cases hk)) ?_
 ·have e1:(Value.agg (kU dD).toArray).cells=(kU dD).toArray:=rfl;rw[e1,Fh kU dD 5 n (by decide) kC]at h3;exact Bx.bg h3
 ·exact(h3.lt w.heap.size rfl).2
def amC(k s e:Int):Prop:=(k=1\/k=2)/\(1<=s/\s<=4096)/\1<=e/\e<=1048576
def ai1(k n en:Nat)(w:World)(e:Ending)(w':World):Prop:=∃g X R,e=.returned (.tuple #[.pointer (some ⟨g,0,none⟩),.int .i64 0])/\fF w' g (jX k n en) X R/\Below w.heap.size w w'/\∀b,X b\/R b->w.heap.size<=b
theorem cu.fresh{w w1 w2:World}(k n en:Nat)(hk:k<=2)(hb:Bx w1 w.heap.size 175 (fH kU (List.replicate n dD)))(hb1:Below w.heap.size w w1)
 (h2:w2=w1.alloc (.cells #[.int .i64 k,.int .i64 en,.slice (some ⟨w.heap.size,0,none⟩) n n,.slice none 0 0,.map none] 166)):
 ai1 k n en w (.returned (.tuple #[.pointer (some ⟨w1.heap.size,0,none⟩),.int .i64 0])) w2:=by
 subst h2;have hlt:=hb.lt;have hat:∀i,i<n->aJ dD (List.replicate n dD) i=dD:=λi hi=>by simp[aJ,hi]
 refine⟨w1.heap.size,λb=>b=w.heap.size\/b=w1.heap.size,λ_=>False,rfl,⟨⟨List.replicate n dD,w.heap.size,[],n,.slice none 0 0,none⟩,?_,?_,?_,by simp,?_,?_,?_,?_,.inr rfl,.inl rfl,?_,?_,?_,?_,λb hb=>by cases hb⟩,hb1.alloc hb1.size _,?_⟩
 ·simp[jX,dD]
 ·rw[Yq];exact Bx.new w1 _ _
 ·rw[List.append_nil];exact hb.alloc _
 ·intro i p hi;simp only[Yq]at hi;simp only[hat i hi];cases p
  ·exact λ_=>rfl
  ·exact λ_=>rfl
 ·intro i j p q b hi hj h1 h2;simp only[Yq]at hi;simp only[hat i hi]at h1;cases p <;> simp[SM.bk,dD]at h1
 ·intro w' _;exact dB.nil w'
 ·intro w' _ i hi;show fE _ [] i = [];have e:∀m,ed [] m = []:=λm=>kP (λf=>by
   have:lT [] f 28 = []:=by simp[lT,pU]
   rw[yg,this];decide) m
  simp[fE,qE,sD,e]
 ·intro i p b hi h1;simp only[Yq]at hi;simp only[hat i hi]at h1;cases p <;> simp[SM.bk,dD]at h1
 ·rintro b ((rfl|rfl)|h)
  ·simp;omega
  ·simp
  ·exact h.elim
 ·intro b _ h;exact h
 ·intro s hs;cases hs
 ·rintro b ((rfl|rfl)|h)
  ·exact zl _
  ·omega
  ·exact h.elim
theorem amA(k s e:Int)(h:amC k s e)(w:World):
 Calls prog 34 #[.int .i64 k,.int .i64 s,.int .i64 e] w (ai1 k.toNat s.toNat e.toNat w):=by
 obtain⟨hk,⟨s1,s2⟩,e1,e2⟩:=h;obtain⟨n,rfl⟩:∃n:Nat,s=n:=⟨s.toNat,by omega⟩;obtain⟨m,rfl⟩:∃n:Nat,e=n:=⟨e.toNat,by omega⟩;rw[Yw,Yw];rcases hk with rfl|rfl
 all_goals
  go_enter func34,ntmps34;go_wp2_with (refine IQ rfl _ _ rfl n rfl rfl rfl rfl (by omega) ?_;intro w1 hb hb1 hlt);go_ret2;exact cu.fresh _ n m (by decide) hb hb1 rfl
theorem Qu(x:Int)(w:World):Calls prog 92 #[.int .i64 x] w λe w'=>e=.returned (.bool (decide (0<=x/\x<2352)))/\w=w':=by
 by_cases h0:0<=x
 ·by_cases h1:x<2352
  ·rw[zt ⟨h0,h1⟩];go_enter func92,ntmps92;go_wp2_with fail;go_ret;exact⟨AA (by simp),rfl⟩
  ·rw[zf λe=>h1 e.2];go_enter func92,ntmps92;go_wp2_with fail;go_ret;exact⟨AA (by simp),rfl⟩
 ·rw[zf λe=>h0 e.1];go_enter func92,ntmps92;go_wp2_with fail;go_ret;exact⟨AA (by simp),rfl⟩
def chc(c:Int×Int):List Value:=[.int .i64 c.1,.int .i64 c.2]
def alb(w:World)(v:Value)(l:List (Int×Int)):Prop:=dB (0,0) chc 2 w v l
def OJ(l:List (Int×Int))(i:Nat):Int×Int:=aJ (0,0) l i
def In64(x:Int):Prop:=-9223372036854775808<=x/\x<=9223372036854775807
structure RJ (w:World) (vE vC:Value) (d:Ia):Prop where
 er:lu w vE d.er
 ch:alb w vC d.ch
 aj:In64 d.aj
 len:d.ch.length<=1000000000000
 wf:∀i,i<d.ch.length->In64 (OJ d.ch i).1/\In64 (OJ d.ch i).2
theorem RJ.below{w w':World}{vE vC:Value}{d:Ia}(h:RJ w vE vC d)(hb:Below w.heap.size w w'):RJ w' vE vC d:=⟨h.er.keep hb,dB.keep h.ch hb,h.aj,h.len,h.wf⟩
def ZO(vE vC:Value)(d:Ia):Value:=.agg #[.int .i64 d.aj,vE,vC]
def erK(l:List Int)(k:Nat):Prop:=(∀i,i<k->0<=aI l i/\aI l i<2352)/\∀i,i+1<k->aI l i<aI l (i+1)
theorem agc{l:List Int}(h:erK l l.length):(∀x∈l,0<=x/\x<2352)/\l.Pairwise (· < ·):=by
 refine⟨λx hx=>?_,?_⟩
 ·obtain⟨i,hi,rfl⟩:=YL hx;have:=h.1 i hi;rwa[W8.bT hi]at this
 ·rw[Vd];have key:∀d i,i+d+1<l.length->aI l i<aI l (i+d+1):=by
   intro d
   induction d with
   |zero=>intro i hi;exact h.2 i hi
   | succ d ih=>
     intro i hi;have h1:=ih i (by omega);have h2:=h.2 (i+d+1) (by omega);have e:i+(d+1)+1=i+d+1+1:=by omega
     rw[e];omega
  intro i j hi hj hij;have:=key (j-i-1) i (by omega);have e:i+(j-i-1)+1=j:=by omega
  rw[e,W8.bT hi,W8.bT hj]at this;exact this
theorem V4{l:List Int}{k:Nat}(hk:k<l.length)(h:¬ erK l (k+1))(h0:erK l k):¬ ((∀x∈l,0<=x/\x<2352)/\l.Pairwise (· < ·)):=by rintro⟨h1,h2⟩;refine h ⟨λi hi=>h1 _ (W8.di (by omega)),λi hi=>?_⟩;rw[Vd]at h2;have:=h2 i (i+1) (by omega) (by omega) (by omega);rw[W8.bT (by omega),W8.bT (by omega)];exact this
theorem yc{l:List Int}{k:Nat}(h:erK l k):erK l (k+1)↔(0<=aI l k/\aI l k<2352)/\(0<k->aI l (k-1)<aI l k):=by
 constructor
 ·rintro⟨h1,h2⟩;refine⟨h1 k (by omega),λh0=>?_⟩;have:=h2 (k-1) (by omega);have e:k-1+1=k:=by omega
  rwa[e]at this
 ·rintro⟨h1,h2⟩;refine⟨λi hi=>?_,λi hi=>?_⟩
  ·by_cases e:i=k
   ·rw[e];exact h1
   ·exact h.1 i (by omega)
  ·by_cases e:i+1=k
   ·have:=h2 (by omega);have e2:k-1=i:=by omega
    rw[e2]at this;rw[e];exact this
   ·exact h.2 i (by omega)
theorem Kz.made(w:World)(f:Nat->Bool)(hf:∀k,f k=false):Kz (w.alloc (.map #[] 0)) (some w.heap.size) f:=
 ⟨.map [],(World.ownsMap_made _ _ _ _).mono (by omega),λx=>by rw[hf];simp[Maps.has]⟩
theorem DI.made(w:World)(f:Nat->UInt8)(hf:∀k,f k=0):DI (w.alloc (.map #[] 0)) (some w.heap.size) f:=
 ⟨.map [],(World.ownsMap_made _ _ _ _).mono (by omega),λx h=>by simp[Maps.has]at h,λk _=>by rw[hf];rfl⟩
theorem aA.QQ(M:aA){i:Nat}(h:i<M.n):M.put i (M.sec i)=M:=by
 unfold aA.put aA.sec;have:M.secs.set i (aJ blank M.secs i)=M.secs:=by
  apply YS;intro k;rw[YP];split
  ·rename_i e
   subst e;have h':i<M.secs.length:=h;simp[aJ,h']
  ·rfl
 rw[this]
section
variable {X R:Nat->Prop} {w w':World} {g:Nat} {L:Lay} {M:aA}
theorem cu.MK(h:cu w g L M X R){i:Nat}(hi:i<L.S.length)(p:Bool)(hp:(aJ dD L.S i).bk p=none):
 ∃L2 X2,cu ((w.alloc (.map #[] 0)).setCell ⟨L.gs,i*5+(if p=true then 3 else 4),none⟩ (.map (some w.heap.size))) g L2 M X2 R/\L2.gs=L.gs/\L2.S.length=L.S.length/\(aJ dD L2.S i).bk p=some w.heap.size/\(aJ dD L2.S i).bk (!p)=(aJ dD L.S i).bk (!p)/\
   Ch X R X2 R w ((w.alloc (.map #[] 0)).setCell ⟨L.gs,i*5+(if p=true then 3 else 4),none⟩ (.map (some w.heap.size))):=by
 have ha:=(zB w.heap.size w).alloc (zl _) (.map #[] 0);have h1:=h.below ha;have hn:i<M.n:=by rw[<-h.n];exact hi
 have hm:=λq=>h1.maps i q hi
 have hs:=h.at_ i;have hXl:∀b,X b->b≠w.heap.size:=λb hb e=>by have:=h.lt b (.inl hb);omega
 have hRl:∀b,R b->b≠w.heap.size:=λb hb e=>by have:=h.lt b (.inr hb);omega
 have hbl:∀q b,(aJ dD L.S i).bk q=some b->b≠w.heap.size:=λq b hb=>hXl b (h.xm i q b hi hb)
 have hsz:w.heap.size<(w.alloc (.map #[] 0)).heap.size:=by simp
 generalize hxx:aJ dD L.S i=x at *;have hself:M.put i x.s=M:=by rw[hs];exact aA.QQ M hn
 have hcx:∀(X2:Nat->Prop)(a:Addr)(u:Value),a.block=L.gs->(∀b,X2 b->X b\/w.heap.size<=b)->Ch X R X2 R w ((w.alloc (.map #[] 0)).setCell a u):=λX2 a u hab hX2=>
  ⟨rfl,rfl,rfl,by simp,λb hb hX=>(zh (w.alloc (.map #[] 0)) a u b λe=>hX (by rw[e,hab];exact h.xs)).trans (ha.block b hb),hX2,λ_ h=>.inl h⟩
 cases p with
 | true=>
   have he:x.e=none:=hp;have he0:Kz (w.alloc (.map #[] 0)) none x.s.er:=by have:=hm true;unfold SM.W at this;rw[zj rfl,he]at this;exact this
   have k:=h1.store hi (j:=3) (by decide) (.map (some w.heap.size)) {x with e:=some w.heap.size} (by rw[hxx];rfl) (λq=>by cases q with
    |true=>exact Kz.made w _ he0
    | false=>exact hm false) (fun q b hb=>by
      rw[hxx];cases q with
      |true=>right;obtain rfl:w.heap.size=b:=zs hb;exact⟨λh2=>hXl _ h2 rfl,λh2=>hRl _ h2 rfl,hsz⟩
      |false=>left;exact hb) (λb h2 h3=>by obtain rfl:w.heap.size=b:=zs h2;exact hbl false _ h3 rfl)
   rw[show({x with e:=some w.heap.size }:SM).s=x.s from rfl,hself]at k;refine⟨_,_,k,rfl,by simp,?_,?_,hcx _ _ _ rfl ?_⟩
   ·simp only[aQ _ _ _ hi];rfl
   ·simp only[aQ _ _ _ hi];rfl
   ·rintro b (h2|h2|h2)
    ·exact .inl h2
    ·exact .inr (by have:=zs h2;omega)
    ·exact .inl (h.xm i false b hi (by rw[hxx];exact h2))
 | false=>
   have he:x.c=none:=hp;have he0:DI (w.alloc (.map #[] 0)) none x.s.ch:=by have:=hm false;unfold SM.W at this;rw[zi (by decide),he]at this;exact this
   have k:=h1.store hi (j:=4) (by decide) (.map (some w.heap.size)) {x with c:=some w.heap.size} (by rw[hxx];rfl) (λq=>by cases q with
    |true=>exact hm true
    | false=>exact DI.made w _ he0) (fun q b hb=>by
      rw[hxx];cases q with
      |false=>right;obtain rfl:w.heap.size=b:=zs hb;exact⟨λh2=>hXl _ h2 rfl,λh2=>hRl _ h2 rfl,hsz⟩
      |true=>left;exact hb) (λb h2 h3=>by obtain rfl:w.heap.size=b:=zs h3;exact hbl true _ h2 rfl)
   rw[show({x with c:=some w.heap.size }:SM).s=x.s from rfl,hself]at k;refine⟨_,_,k,rfl,by simp,?_,?_,hcx _ _ _ rfl ?_⟩
   ·simp only[aQ _ _ _ hi];rfl
   ·simp only[aQ _ _ _ hi];rfl
   ·rintro b (h2|h2|h2)
    ·exact .inl h2
    ·exact .inl (h.xm i true b hi (by rw[hxx];exact h2))
    ·exact .inr (by have:=zs h2;omega)
end
theorem jC:Keyed prog 3:=int_keyed underlying3
theorem afb{x:Int}(h0:0<=x)(h1:x<2352):(Lit.int .i64 x).wf=true:=by simp[Lit.wf,IntKind.min,IntKind.max,IntKind.signed,IntKind.bits];omega
theorem amU(x:UInt8):(Lit.int .u8 x.toNat).wf=true:=by have:=x.toNat_lt;simp[Lit.wf,IntKind.min,IntKind.max,IntKind.signed,IntKind.bits];omega
theorem acY:∀w,(zeroValue 5).run prog w=.ok (.int .u8 0) w:=λ_=>by kernel_rfl
theorem NQ{w:World}{ops:Array Oper}{rest:List Oper}{o:Oper}{a:Act}{Q:Exit->Act->World->Prop}
 (hg:o.guard=none)(m x v:Operand)(hop:o.op=Op.mapUpdate 76 m x v){b:Nat}{f:Nat->Bool}(hown:Kz w (some b) f)(hm:a.eval m=.map (some b)){X:Int}(hx:a.eval x=.int .i64 X)(hv:a.eval v=.bool true)
 (h0:0<=X)(h1:X<2352)(hf:∀k,f k=true->k<2352)
 (hK:∀w',Kz w' (some b) (λk:Nat=>if (k:Int)=X then true else f k)->w.grownBy w' (some b)->wpList prog ops Q rest (a.put o.dst undef) w'):wpList prog ops Q (o::rest) a w:=by
 obtain⟨D,hown,hh⟩:=hown;refine wpList_mapUpdate_own _ hg m x v 76 hop 3 4 jC underlying76 _ b 2352 D hm hown (by unfold maxLen;omega) _ _ _ hx hv (keyOf_int_mk underlying3 (afb h0 h1)) _ [] (plainElem_bool underlying4 true) ?_;intro w' ho hgr;have hput:∀y:Int,Maps.has (D.put (.int .i64 X) (.lit (.bool true))) (.int .i64 y)=(decide (0<=y) && (if ((y.toNat:Nat):Int)=X then true else f y.toNat)):=λy=>by
  by_cases e:y=X
  ·subst e;rw[has_put_same hown.isMap (by trivial)];have e1:((y.toNat:Nat):Int)=y:=by omega
   rw[zj e1,zt h0];rfl
  ·rw[has_put_other (by simpa using e),hh y];by_cases h2:0<=y
   ·rw[zi (by omega)]
   ·rw[zf h2];rfl
 refine hK w' ⟨_,Mp.tight ho λy hy=>?_,hput⟩ hgr;rw[hput y]at hy;simp only[Yt,Yj]at hy;obtain⟨h2,h3⟩:=hy;split at h3
 ·omega
 ·have:=hf _ h3;omega
theorem DI.run{w:World}{b:Nat}{f:Nat->UInt8}(h:DI w (some b) f)(x:Int)(h0:0<=x)(h1:x<2352):
 (Instr.lookup 173 (.map (some b)) (.int .i64 x) false).run prog w=.ok (.int .u8 (f x.toNat).toNat) w:=by
 obtain⟨D,hown,_,hf⟩:=h;obtain⟨v,ps,hrun,hv⟩:=hown.lookup jC underlying173 (z:=.int .u8 0) (acY w) (plainElem_int underlying5 (a:=0) (by decide)) (keyOf_int_mk underlying3 (afb h0 h1));obtain⟨c,rfl,hc,_⟩:=plainElem_int_inv underlying5 hv;simp only[XX]at hc;have h2:=hf x.toNat (by omega);rw[show((x.toNat:Nat):Int)=x by omega]at h2;rw[h2]at hc;have:c=(f x.toNat).toNat:=by simpa using hc.1.symm
 rw[hrun,this]
theorem NP{w:World}{ops:Array Oper}{rest:List Oper}{o:Oper}{a:Act}{Q:Exit->Act->World->Prop}
 (hg:o.guard=none)(m x v:Operand)(hop:o.op=Op.mapUpdate 173 m x v){b:Nat}{f:Nat->UInt8}(hown:DI w (some b) f)(hm:a.eval m=.map (some b)){X:Int}(hx:a.eval x=.int .i64 X)(V:UInt8)(hv:a.eval v=.int .u8 V.toNat)
 (h0:0<=X)(h1:X<2352)
 (hK:∀w',DI w' (some b) (λk:Nat=>if (k:Int)=X then V else f k)->w.grownBy w' (some b)->wpList prog ops Q rest (a.put o.dst undef) w'):wpList prog ops Q (o::rest) a w:=by
 obtain⟨D,hown,hb,hh⟩:=hown;refine wpList_mapUpdate_own _ hg m x v 173 hop 3 5 jC underlying173 _ b 2352 D hm hown (by unfold maxLen;omega) _ _ _ hx hv (keyOf_int_mk underlying3 (afb h0 h1)) _ [] (plainElem_int underlying5 (amU V)) ?_;intro w' ho hgr;have hbd:∀y:Int,Maps.has (D.put (.int .i64 X) (.lit (.int .u8 V.toNat))) (.int .i64 y)=true->0<=y/\y<2352:=λy hy=>by
  by_cases e:y=X
  ·subst e;exact⟨h0,h1⟩
  ·rw[has_put_other (by simpa using e)]at hy;exact hb y hy
 refine hK w' ⟨_,Mp.tight ho hbd,hbd,λk hk=>?_⟩ hgr;show _=DataW.lit (.int .u8 ((if (k:Int)=X then V else f k).toNat:Nat));by_cases e:(k:Int)=X
 ·subst e;rw[zj rfl,atKey_put_same hown.isMap (by trivial)]
 ·rw[zi e,atKey_put_other (by simpa using e)];exact hh k hk
section
variable {X R:Nat->Prop} {w w':World} {g:Nat} {L:Lay} {M:aA}
theorem cu.ajq(h:cu w g L M X R){i b:Nat}(hi:i<L.S.length)(he:(aJ dD L.S i).e=some b)(hg:w.grownBy w' (some b)){f:Nat->Bool}(hm:Kz w' (some b) f):
 ∃L2,cu w' g L2 (M.put i {M.sec i with er:=f}) X R/\L2.gs=L.gs/\L2.S.length=L.S.length/\(aJ dD L2.S i).e=some b/\(aJ dD L2.S i).c=(aJ dD L.S i).c/\Ch X R X R w w':=by
 have hs:=h.at_ i;have k:=h.grown hi (p:=true) he hg {(aJ dD L.S i) with s:={(aJ dD L.S i).s with er:=f} } rfl rfl rfl (by show Kz w' (aJ dD L.S i).e f;rw[he];exact hm) (h.maps i false hi);obtain⟨k1,k2⟩:=k;simp only[hs]at k1;exact⟨_,k1,rfl,by simp,by simp only[aQ _ _ _ hi];exact he,by simp only[aQ _ _ _ hi],k2⟩
theorem cu.ajg(h:cu w g L M X R){i b:Nat}(hi:i<L.S.length)(he:(aJ dD L.S i).c=some b)(hg:w.grownBy w' (some b)){f:Nat->UInt8}(hm:DI w' (some b) f):
 ∃L2,cu w' g L2 (M.put i {M.sec i with ch:=f}) X R/\L2.gs=L.gs/\L2.S.length=L.S.length/\(aJ dD L2.S i).c=some b/\(aJ dD L2.S i).e=(aJ dD L.S i).e/\Ch X R X R w w':=by
 have hs:=h.at_ i;have k:=h.grown hi (p:=false) he hg {(aJ dD L.S i) with s:={(aJ dD L.S i).s with ch:=f} } rfl rfl rfl (by show DI w' (aJ dD L.S i).c f;rw[he];exact hm) (h.maps i true hi);obtain⟨k1,k2⟩:=k;simp only[hs]at k1;exact⟨_,k1,rfl,by simp,by simp only[aQ _ _ _ hi];exact he,by simp only[aQ _ _ _ hi],k2⟩
end
end wu
end Go.Proofs.YtfnehkmhcmkhjaaGreat
