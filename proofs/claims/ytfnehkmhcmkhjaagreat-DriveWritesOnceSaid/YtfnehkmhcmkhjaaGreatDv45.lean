/- Parts:XKn -/
import Derived.Test.YtfnehkmhcmkhjaaGreatDvAl
import Derived.Test.YtfnehkmhcmkhjaaGreatDv43
import Derived.Test.YtfnehkmhcmkhjaaGreatDv42
set_option maxRecDepth 100000
set_option maxHeartbeats 8000000
set_option linter.unusedVariables false
set_option linter.unusedSimpArgs false
namespace Go.Proofs.YtfnehkmhcmkhjaaGreat
open Tryz
namespace T7
open Go Go.RowKit C9 oH
theorem G7{W W':World}{p pm:Nat}{kind n cl0:Int}{fin0:Bool}{t0 vc v:Value}{SA SB:ByteArray}{l:List T.az}(hbx:Bx W p 101 (kS kind n pm none cl0 fin0 t0 SA SB vc))(h:aW W v l)(hs:W.heap.size<=W'.heap.size)(hk:∀b,b<W.heap.size->b≠p->W'.heap[b]? = W.heap[b]?):aW W' v l:=by
 cases l with
 | nil=>
   obtain⟨a,c,rfl,_⟩:=bK.form h;exact bK.empty _ _ _ _ _
 | cons x r=>
   refine iK h fun k hv=>hk k (KD h (by simp) k hv) ?_
   rintro rfl;obtain⟨a,c,b,off,rfl,hac,hcell⟩:=h;obtain⟨ha,hr⟩:=hcell 0 (by simp);subst ha;obtain rfl:b=k:=zs hv;have key:∀j,j<7->∃y:Int,W.cell? ⟨b,off+0 * 7+j,none⟩=some (.int .i64 y):=fun j hj=>by
    match j,hj with
    | 0,_=>exact⟨_,hr 0 _ rfl⟩
    | 1,_=>exact⟨_,hr 1 _ rfl⟩
    | 2,_=>exact⟨_,hr 2 _ rfl⟩
    | 3,_=>exact⟨_,hr 3 _ rfl⟩
    | 4,_=>exact⟨_,hr 4 _ rfl⟩
    | 5,_=>exact⟨_,hr 5 _ rfl⟩
    | 6,_=>exact⟨_,hr 6 _ rfl⟩
   have c3:=hbx.cell (i:=3) rfl;by_cases h3:off<=3
   ·obtain⟨y,hy⟩:=key (3 - off) (by omega);rw[show off+0 * 7+(3 - off)=3 by omega]at hy;rw[hy]at c3; cases c3
   ·by_cases h6:off<=6
    ·have c6:=hbx.cell (i:=7) rfl;obtain⟨y,hy⟩:=key (7 - off) (by omega);rw[show off+0 * 7+(7 - off)=7 by omega]at hy;rw[hy]at c6; cases c6
    ·obtain⟨y,hy⟩:=key 6 (by omega);have hb:W.heap[b]? = some (.cells (kS kind n pm none cl0 fin0 t0 SA SB vc).toArray 101):=hbx;have hi:(kS kind n pm none cl0 fin0 t0 SA SB vc).toArray[off+0 * 7+6]? = none:=by rw[Array.getElem?_eq_none_iff];show 10<=_;omega
     simp[World.cell?,hb,hi]at hy
def yg(p pm:Nat)(kind n:Int)(SA SB:ByteArray)(cl:Int)(fin:Bool)(l:List T.az)(W W':World):Prop:=
 (W'.os=W.os/\W'.tape=W.tape/\W'.output=W.output/\W.heap.size<=W'.heap.size/\∀b,b<W.heap.size->b≠p->W'.heap[b]? = W.heap[b]?)/\(∃c0 f0 t0,Bx W p 101 (kS kind n pm none c0 f0 t0 SA SB (.slice none 0 0)))/\
  (W'.heap[p]? = W.heap[p]?\/∃v':Value,Bx W' p 101 (kS kind n pm none cl fin v' SA SB (.slice none 0 0))/\aW W' v' l)
section
variable {p pm:Nat} {kind n cl:Int} {SA SB:ByteArray} {fin:Bool} {l:List T.az} {W W':World}
theorem yg.refl(h:∃c0 f0 t0,Bx W p 101 (kS kind n pm none c0 f0 t0 SA SB (.slice none 0 0))):yg p pm kind n SA SB cl fin l W W:=⟨⟨rfl,rfl,rfl,zl _,fun _ _ _=>rfl⟩,h,.inl rfl⟩
theorem yg.call(h:∃c0 f0 t0,Bx W p 101 (kS kind n pm none c0 f0 t0 SA SB (.slice none 0 0)))(hb:Below W.heap.size W W'):yg p pm kind n SA SB cl fin l W W':=
 ⟨⟨hb.os,hb.tape,hb.output,hb.size,fun b h1 _=>hb.block b h1⟩,h,.inl (by obtain⟨_,_,_,hx⟩:=h; exact hb.block p hx.lt)⟩
theorem yg.rd{v:Value}{l2:List T.az}(h:yg p pm kind n SA SB cl fin l W W')(hr:aW W v l2):aW W' v l2:=by obtain⟨⟨_,_,_,hs,hk⟩,⟨c0,f0,t0,hx⟩,_⟩:=h;exact G7 hx hr hs hk
theorem yg.ae0{v':Value}(h:yg p pm kind n SA SB cl fin l W W')(h1:Bx W p 101 (kS kind n pm none cl fin v' SA SB (.slice none 0 0)))(h2:aW W v' l):∃v':Value,Bx W' p 101 (kS kind n pm none cl fin v' SA SB (.slice none 0 0))/\aW W' v' l:=by
 rcases h.2.2 with h3 | h3
 ·exact⟨v',(show Bx W' p _ _ from h3.trans h1),h.rd h2⟩
 ·exact h3
theorem yg.c{w:World}(h:yg p pm kind n SA SB cl fin l W W')(hc:(W.os=w.os/\W.tape=w.tape/\W.output=w.output/\w.heap.size<=W.heap.size/\∀b,b<w.heap.size->b≠p->W.heap[b]? = w.heap[b]?)/\True/\∃c0 f0 t0,Bx W p 101 (kS kind n pm none c0 f0 t0 SA SB (.slice none 0 0))):
 (W'.os=w.os/\W'.tape=w.tape/\W'.output=w.output/\w.heap.size<=W'.heap.size/\∀b,b<w.heap.size->b≠p->W'.heap[b]? = w.heap[b]?)/\True/\∃c0 f0 t0,Bx W' p 101 (kS kind n pm none c0 f0 t0 SA SB (.slice none 0 0)):=by
 obtain⟨⟨a1,a2,a3,a4,a5⟩,_,c0,f0,t0,hx⟩:=hc;obtain⟨⟨b1,b2,b3,b4,b5⟩,_,h3⟩:=h;refine⟨⟨b1.trans a1,b2.trans a2,b3.trans a3,zT a4 b4,fun b h1 h2=>(b5 b (by omega) h2).trans (a5 b h1 h2)⟩,trivial,?_⟩;rcases h3 with h3 | ⟨v',h3,_⟩
 ·exact⟨c0,f0,t0,h3.trans hx⟩
 ·exact⟨cl,fin,v',h3⟩
theorem yg.store{c0:Int}{f0:Bool}{t0 v':Value}(hbx:Bx W p 101 (kS kind n pm none c0 f0 t0 SA SB (.slice none 0 0)))(hr:aW W v' l):
 yg p pm kind n SA SB cl fin l W (((W.setCell ⟨p,4,none⟩ (.int .i64 cl)).setCell ⟨p,5,none⟩ (.bool fin)).setCell ⟨p,6,none⟩ v')/\∃v2:Value,Bx (((W.setCell ⟨p,4,none⟩ (.int .i64 cl)).setCell ⟨p,5,none⟩ (.bool fin)).setCell ⟨p,6,none⟩ v') p 101 (kS kind n pm none cl fin v2 SA SB (.slice none 0 0))/\aW (((W.setCell ⟨p,4,none⟩ (.int .i64 cl)).setCell ⟨p,5,none⟩ (.bool fin)).setCell ⟨p,6,none⟩ v') v2 l:=by
 have ho:=(((bU.refl p W).set 4 (.int .i64 cl)).set 5 (.bool fin)).set 6 v';have h1:=((hbx.set 4 (.int .i64 cl)).set 5 (.bool fin)).set 6 v';have h2:=G7 hbx hr (Nat.le_of_eq ho.size.symm) fun b _ hb=>ho.block b hb
 exact⟨⟨⟨ho.os,ho.tape,ho.output,Nat.le_of_eq ho.size.symm,fun b _ hb=>ho.block b hb⟩,⟨c0,f0,t0,hbx⟩,.inr ⟨v',h1,h2⟩⟩,v',h1,h2⟩
end
theorem zS{P:Program}{Q:Exit->Act->World->Prop}{R:World->World->Prop}{V:Nat->Value->World->Prop}{i:Nat}{o:Oper}{a:Act}{w:World}(h:∀K:Act->World->Prop,(∀v w',R w w'->V i (kept o.dst v) w'->K (a.put o.dst v) w')->o.wp P a w K Q):
 o.wp P a w (fun a' w'=>∃v,a'=a.put o.dst v/\R w w'/\V i (kept o.dst v) w') Q:=h _ fun v w' h1 h2=>⟨v,rfl,h1,h2⟩
theorem zU{P:Program}{Q:Exit->Act->World->Prop}{R:World->World->Prop}{V:Nat->Value->World->Prop}{i:Nat}{o:Oper}{a:Act}{w w':World}{v:Value}(hr:R w w')(hv:V i (kept o.dst v) w')(h:∀K:Act->World->Prop,K (a.put o.dst v) w'->o.wp P a w K Q):
 o.wp P a w (fun a' w'=>∃v,a'=a.put o.dst v/\R w w'/\V i (kept o.dst v) w') Q:=h _ ⟨v,rfl,hr,hv⟩
def LU(p b3 nc m k9:Nat)(cnt:Int)(a9:Option Addr)(i:Nat)(v:Value)(W:World):Prop:=match i with
 | 0=>v=.pointer (some ⟨b3,2,none⟩)
 | 1=>v=.int .i64 cnt
 | 2=>v=.pointer (some ⟨p,0,none⟩)
 | 3=>v=.pointer (some ⟨p,0,none⟩)
 | 4=>v=.pointer (some ⟨p,9,none⟩)
 | 5=>v=.slice a9 nc k9
 | 6=>v=.int .i64 (nc:Nat)
 | 7=>v=.int .i64 (m:Nat)
 | 8=>v=.int .i64 (m:Nat)
 | _=>True
theorem Jj(p b3 nc m k9:Nat)(cnt:Int)(a9:Option Addr)(i:Nat)(v:Value)(W W':World)(hR:(fun W W'=>W=W') W W')(h:LU p b3 nc m k9 cnt a9 i v W):LU p b3 nc m k9 cnt a9 i v W':=by unfold LU at h ⊢;split at h <;> first | exact h
def LV(p pm:Nat)(kind n:Int)(SA SB:ByteArray)(cl:Int)(fin:Bool)(q code:Int)(l:List T.az)(i:Nat)(v:Value)(W:World):Prop:=match i with
 | 0=>v=.pointer (some ⟨p,0,none⟩)
 | 1=>v=.pointer (some ⟨p,0,none⟩)
 | 2=>v=.pointer (some ⟨p,0,none⟩)
 | 3=>v=.pointer (some ⟨p,1,none⟩)
 | 4=>v=.int .i64 n
 | 5=>v=.pointer (some ⟨p,0,none⟩)
 | 6=>v=.pointer (some ⟨p,0,none⟩)
 | 7=>v=.pointer (some ⟨p,7,none⟩)
 | 8=>v=.agg #[.string SA,.string SB]
 | 9=>∃v':Value,v=.tuple #[au cl fin v',.int .i64 q,.int .i64 code]/\aW W v' l
 | 10=>∃v':Value,v=.tuple #[au cl fin v',.int .i64 q,.int .i64 code]/\aW W v' l
 | 11=>∃v':Value,v=au cl fin v'/\aW W v' l
 | 12=>v=.int .i64 q
 | 13=>v=.int .i64 code
 | 14=>v=.pointer (some ⟨p,0,none⟩)
 | 15=>v=.pointer (some ⟨p,4,none⟩)
 | 16=>∃v':Value,Bx W p 101 (kS kind n pm none cl fin v' SA SB (.slice none 0 0))/\aW W v' l
 | _=>True
theorem Jk(p pm:Nat)(kind n:Int)(SA SB:ByteArray)(cl:Int)(fin:Bool)(q code:Int)(l:List T.az)(i:Nat)(v:Value)(W W':World)(hR:(yg p pm kind n SA SB cl fin l) W W')(h:LV p pm kind n SA SB cl fin q code l i v W):LV p pm kind n SA SB cl fin q code l i v W':=by
 by_cases h9:i=9
 ·subst h9;obtain⟨v',h1,h2⟩:=h;exact⟨v',h1,hR.rd h2⟩
 by_cases h10:i=10
 ·subst h10;obtain⟨v',h1,h2⟩:=h;exact⟨v',h1,hR.rd h2⟩
 by_cases h11:i=11
 ·subst h11;obtain⟨v',h1,h2⟩:=h;exact⟨v',h1,hR.rd h2⟩
 by_cases h16:i=16
 ·subst h16;obtain⟨v',h1,h2⟩:=h;exact hR.ae0 h1 h2
 unfold LV at h ⊢;split at h <;> first | exact h | exact absurd rfl h9 | exact absurd rfl h10 | exact absurd rfl h11 | exact absurd rfl h16
theorem fH.UJ{w w':World}{p pm:Nat}{D:PD}{df:Option Addr}{vt vc v':Value}{E:World->Prop}{EX Xm Rm:Nat->Prop}(h:fH w p D pm df vt vc E EX Xm Rm)(hs:w.heap.size<=w'.heap.size)(hk:∀b,b<w.heap.size->b≠p->w'.heap[b]? = w.heap[b]?){cl:Int}{fin:Bool}{l:List T.az}
 (hbox:Bx w' p 101 (kS D.kind D.n pm df cl fin v' (str D.sA) (str D.sB) vc))(ht:aW w' v' l)(hf:∀k,v'.ownBlock=some k->w.heap.size<=k/\k<w'.heap.size):fH w' p (D.sU cl fin l) pm df v' vc E EX Xm Rm:=by
 obtain⟨L,hm⟩:=h.med;have hlo:=h.lo;have hp:=h.box.lt;refine⟨hbox,⟨L,hm.keep hs fun b hb=>hk b (hm.lt b hb) fun e=>by subst e; exact hb.elim h.ap.p1 h.ap.p2⟩,ht,fun k hb=>(hf k hb).2,xK h.ca fun k hb=>hk k (lM h.ca k hb) (h.ap.c1 k hb),fun w2 h2=>h.ex w2 fun b hb=>(h2 b hb).trans (hk b (h.el b hb) fun e=>h.ap.p3 (e ▸ hb)),fun b hb=>zL (h.el b hb) hs,
  ⟨h.ap.p1,h.ap.p2,h.ap.p3,h.ap.e1,h.ap.e2,fun k hb e=>?_,fun k hb hx=>?_,fun k hb hx=>?_,fun k hb e=>?_,h.ap.c1,h.ap.c2,h.ap.c3,h.ap.c4⟩⟩
 ·have:=(hf k hb).1; omega
 ·have:=(hf k hb).1; have:=hm.lt k (.inl hx); omega
 ·have:=(hf k hb).1; have:=h.el k hx; omega
 ·have:=(hf k hb).1; have:=lM h.ca k e; omega
theorem Ch.UJ{w w' w0:World}{X0 R0 EX Xm Rm:Nat->Prop}{p:Nat}{vc vt v':Value}(h:Ch X0 R0 (DX p vc EX Xm) (DR vt Rm) w0 w)(ho:w'.os=w.os/\w'.tape=w.tape/\w'.output=w.output/\w.heap.size<=w'.heap.size/\∀b,b<w.heap.size->b≠p->w'.heap[b]? = w.heap[b]?)(hf:∀k,v'.ownBlock=some k->w.heap.size<=k):Ch X0 R0 (DX p vc EX Xm) (DR v' Rm) w0 w':=by
 obtain⟨a1,a2,a3,a4,a5⟩:=ho;refine⟨a1.trans h.os,a2.trans h.tape,a3.trans h.output,zT h.size a4,fun b hb hx=>(a5 b (zL hb h.size) ?_).trans (h.block b hb hx),h.x,fun b hb=>?_⟩
 ·rintro rfl;exact(h.x b (.inl rfl)).elim hx (fun h3=>by omega)
 ·rcases hb with hb | hb
  ·exact h.r b (.inl hb)
  ·exact .inr (zT h.size (hf b hb))
theorem fH.Eg{w w':World}{p pm g n c:Nat}{D:PD}{df:Option Addr}{vc:Value}{E:World->Prop}{EX Xm Rm:Nat->Prop}(h:fH w p D pm df (.slice (some ⟨g,0,none⟩) n c) vc E EX Xm Rm)(hr:¬ Rm g)(hg:w.grownBy w' (some g)){l:List T.az}(ht:aW w' (.slice (some ⟨g,0,none⟩) n c) l):fH w' p { D with tr:=l } pm df (.slice (some ⟨g,0,none⟩) n c) vc E EX Xm Rm:=by
 obtain⟨L,hm⟩:=h.med;have hk:∀b,b<w.heap.size->b≠g->w'.heap[b]? = w.heap[b]?:=fun b h1 h2=>hg.block b h1 fun e=>h2 (zs e)
 have hgo:(Value.slice (some ⟨g,0,none⟩) n c).ownBlock=some g:=rfl;refine⟨(hk p h.box.lt fun e=>h.ap.t1 g hgo e.symm).trans h.box,⟨L,hm.keep hg.size fun b hb=>hk b (hm.lt b hb) fun e=>by subst e; exact hb.elim (h.ap.t2 b hgo) hr⟩,ht,fun k hb=>zL (h.tl k hb) hg.size,xK h.ca fun k hb=>hk k (lM h.ca k hb) fun e=>by subst e; exact h.ap.t4 k hgo hb,
  fun w2 h2=>h.ex w2 fun b hb=>(h2 b hb).trans (hk b (h.el b hb) fun e=>by subst e; exact h.ap.t3 b hgo hb),fun b hb=>zL (h.el b hb) hg.size,h.ap⟩
theorem Ch.Eg{w w' w0:World}{X0 R0 X R:Nat->Prop}{g:Nat}(h:Ch X0 R0 X R w0 w)(hg:w.grownBy w' (some g))(h0:w0.heap.size<=g):Ch X0 R0 X R w0 w':=
 ⟨hg.os.trans h.os,hg.tape.trans h.tape,hg.output.trans h.output,zT h.size hg.size,fun b hb hx=>(hg.block b (zL hb h.size) fun e=>by have:=zs e; omega).trans (h.block b hb hx),h.x,h.r⟩
def gX(M:aP)(l:List T.az)(k:Nat):List T.az:=(l.take k).map (jL M)++l.drop k
theorem BN(M:aP)(l:List T.az){k:Nat}(h:k<=l.length):(gX M l k).length=l.length:=by simp[gX]; omega
theorem zF(M:aP)(l:List T.az):gX M l 0=l:=by simp[gX]
theorem PG(M:aP)(l:List T.az):gX M l l.length=um M l:=by simp[gX,um]
theorem G9(M:aP)(l:List T.az){k:Nat}(h:k<l.length):T.tr (gX M l k) k=T.tr l k:=by unfold T.tr gX;rw[List.getElem?_append_right (by simp; omega)];simp[Nat.min_eq_left (Nat.le_of_lt h)]
theorem KI(M:aP)(l:List T.az){k:Nat}(h:k<l.length):(gX M l k).set k (jL M (T.tr l k))=gX M l (k+1):=by
 apply List.ext_getElem?;intro j;unfold gX;have e:T.tr l k=l[k]:=by simp[T.tr,h]
 rw[List.getElem?_set];by_cases hj:k=j
 ·subst hj;rw[zj rfl,zj (by simp; omega),List.getElem?_append_left (by simp; omega)];simp[e,h]
 ·rw[zi hj];by_cases hl:j<k
  ·rw[List.getElem?_append_left (by simp; omega),List.getElem?_append_left (by simp; omega)];simp[List.getElem?_take,hl,show j<k+1 by omega]
  ·rw[List.getElem?_append_right (by simp; omega),List.getElem?_append_right (by simp; omega)];simp only[List.length_map,List.length_take,List.getElem?_drop]
   congr 1
   omega
theorem Ql{cap cl:Int}{fin:Bool}{l:List T.az}(h:T.aQ cap cl fin l){i:Nat}(hi:i<l.length):TkB (T.tr l i):=by have h1:=T.aQ.at h hi;obtain⟨o1,o2,o3,o4,o5,o6,o7,o8,o9,JS,_⟩:=h.2.2.2.2.2.1 i hi;have:=h.2.1;exact⟨h1.2.1,o6,by omega,o8,o9⟩
theorem Pn{w w0:World}{p pm N:Nat}{D:PD}{vt vc:Value}{E:World->Prop}{EX Xm Rm X0 R0:Nat->Prop}(h:fH w p D pm none vt vc E EX Xm Rm)(hc:Ch X0 R0 (DX p vc EX Xm) (DR vt Rm) w0 w)(ho:gY D N)(hN:N<=4611686018427380000)
 (k aj cnt aN pk:Int)(hi:i64 cnt)(a5:Option Addr)(n5 c5:Nat)(hcn:cnt<0):
 Calls prog 84 #[.pointer (some ⟨p,0,none⟩),dR k aj cnt aN pk (.slice a5 n5 c5)] w (oK w0 X0 R0 p pm none E EX (N+65) (Kw cnt D).1 (Kw cnt D).2):=by
 obtain⟨wA,hwA⟩:∃w1,w1=(w.alloc (.cells #[.int .i64 k,.int .i64 aj,.int .i64 cnt,.int .i64 aN,.int .i64 pk,.slice a5 n5 c5] 49)).alloc (.cells aO.toArray 58):=⟨_,rfl⟩;obtain⟨b3,hb3⟩:∃b,b=w.heap.size:=⟨_,rfl⟩;obtain⟨b4,hb4⟩:∃b,b=w.heap.size+1:=⟨_,rfl⟩;have hA1:=(zB w.heap.size w).alloc (zl _) (.cells #[.int .i64 k,.int .i64 aj,.int .i64 cnt,.int .i64 aN,.int .i64 pk,.slice a5 n5 c5] 49);have hA:=hA1.alloc hA1.size (.cells aO.toArray 58);have bT:Bx ((w.alloc (.cells #[.int .i64 k,.int .i64 aj,.int .i64 cnt,.int .i64 aN,.int .i64 pk,.slice a5 n5 c5] 49)).alloc (.cells aO.toArray 58)) w.heap.size 49 [.int .i64 k,.int .i64 aj,.int .i64 cnt,.int .i64 aN,.int .i64 pk,.slice a5 n5 c5]:=(Bx.new w 49 [.int .i64 k,.int .i64 aj,.int .i64 cnt,.int .i64 aN,.int .i64 pk,.slice a5 n5 c5]).alloc _;have hbx:=Bx.new (w.alloc (.cells #[.int .i64 k,.int .i64 aj,.int .i64 cnt,.int .i64 aN,.int .i64 pk,.slice a5 n5 c5] 49)) 58 aO;rw[<-hwA]at hA hbx bT;rw[World.size_alloc,<-hb4]at hbx;rw[<-hb3]at bT;have yc:=zH (hc.trans (Ch.of hA));have qY:=zH (h.below hA);have ny:=zH hbx;have CP:=zH bT;have HB4:Hid (b4<wA.heap.size/\(∀b,DX p vc EX Xm b\/DR vt Rm b->b≠b4)/\w0.heap.size<=b4):=zH ⟨hbx.lt,fun b hb=>by have:=h.lo b hb; omega,by have:=hc.size; omega⟩;have wE:Hid ((w.alloc (.cells #[.int .i64 k,.int .i64 aj,.int .i64 cnt,.int .i64 aN,.int .i64 pk,.slice a5 n5 c5] 49)).alloc (.cells #[.int .i64 0,.int .i64 0,.slice none 0 0,.int .i64 0,.bool false,.slice none 0 0] 58)=wA):=zH hwA.symm;have qh:=zH hb4;have uO:=zH hb3;have HO:=zH ho;have HN:=zH hN;have x2:=bT.cell (i:=2) rfl;have jO:=zH (fU 4 0 wA);unfold dL Rp.sense at jO;have hz:Kw cnt D=(Rp.sense 4 0,D):=by unfold Kw; rw[zj hcn]
 rw[hz];have hcd:decide (cnt<0)=true:=zt hcn;clear hwA hb3 hb4 hA1 hA bT hbx h hc ho hN hi hz;unfold dR;go_enter func84,ntmps84;go_upto_region 1 with (fail)
 rw[wE.out,<-qh.out,<-uO.out];go_wp2_with fail;refine jO.out.mono ?_;rintro e w7 ⟨rfl,hb7⟩;have HD7:=zH (qY.out.below hb7);have kF:=zH (yc.out.trans (Ch.of (X:=DX p vc EX Xm) (R:=DR vt Rm) hb7));have hx7:=ny.out.call hb7;unfold aO at hx7;have t0:=hx7.cell (i:=0) rfl;have t1:=hx7.cell (i:=1) rfl;have t2:=hx7.cell (i:=2) rfl;have t3:=hx7.cell (i:=3) rfl;have t4:=hx7.cell (i:=4) rfl;have t5:=hx7.cell (i:=5) rfl;have tf:=fun i=>hx7.free i
 clear hx7 hb7 x2;go_wp2_with fail;exact zr (v:=dL (Rp.sense 4 0) (.slice none 0 0) (.slice none 0 0)) (by simp[results,results84,go_sem,dL,Rp.sense,t0,t1,t2,t3,t4,t5]) rfl ⟨vt,vc,Xm,Rm,rfl,dG HD7.out HB4.out.2.1 _ _ _ _ _ _,fB kF.out HB4.out.2.2 _ _ _ _ _ _,HO.out.ok.md.mono (by omega)⟩
theorem U9{P:Program}{t e:TypeId}(ht:P.underlying t=some (.slice e)){sz:Nat}(hs:(P.info? e).map (·.size)=some sz){v:Value}{w:World}{n:Nat}{f:Nat->List Value}(h:bK w sz v n f)(hi:Nat)(h2:hi<=n):
 ∃v',bK w sz v' hi f/\∀(y:Int)(w':World),y=hi->(Instr.slice t v none (some (.int .i64 y)) none).run P w'=.ok v' w':=by
 obtain⟨a,c,b,off,rfl,hc,hcell⟩:=h;cases hq:P.info? e with
 | none=>simp[hq]at hs
 | some i=>
   have hs1:i.size=sz:=by simpa[hq]using hs
   refine⟨.slice a hi c,⟨a,c,b,off,rfl,by omega,fun j hj=>hcell j (by omega)⟩,?_⟩;rintro y w' rfl;have ha:¬ c=0->Option.map (fun x=>x.add 0) a=a:=fun _=>by
    cases a with
    | none=>rfl
    | some ad=>simp[Addr.add]
   simp[Instr.slice,run_underlying ht,Instr.sliceBounds,run_sliceBound,sizeOf,typeInfo,hq,(by omega:hi<=c)];first | exact ha | skip
theorem RQ{W:World}{vc:Value}{l:List (Int×List UInt8)}(h:W.ownsRow 0 131 2 vc l.length (fK wF l)){m:Nat}(hm:m<=l.length):
 ∃a c,(∀(y:Int)(w':World),y=(m:Nat)->(Instr.slice 99 vc none (some (.int .i64 y)) none).run prog w'=.ok (.slice a m c) w')/\∀W2:World,W2.ownsRow 0 131 2 vc l.length (fK wF l)->dX Ai wF 2 W2 (.slice a m c) (l.take m):=by
 have hsz:(prog.info? 131).map (·.size)=some 2:=by kernel_rfl
 obtain⟨v',h1,e1⟩:=U9 (P:=prog) underlying99 hsz (dX.bM (d:=Ai) qx h) m hm;obtain⟨a,c,rfl,_⟩:=bK.form h1;refine⟨a,c,e1,fun W2 h2=>?_⟩;obtain⟨v2,h3,e3⟩:=U9 (P:=prog) underlying99 hsz (dX.bM (d:=Ai) qx h2) m hm;have e:=(e1 m W2 rfl).symm.trans (e3 m W2 rfl);simp only[Result.ok.injEq,and_true]at e;subst e;show bK W2 2 _ (l.take m).length _;rw[List.length_take,Nat.min_eq_left hm];refine bK.congr h3 fun i hi=>?_
 simp[bF,List.getElem?_take,hi]
structure PwL (w0:World) (X0 R0:Nat->Prop) (p pm b4 n8:Nat) (E:World->Prop) (EX X2 R2:Nat->Prop) (D:PD) (M:aP) (l:List T.az) (vt:Value) (j:Nat) (W:World):Prop where
 d:fH W p { D with tr:=gX M l j } pm none vt (.slice none 0 0) E EX X2 R2
 own:W.ownsRow n8 94 7 vt l.length (fl (gX M l j))
 ch:Ch X0 R0 (DX p (.slice none 0 0) EX X2) (DR vt R2) w0 W
 x4:Bx W b4 58 aO
theorem fH.YA{w:World}{p pm:Nat}{D:PD}{df:Option Addr}{vt vc:Value}{E:World->Prop}{EX Xm Rm:Nat->Prop}(hd:fH w p D pm df vt vc E EX Xm Rm):fH (w.setCell ⟨p,9,none⟩ (.slice none 0 0)) p { D with ca:=[] } pm df vt (.slice none 0 0) E EX Xm Rm:=
 hd.put ((bU.refl p w).set 9 _) (hd.box.set 9 _) rfl hd.tr hd.tl ⟨rfl,.inl ⟨rfl,rfl⟩⟩ ⟨hd.ap.p1,hd.ap.p2,hd.ap.p3,hd.ap.e1,hd.ap.e2,hd.ap.t1,hd.ap.t2,hd.ap.t3,fun k _ h=>(by cases h),fun k h=>(by cases h),fun k h=>(by cases h),fun k h=>(by cases h),fun k h=>by cases h⟩
theorem Ur{w w0:World}{p pm N:Nat}{D:PD}{vt vc:Value}{E:World->Prop}{EX Xm Rm X0 R0:Nat->Prop}(h:fH w p D pm none vt vc E EX Xm Rm)(hc:Ch X0 R0 (DX p vc EX Xm) (DR vt Rm) w0 w)(ho:gY D N)(hN:N<=4611686018427380000)
 (k aj cnt aN pk:Int)(hi:i64 cnt)(a5:Option Addr)(n5 c5:Nat)(hcn:0<=cnt):
 Calls prog 84 #[.pointer (some ⟨p,0,none⟩),dR k aj cnt aN pk (.slice a5 n5 c5)] w (oK w0 X0 R0 p pm none E EX (N+65) (Kw cnt D).1 (Kw cnt D).2):=by
 obtain⟨a9,k9,QP⟩:=bu h.ca;subst QP;obtain⟨wA,hwA⟩:∃w1,w1=(w.alloc (.cells #[.int .i64 k,.int .i64 aj,.int .i64 cnt,.int .i64 aN,.int .i64 pk,.slice a5 n5 c5] 49)).alloc (.cells aO.toArray 58):=⟨_,rfl⟩;obtain⟨b3,hb3⟩:∃b,b=w.heap.size:=⟨_,rfl⟩;obtain⟨b4,hb4⟩:∃b,b=w.heap.size+1:=⟨_,rfl⟩;have hA1:=(zB w.heap.size w).alloc (zl _) (.cells #[.int .i64 k,.int .i64 aj,.int .i64 cnt,.int .i64 aN,.int .i64 pk,.slice a5 n5 c5] 49);have hA:=hA1.alloc hA1.size (.cells aO.toArray 58);have bT:Bx ((w.alloc (.cells #[.int .i64 k,.int .i64 aj,.int .i64 cnt,.int .i64 aN,.int .i64 pk,.slice a5 n5 c5] 49)).alloc (.cells aO.toArray 58)) w.heap.size 49 [.int .i64 k,.int .i64 aj,.int .i64 cnt,.int .i64 aN,.int .i64 pk,.slice a5 n5 c5]:=(Bx.new w 49 [.int .i64 k,.int .i64 aj,.int .i64 cnt,.int .i64 aN,.int .i64 pk,.slice a5 n5 c5]).alloc _;have hbx:=Bx.new (w.alloc (.cells #[.int .i64 k,.int .i64 aj,.int .i64 cnt,.int .i64 aN,.int .i64 pk,.slice a5 n5 c5] 49)) 58 aO;rw[<-hwA]at hA hbx bT;rw[World.size_alloc,<-hb4]at hbx;rw[<-hb3]at bT;have yc:=zH (hc.trans (Ch.of hA));have qY:=zH (h.below hA);have ny:=zH hbx;have CP:=zH bT;have HB4:Hid (b4<wA.heap.size/\(∀b,DX p (.slice a9 D.ca.length k9) EX Xm b\/DR vt Rm b->b≠b4)/\w0.heap.size<=b4):=zH ⟨hbx.lt,fun b hb=>by have:=h.lo b hb; omega,by have:=hc.size; omega⟩;have wE:Hid ((w.alloc (.cells #[.int .i64 k,.int .i64 aj,.int .i64 cnt,.int .i64 aN,.int .i64 pk,.slice a5 n5 c5] 49)).alloc (.cells #[.int .i64 0,.int .i64 0,.slice none 0 0,.int .i64 0,.bool false,.slice none 0 0] 58)=wA):=zH hwA.symm;have qh:=zH hb4;have uO:=zH hb3;have HO:=zH ho;have HN:=zH hN;have x2:=bT.cell (i:=2) rfl;obtain⟨m,hm⟩:∃m,m=min cnt.toNat D.ca.length:=⟨_,rfl⟩;have hz:Kw cnt D=(Rp.ok,Zr m D):=by unfold Kw; rw[zi (by omega),<-hm]
 rw[hz];have aa0:m<=D.ca.length:=by rw[hm]; exact Nat.min_le_right _ _
 have HML:=zH aa0;obtain⟨av,cv,hcut,adi⟩:=RQ qY.out.ca aa0;have aca:=zH (fun w'=>hcut (m:Nat) w' rfl);have aex:=zH adi;have hcd:decide (cnt<0)=false:=zf (by omega);have HD1:=zH (qY.out.below ((zB wA.heap.size wA).drew));have HFL:=zH (Du HD1.out (Ch.refl (X:=DX p (.slice a9 D.ca.length k9) EX Xm) (R:=DR vt Rm)) HO.out.ok.md (.slice av m cv) (D.ca.take m) (by have:=HO.out.ok.n64; rw[List.length_take]; omega) (by have:=HO.out.ok.n64; rw[List.length_take]; omega) aex.out (fun x hx=>HO.out.ok.ca x (List.mem_of_mem_take hx)));obtain⟨c0,c1,c2,c3,c4,oJ,c6,c7,c8,c9⟩:=HD1.out.cells;have V8:=zH c9;have LG:Hid (wA.drew.cell? ⟨b3,2,none⟩=some (.int .i64 cnt)):=zH x2;have aeK:=zH (ny.out.call ((zB wA.heap.size wA).drew));have HT1:=zH (yc.out.trans (Ch.of (X:=DX p (.slice a9 D.ca.length k9) EX Xm) (R:=DR vt Rm) ((zB wA.heap.size wA).drew)));have hmn:min cnt (D.ca.length:Int)=(m:Nat):=by rw[hm]; omega
 have HMN:=zH hmn;obtain⟨nc,hnc⟩:∃n,n=D.ca.length:=⟨_,rfl⟩;have ZY:=zH hnc;rw[<-hnc]at HFL V8 HMN HB4 HD1 HT1 aca HML;have afr:=zH hi;clear hwA hb3 hb4 hA1 hA bT hbx h hc ho hN hi hz hm aa0 hcut adi c0 c1 c2 c3 c4 oJ c6 c7 c8 c9 hmn hnc hcn qY yc CP;unfold dR;go_enter func84,ntmps84;go_upto_region 1 with (fail)
 rw[wE.out,<-qh.out,<-uO.out];go_upto_region 3 with (fail)
 clear x2 hcd;refine cu (by kernel_rfl) (fun W W'=>W=W') (fun W=>Hid (W=wA.drew)) (LU p b3 nc m k9 cnt a9) (fun _=>false) (by kernel_rfl) (fun W W' hR h=>hR ▸ h) (Jj p b3 nc m k9 cnt a9) (zH rfl) ⟨?_,?s1,?_,?_,?_,?s5,?s6,?s7,?_,trivial⟩ ?_;all_goals first
  | (intro a W hc hsz hold ah
     have o0:a.tmps.getD 0 undef=.pointer (some ⟨p,0,none⟩):=hold 0 (by kernel_rfl);have o3:a.tmps.getD 3 undef=.pointer (some ⟨b3,0,none⟩):=hold 3 (by kernel_rfl);try have d2:=zV 13 (.pointer (some ⟨p,0,none⟩)) (ah 2 rfl rfl _ rfl)
     try have d3:=zV 14 (.pointer (some ⟨p,0,none⟩)) (ah 3 rfl rfl _ rfl)
     try have d7:=zV 18 (.int .i64 (m:Nat)) (ah 7 rfl rfl _ rfl)
     clear hsz hold ah;refine ai rfl (ag rfl) ?_;refine ak rfl rfl fun K hK=>?_
     go_simp;exact hK)
  | skip
 try case s1=>
  intro a W hc hsz hold ah;have d0:=zV 11 (.pointer (some ⟨b3,2,none⟩)) (ah 0 (by kernel_rfl) rfl _ rfl);obtain rfl:W=wA.drew:=hc.out;have z1:=LG.out;clear hsz hold ah;refine ai rfl (ag rfl) ?_;refine ak (v:=.int .i64 cnt) rfl rfl fun K hK=>?_
  go_simp;exact hK
 try case s5=>
  intro a W hc hsz hold ah;have d4:=zV 15 (.pointer (some ⟨p,9,none⟩)) (ah 4 (by kernel_rfl) rfl _ rfl);obtain rfl:W=wA.drew:=hc.out;have z1:=V8.out;clear hsz hold ah;refine ai rfl (ag rfl) ?_;refine ak (v:=.slice a9 nc k9) rfl rfl fun K hK=>?_
  go_simp;exact hK
 try case s6=>
  intro a W hc hsz hold ah;have d5:=zV 16 (.slice a9 nc k9) (ah 5 (by kernel_rfl) rfl _ rfl);have e5:=zq d5;clear hsz hold ah;refine ai rfl (ag rfl) ?_;refine ak (v:=.int .i64 (nc:Nat)) rfl rfl fun K hK=>?_
  go_simp;exact hK
 try case s7=>
  intro a W hc hsz hold ah;have d1:=zV 12 (.int .i64 cnt) (ah 1 (by kernel_rfl) rfl _ rfl);have e1:=zq d1;have d6:=zV 17 (.int .i64 (nc:Nat)) (ah 6 (by kernel_rfl) rfl _ rfl);have e6:=zq d6;clear hsz hold ah;refine ai rfl (ag rfl) ?_;have hmn:=HMN.out;refine ak (v:=.int .i64 (m:Nat)) rfl rfl fun K hK=>?_
  go_simp;exact hK
 ·intro a W hC hd hsz hold hval;have d5:a.tmps.getD 5 undef=.int .i64 (m:Nat):=hval 8 _ rfl rfl;obtain⟨G,hG,ha⟩:=cO [5,11,12,13,14,15,16,17,18] (by kernel_rfl) hd hsz hold;simp only[hG]at d5;rw[ha];clear ha hG hd hsz hold;simp only[bI,List.setIfInBounds_toArray,List.set,d5];clear d5;replace hC:W=wA.drew:=hC.out;subst hC;clear hval;have c9:=V8.out;have hcu:=aca.out;go_upto_region 5 with (go_at_call 155; refine HFL.out.mono ?_; rintro e w4 ⟨X4,R4,rfl,hd4,hc4,ade⟩)
  obtain⟨acV,acX⟩:=jV hc4 (by exact HB4.out.1) (fun k hk=>HB4.out.2.1 k hk);have HD4:=zH hd4;have HT4:=zH (HT1.out.trans hc4);have aes:=zH ade;have acx:Hid (Bx w4 b4 58 aO):=zH (acX.trans aeK.out);have abX:=zH acV;obtain⟨c0,c1,c2,c3,c4,oJ,c6,c7,c8,c9⟩:=hd4.cells;dsimp only at c0 c1 c2 c3 c4 oJ c6 c7 c8 c9;clear hd4 hc4 ade acV acX hcu
  go_upto_if 33 with (fail)
  go_cut [] from 33 to 48 (fun wx=>∃X2 R2,fH wx p { D with M:=wP m D } pm none vt (.slice a9 nc k9) E EX X2 R2/\Ch X0 R0 (DX p (.slice a9 nc k9) EX X2) (DR vt R2) w0 wx/\Bx wx b4 58 aO/\∀b,DX p (.slice a9 nc k9) EX X2 b\/DR vt R2 b->b≠b4)
  case first=>
   by_cases hlt:m<nc
   ·have hld:decide ((m:Int)<(nc:Int))=true:=zt (by omega);have hlt':m<D.ca.length:=by rw[<-ZY.out]; exact hlt
    have hPW:wP m D=((jm D.M (D.ca.take m)).1.pV (bF Ai D.ca m).1).2:=by unfold wP; rw[zj hlt']
    have HPW:=zH hPW;obtain⟨bo,off,kc⟩:=dX.at (dX.bM (d:=Ai) qx HD4.out.ca);obtain⟨ha9,hrg⟩:=kc m hlt';have hix:=fun w'=>aH (P:=prog) underlying99 (by kernel_rfl:(prog.info? 131).map (·.size)=some 2) (cap:=k9) ha9 hlt (m:Int) rfl w'
    have y0:=hrg 0 _ rfl;obtain⟨x0,hx0⟩:∃x,x=(bF Ai D.ca m).1:=⟨_,rfl⟩;rw[<-hx0]at y0 HPW;simp only[Nat.add_zero]at y0;have HTR:Hid (∀W,gZ W pm (jm D.M (D.ca.take m)).1 X4 R4->Calls prog 161 #[.pointer (some ⟨pm,0,none⟩),.int .i64 x0] W (VK ((jm D.M (D.ca.take m)).1.pV x0) pm X4 R4 W)):=zH fun W hW=>abK hW aes.out (by have:=HN.out; have:=HO.out.ok.n64; rw[List.length_take]; omega) x0
    have IP:=zH (fun(W:World) (hc:W.cell? ⟨p,3,none⟩=some (.pointer none))=>sG hc x0);clear hPW kc hrg hlt' hx0 ha9;go_upto_region 6 with (fail)
    go_still_tail 14,(by kernel_rfl)
    still_call (FX (IP.out _ (by assumption)))
    repeat still_step
    change wpList _ _ _ _ _ w4.drew;have hdr:=(zB w4.heap.size w4).drew;have hd5:=HD4.out.below hdr;have HC5:=zH (HTR.out w4.drew hd5.med);have HD5:=zH hd5;have acy:=zH (acx.out.call hdr);have HT5:=zH (HT4.out.trans (Ch.of (X:=DX p (.slice a9 nc k9) EX X4) (R:=DR vt R4) hdr));clear hdr hd5 c0 c1 c2 c3 c4 oJ c6 c7 c8 c9 y0 hix;go_wp2_with fail;refine HC5.out.mono ?_;rintro e w6 ⟨rfl,X6,R6,hm6,hc6⟩;obtain⟨hd6,xe⟩:=HD5.out.medium hm6 hc6;obtain⟨acW,acY⟩:=jV xe acy.out.lt (fun k hk=>abX.out k hk);have HG:=zH (show ∃X2 R2,fH w6 p { D with M:=wP m D } pm none vt (.slice a9 nc k9) E EX X2 R2/\Ch X0 R0 (DX p (.slice a9 nc k9) EX X2) (DR vt R2) w0 w6/\Bx w6 b4 58 aO/\∀b,DX p (.slice a9 nc k9) EX X2 b\/DR vt R2 b->b≠b4 from⟨X6,R6,by rw[HPW.out]; exact hd6,HT5.out.trans xe,acY.trans acy.out,acW⟩);clear hm6 hc6 hd6 xe acW acY;go_wp2_with fail;go_meet;exact HG.out
   ·have hld:decide ((m:Int)<(nc:Int))=false:=zf (by omega);have HPW:Hid (wP m D=(jm D.M (D.ca.take m)).1):=zH (by unfold wP; rw[zi (by rw[<-ZY.out]; exact hlt)]);go_wp2_with fail;go_meet;exact⟨X4,R4,by rw[HPW.out]; exact HD4.out,HT4.out,acx.out,abX.out⟩
  case rest=>
   obtain⟨X2,R2,hdx,htx,adn,aaO⟩:=hcut;obtain⟨M,hM⟩:∃M,M=wP m D:=⟨_,rfl⟩;rw[<-hM]at hdx;have HME:=zH hM;have hd7:=hdx.YA;have uf:=hdx.box.free 9;have ul:=hdx.box.lt;have u9:=hdx.box.cell (i:=9) rfl;obtain⟨w7,hw7⟩:∃w7,w7=wc.setCell ⟨p,9,none⟩ (.slice none 0 0):=⟨_,rfl⟩;have ho7:bU p wc w7:=by rw[hw7]; exact(bU.refl p wc).set 9 _
   have hp4:b4≠p:=Ne.symm (aaO p (.inl (.inl rfl)));have kF:Hid (Ch X0 R0 (DX p (.slice none 0 0) EX X2) (DR vt R2) w0 w7):=zH (Ch.put htx ho7 (fun k h=>by cases h) (fun k hk=>htx.r k (.inr hk)));have aac:Hid (Bx w7 b4 58 aO):=zH ((ho7.block b4 hp4).trans adn);rw[<-hw7]at hd7;have HD7:=zH hd7;have HW7:=zH hw7.symm;have QW:Hid (b4≠p/\∀b,X2 b\/EX b\/R2 b->b≠b4):=zH ⟨hp4,fun b hb=>aaO b (hb.elim (fun h1=>.inl (.inr (.inl h1))) (fun hb=>hb.elim (fun h1=>.inl (.inr (.inr (.inl h1)))) (fun h1=>.inr (.inl h1))))⟩;have V3:=zH (yE (hd7.cells).1);have ZU:Hid (((D.kind:Nat):Int)=1):=zH (by rw[HO.out.ok.kind]; rfl);clear hdx htx adn aaO hM hd7 hw7 ho7 hp4 c0 c1 c2 c3 c4 oJ c6 c7 c8 c9;go_upto_region 8 with (fail)
   rw[HW7.out];clear uf ul u9;go_upto_region 9 with (go_at_call 152; refine V3.out.mono ?_; rintro e w6 ⟨rfl,rfl⟩; rw[zt ZU.out])
   obtain⟨r,hr⟩:∃r,r=E1.jP D.n D.sA D.sB:=⟨_,rfl⟩;have HRL:=zH hr;have HVL:Hid (T.aQ D.n r.1.cl r.1.fin r.1.l):=zH (by rw[hr]; exact yT HO.out.ok.v.1 HO.out.ok.v.2.1 _ _);have HLD:Hid (∀W,Calls prog 162 #[.int .i64 D.n,.agg #[.string (str D.sA),.string (str D.sB)]] W (E1.yh r W)):=zH fun W=>by rw[hr]; exact E1.Pm D.n D.sA D.sB W HO.out.ok.a HO.out.ok.b
   unfold E1.yh au at HLD;obtain⟨⟨cl,fin,l,code⟩,q⟩:=r;dsimp only at HLD HVL;have VW:=zH HD7.out.box;obtain⟨kind,hkind⟩:∃k:Int,k=(D.kind:Nat):=⟨_,rfl⟩;obtain⟨n,hn⟩:∃k:Int,k=(D.n:Nat):=⟨_,rfl⟩;obtain⟨SA,Tf⟩:∃s,s=str D.sA:=⟨_,rfl⟩;obtain⟨SB,Zg⟩:∃s,s=str D.sB:=⟨_,rfl⟩;have HEQ:=zH (And.intro hkind (And.intro hn (And.intro Tf Zg)));dsimp only at VW;rw[<-hkind,<-hn,<-Tf,<-Zg]at VW;rw[<-hn,<-Tf,<-Zg]at HLD;clear hr hkind hn Tf Zg;refine cu (by kernel_rfl) (yg p pm kind n SA SB cl fin l) (fun W=>(W.os=w7.drew.os/\W.tape=w7.drew.tape/\W.output=w7.drew.output/\w7.drew.heap.size<=W.heap.size/\∀b,b<w7.drew.heap.size->b≠p->W.heap[b]? = w7.drew.heap[b]?)/\True/\∃c0 f0 t0,Bx W p 101 (kS kind n pm none c0 f0 t0 SA SB (.slice none 0 0))) (LV p pm kind n SA SB cl fin q code l) (fun _=>false) (by kernel_rfl) (fun W W' hR h=>hR.c h) (Jk p pm kind n SA SB cl fin q code l) (⟨⟨rfl,rfl,rfl,zl _,fun _ _ _=>rfl⟩,trivial,_,_,_,VW.out⟩) ⟨?_,?_,?_,?_,?s4,?_,?_,?_,?s8,?s9,?s10,?s11,?s12,?s13,?_,?_,?s16,trivial⟩ ?_;all_goals first
    | (intro a W hc hsz hold ah
       have o0:a.tmps.getD 0 undef=.pointer (some ⟨p,0,none⟩):=hold 0 (by kernel_rfl);try have d0:=zV 55 (.pointer (some ⟨p,0,none⟩)) (ah 0 rfl rfl _ rfl)
       try have d1:=zV 56 (.pointer (some ⟨p,0,none⟩)) (ah 1 rfl rfl _ rfl)
       try have d2:=zV 57 (.pointer (some ⟨p,0,none⟩)) (ah 2 rfl rfl _ rfl)
       try have d5:=zV 60 (.pointer (some ⟨p,0,none⟩)) (ah 5 rfl rfl _ rfl)
       try have d6:=zV 61 (.pointer (some ⟨p,0,none⟩)) (ah 6 rfl rfl _ rfl)
       try have d14:=zV 68 (.pointer (some ⟨p,0,none⟩)) (ah 14 rfl rfl _ rfl)
       clear hsz hold ah;refine ai rfl (ag rfl) ?_;refine ak (yg.refl hc.2.2) rfl fun K hK=>?_
       go_simp;exact hK)
    | skip
   try case s4=>
    intro a W hc hsz hold ah;have d3:=zV 58 (.pointer (some ⟨p,1,none⟩)) (ah 3 (by kernel_rfl) rfl _ rfl);have hc0:=hc;obtain⟨_,_,c0,f0,t0,hbx⟩:=hc;have z1:=hbx.cell (i:=1) rfl;clear hsz hold ah;refine ai rfl (ag rfl) ?_;have hc:=hc0;refine ak (v:=.int .i64 n) (yg.refl hc.2.2) rfl fun K hK=>?_
    go_simp;exact hK
   try case s8=>
    intro a W hc hsz hold ah;have d7:=zV 62 (.pointer (some ⟨p,7,none⟩)) (ah 7 (by kernel_rfl) rfl _ rfl);have hc0:=hc;obtain⟨_,_,c0,f0,t0,hbx⟩:=hc;have z7:=hbx.cell (i:=7) rfl;have z8:=hbx.cell (i:=8) rfl;clear hsz hold ah;refine ai rfl (ag rfl) ?_;have hc:=hc0;refine ak (v:=.agg #[.string SA,.string SB]) (yg.refl hc.2.2) rfl fun K hK=>?_
    go_simp;exact hK
   try case s9=>
    intro a W hc hsz hold ah;have d4:=zV 59 (.int .i64 n) (ah 4 (by kernel_rfl) rfl _ rfl);have e4:=zq d4;have d8:=zV 63 (.agg #[.string SA,.string SB]) (ah 8 (by kernel_rfl) rfl _ rfl);have e8:=zq d8;clear hsz hold ah;refine ai rfl (ag rfl) ?_;obtain⟨_,hsz,hbx⟩:=hc;refine zS fun K hK=>?_
    go_simp;refine(HLD.out W).mono ?_;rintro e w' ⟨v',rfl,hr,hb'⟩;exact hK _ _ (yg.call hbx hb') ⟨v',rfl,hr⟩
   try case s10=>
    intro a W hc hsz hold ah;have x9:=ah 9 (by kernel_rfl) rfl _ rfl;clear hsz hold ah;refine ai rfl (ag rfl) ?_;obtain⟨v',hv,hF⟩:=x9;replace hv:a.tmps.getD 64 undef=.tuple #[au cl fin v',.int .i64 q,.int .i64 code]:=hv;have hw:=zq hv;unfold au at hv hw;refine ak (v:=.tuple #[au cl fin v',.int .i64 q,.int .i64 code]) (yg.refl hc.2.2) ⟨v',rfl,hF⟩ fun K hK=>?_
    unfold au at hK;go_simp;exact hK
   try case s11=>
    intro a W hc hsz hold ah;have x10:=ah 10 (by kernel_rfl) rfl _ rfl;clear hsz hold ah;refine ai rfl (ag rfl) ?_;obtain⟨v',hv,hF⟩:=x10;replace hv:a.tmps.getD 54 undef=.tuple #[au cl fin v',.int .i64 q,.int .i64 code]:=hv;have hw:=zq hv;unfold au at hv hw;refine ak (v:=au cl fin v') (yg.refl hc.2.2) ⟨v',rfl,hF⟩ fun K hK=>?_
    unfold au at hK;go_simp;exact hK
   try case s12=>
    intro a W hc hsz hold ah;have x10:=ah 10 (by kernel_rfl) rfl _ rfl;clear hsz hold ah;refine ai rfl (ag rfl) ?_;obtain⟨v',hv,hF⟩:=x10;replace hv:a.tmps.getD 54 undef=.tuple #[au cl fin v',.int .i64 q,.int .i64 code]:=hv;have hw:=zq hv;refine ak (v:=.int .i64 q) (yg.refl hc.2.2) rfl fun K hK=>?_
    go_simp;exact hK
   try case s13=>
    intro a W hc hsz hold ah;have x10:=ah 10 (by kernel_rfl) rfl _ rfl;clear hsz hold ah;refine ai rfl (ag rfl) ?_;obtain⟨v',hv,hF⟩:=x10;replace hv:a.tmps.getD 54 undef=.tuple #[au cl fin v',.int .i64 q,.int .i64 code]:=hv;have hw:=zq hv;refine ak (v:=.int .i64 code) (yg.refl hc.2.2) rfl fun K hK=>?_
    go_simp;exact hK
   try case s16=>
    intro a W hc hsz hold ah;have d15:=zV 69 (.pointer (some ⟨p,4,none⟩)) (ah 15 (by kernel_rfl) rfl _ rfl);have x11:=ah 11 (by kernel_rfl) rfl _ rfl;clear hsz hold ah;refine ai rfl (ag rfl) ?_;obtain⟨v',hv,hF⟩:=x11;replace hv:a.tmps.getD 65 undef=au cl fin v':=hv;obtain⟨_,_,c0,f0,t0,hbx⟩:=hc;obtain⟨a6,c6,rfl,_⟩:=bK.form hF;unfold au at hv;have y4:=hbx.cell (i:=4) rfl;have y5:=hbx.cell (i:=5) rfl;have y6:=hbx.cell (i:=6) rfl;have hf:=hbx.free;have hlt:=hbx.lt;have hst:=yg.store (cl:=cl) (fin:=fin) (l:=l) hbx hF;refine zU (v:=undef) hst.1 hst.2 fun K hK=>?_
    clear hbx hst;go_simp;exact hK
   ·intro a W hC hd hsz hold hval;obtain⟨G,hG,ha⟩:=cO [54,55,56,57,58,59,60,61,62,63,64,65,66,67,68,69] (by kernel_rfl) hd hsz hold;rw[ha];clear ha hG hd hsz hold;simp only[bI,List.setIfInBounds_toArray,List.set];obtain⟨v',DC,JI⟩:=hval 16 _ rfl rfl;obtain⟨hfr,_,_⟩:=hC;have Zj:l.length<=110:=by have:=HVL.out.2.2.1; omega
    obtain⟨av9,cv9,rfl,_⟩:=bK.form JI;have HCP:=zH (rW cl fin (.slice av9 l.length cv9) l W JI Zj);unfold We au at HCP;obtain⟨rfl,rfl,rfl,rfl⟩:=HEQ.out;have QF:=zH hfr;have ab6:=zH DC;have y4:=DC.cell (i:=4) rfl;have y5:=DC.cell (i:=5) rfl;have y6:=DC.cell (i:=6) rfl;clear hval hfr DC JI Zj VW V8 LG;go_wp2_with fail;refine HCP.out.mono ?_;rintro e w8 ⟨v8,rfl,rC,hb8⟩;obtain⟨a8,c8,rfl⟩:=bu rC;have JG:=ab6.out.call hb8;obtain⟨w9,Xu⟩:∃w9,w9=((w8.setCell ⟨p,4,none⟩ (.int .i64 cl)).setCell ⟨p,5,none⟩ (.bool fin)).setCell ⟨p,6,none⟩ (.slice a8 l.length c8):=⟨_,rfl⟩;have Zk:bU p w8 w9:=by rw[Xu]; exact(((bU.refl p w8).set 4 _).set 5 _).set 6 _
    have DC:=((JG.set 4 (.int .i64 cl)).set 5 (.bool fin)).set 6 (.slice a8 l.length c8);rw[<-Xu]at DC;have DD:=(zB w7.heap.size w7).drew;have hF9:w9.os=w7.os/\w9.tape=w7.tape/\w9.output=w7.output/\w7.heap.size<=w9.heap.size/\∀b,b<w7.heap.size->b≠p->w9.heap[b]? = w7.heap[b]?:=by obtain⟨f1,f2,f3,f4,f5⟩:=QF.out;refine⟨Zk.os.trans (hb8.os.trans (f1.trans DD.os)),Zk.tape.trans (hb8.tape.trans (f2.trans DD.tape)),Zk.output.trans (hb8.output.trans (f3.trans DD.output)),by rw[Zk.size]; exact zT (zT DD.size f4) hb8.size,fun b h1 h2=>(Zk.block b h2).trans ((hb8.block b (zL h1 (zT DD.size f4))).trans ((f5 b (zL h1 DD.size) h2).trans (DD.block b h1)))⟩
    have hpW:p<W.heap.size:=ab6.out.lt;have hWs:w7.heap.size<=W.heap.size:=zT DD.size QF.out.2.2.2.1;have TC:w9.ownsRow W.heap.size 94 7 (.slice a8 l.length c8) l.length (fl l):=xK rC fun k hk=>Zk.block k (by have:=dP rC k hk; omega)
    have Zi:∀k,(Value.slice a8 l.length c8).ownBlock=some k->w7.heap.size<=k/\k<w9.heap.size:=fun k hk=>⟨zT hWs (dP rC k hk),by rw[Zk.size]; exact lM rC k hk⟩
    have hd9:=HD7.out.UJ (cl:=cl) (fin:=fin) hF9.2.2.2.1 hF9.2.2.2.2 DC (aW.bM TC) Zi;have ht9:=Ch.UJ kF.out hF9 (fun k hk=>(Zi k hk).1);have adm:Bx w9 b4 58 aO:=(hF9.2.2.2.2 b4 aac.out.lt QW.out.1).trans aac.out;have YS:Hid (∀k,(Value.slice a8 l.length c8).ownBlock=some k->w0.heap.size<=k/\¬ R2 k/\¬ X2 k/\k≠p/\k≠b4):=zH fun k hk=>by
     have h1:=(Zi k hk).1;have hlo:=HD7.out.lo;refine⟨zT kF.out.size h1,fun h=>?_,fun h=>?_,fun h=>?_,fun h=>?_⟩
     ·have:=hlo k (.inr (.inl h)); omega
     ·have:=hlo k (.inl (.inr (.inl h))); omega
     ·have:=HD7.out.box.lt; omega
     ·have:=aac.out.lt; omega
    have VE:Hid (PwL w0 X0 R0 p pm b4 W.heap.size E EX X2 R2 (({ D with M:=M,ca:=[] }:PD).sU cl fin l) M l (.slice a8 l.length c8) 0 w9):=zH ⟨by rw[zF]; exact hd9,by rw[zF]; exact TC,ht9,adm⟩;have z4:=JG.cell (i:=4) rfl;have z5:=JG.cell (i:=5) rfl;have z6:=JG.cell (i:=6) rfl;have zf:=JG.free;have zl:=JG.lt;have HW9:=zH Xu.symm;have k6:=hd9.box.cell (i:=6) rfl;have HMO:Hid (M.Ok (N+65)):=zH (by rw[HME.out]; exact(zC HO.out m).2.2.1);have aeB:Hid (Rj { (({ D with M:=M,ca:=[] }:PD).sU cl fin l) with tr:=um M l }):=zH (by
     have:=(Ut HO.out m).ok.fit.sU;unfold pwP at this;rw[<-HRL.out,<-HME.out]at this;exact this)
    have HPD:Hid (Zr m D=mX { (({ D with M:=M,ca:=[] }:PD).sU cl fin l) with tr:=um M l }):=zH (by unfold Zr pwP; rw[<-HRL.out,<-HME.out]; rfl);clear rC hb8 JG Zk DC DD hF9 hpW hWs TC Zi hd9 ht9 adm Xu y4 y5 y6;go_upto_region 11 with (fail)
    rw[HW9.out];clear z4 z5 z6 zf zl;go_wp2_with fail
    go_loopw [84] (fun vi wr=>∃j:Nat,j<=l.length/\vi=.int .i64 j/\Hid (PwL w0 X0 R0 p pm b4 W.heap.size E EX X2 R2 (({ D with M:=M,ca:=[] }:PD).sU cl fin l) M l (.slice a8 l.length c8) j wr)) (fun vi _=>l.length - (RowKit.intOf vi).toNat)
    case atStart=>exact⟨0,by omega,rfl,VE⟩
    case round=>
     obtain⟨j,hj,rfl,HP⟩:=hrel;by_cases hlt:j<l.length
     ·have hP:=HP.out;obtain⟨g,cg,hvg,hgB,hgl⟩:=mW hP.own (by omega);simp only[Value.slice.injEq,true_and]at hvg;obtain⟨rfl,rfl⟩:=hvg;obtain⟨f1,f2,f3,f4,f5⟩:=YS.out g rfl;have hix:∀W,(Instr.indexAt 35 (.slice (some ⟨g,0,none⟩) l.length c8) (.int .i64 (j:Int))).run prog W=.ok (.pointer (some ⟨g,j * 7,none⟩)) W:=fun W=>
       (aH (P:=prog) underlying35 sizeTrack (cap:=c8) (rfl:some (⟨g,0,none⟩:Addr)=_) hlt _ rfl W).trans (by rw[Nat.zero_add])
      have hlen:=BN M l hj;have ho':wr.ownsRow W.heap.size 94 7 (.slice (some ⟨g,0,none⟩) (gX M l j).length c8) (gX M l j).length (fl (gX M l j)):=by rw[hlen]; exact hP.own
      have VG:=zH (PH (i:=j) (show gZ wr pm M X2 R2 from hP.d.med) HMO.out.n.2 (hP.d.box.cell (i:=2) rfl) f4 f3 f2 (gX M l j) ho' (by rw[hlen]; exact hlt) (by rw[G9 M l hlt]; exact Ql HVL.out hlt));have HEL:Hid ((gX M l j).set j (jL M (T.tr (gX M l j) j))=gX M l (j+1)):=zH (by rw[G9 M l hlt]; exact KI M l hlt);have A7:=zH hlt;have HJ:=zH hj;have HF5:=zH (And.intro f1 (And.intro f2 f5));have k6:=hP.d.box.cell (i:=6) rfl;clear hP hgB hgl f1 f2 f3 f4 f5 hlen ho';go_wp2_with fail;refine VG.out.mono ?_;rintro e w' ⟨rfl,hrc⟩;rw[HEL.out]at hrc;have hl1:=BN M l (show j+1<=l.length from A7.out);have hown':w'.ownsRow W.heap.size 94 7 (.slice (some ⟨g,0,none⟩) l.length c8) l.length (fl (gX M l (j+1))):=by have:=hrc.own;rw[hl1]at this;exact this
      have HP':Hid (PwL w0 X0 R0 p pm b4 W.heap.size E EX X2 R2 (({ D with M:=M,ca:=[] }:PD).sU cl fin l) M l (.slice (some ⟨g,0,none⟩) l.length c8) (j+1) w'):=zH
       ⟨HP.out.d.Eg HF5.out.2.1 hrc.gr (aW.bM (l:=gX M l (j+1)) (by rw[hl1]; exact hown')),hown',Ch.Eg HP.out.ch hrc.gr HF5.out.1,(hrc.gr.block b4 HP.out.x4.lt fun e=>HF5.out.2.2 (zs e).symm).trans HP.out.x4⟩
      clear hrc hown' hl1;have hlt:=A7.out;have OI:l.length<=99:=HVL.out.2.2.1;go_wp2_with fail;go_roundw;case rel=>exact⟨j+1,by omega,by go_num,HP'⟩
      case measure=>simp[RowKit.intOf]; omega
     ·obtain rfl:j=l.length:=by omega
      have hd:=HP.out.d;rw[PG]at hd;have wC:=zH (En hd aeB.out (Ch.refl (X:=DX p (.slice none 0 0) EX X2) (R:=DR (.slice a8 l.length c8) R2)));clear hd;go_wp2_with fail;refine wC.out.mono ?_;rintro e w10 ⟨rfl,hd10,aaW⟩;have haw:∀k,DX p (.slice none 0 0) EX X2 k\/DR (.slice a8 l.length c8) R2 k->k≠b4:=fun k hk=>by
       rcases hk with (h1 | h1 | h1 | h1) | h1 | h1
       ·rw[h1]; exact Ne.symm QW.out.1
       ·exact QW.out.2 k (.inl h1)
       ·exact QW.out.2 k (.inr (.inl h1))
       ·cases h1
       ·exact QW.out.2 k (.inr (.inr h1))
       ·exact(YS.out k h1).2.2.2.2
      have hx7:Bx w10 b4 58 aO:=(jV aaW HP.out.x4.lt haw).2.trans HP.out.x4;have aed:Hid (fH w10 p (Zr m D) pm none (.slice a8 l.length c8) (.slice none 0 0) E EX X2 R2):=zH (by rw[HPD.out]; exact hd10);have aeA:=zH (HP.out.ch.trans aaW);have ad5:=zH haw;unfold aO at hx7;have t0:=hx7.cell (i:=0) rfl;have t1:=hx7.cell (i:=1) rfl;have t2:=hx7.cell (i:=2) rfl;have t3:=hx7.cell (i:=3) rfl;have t4:=hx7.cell (i:=4) rfl;have t5:=hx7.cell (i:=5) rfl;have tf:=fun i=>hx7.free i
      clear hx7 hd10 aaW haw;go_wp2_with fail;exact zr (v:=dL Rp.ok (.slice none 0 0) (.slice none 0 0)) (by simp[results,results84,go_sem,dL,Rp.ok,Rp.sense,t0,t1,t2,t3,t4,t5]) rfl ⟨_,_,X2,R2,rfl,dG aed.out ad5.out _ _ _ _ _ _,fB aeA.out HB4.out.2.2 _ _ _ _ _ _,(G6 HO.out m).1.ok.md⟩
end T7
end Go.Proofs.YtfnehkmhcmkhjaaGreat
