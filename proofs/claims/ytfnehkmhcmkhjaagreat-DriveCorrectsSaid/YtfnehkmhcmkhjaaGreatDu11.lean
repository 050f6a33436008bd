/- Parts -/
import Derived.Test.YtfnehkmhcmkhjaaGreatDu08
import Derived.OrdersIn
import Derived.Test.YtfnehkmhcmkhjaaGreatDu07
import Derived.Sort.LoopGhostIn
set_option maxRecDepth 100000
set_option maxHeartbeats 8000000
set_option linter.unusedVariables false
namespace Go.Proofs.YtfnehkmhcmkhjaaGreat
open Tryz
namespace C9
open Go.RowKit W8
def TQ(n:Nat)(l:List Sc)(k:Nat):Prop:=∀m,m<k->jJ n (Q3 l m)=true
theorem yX{l:List Sc}{i:Nat}(h:i<l.length):Q3 l i=l[i]:=by simp[Q3,aJ,h]
theorem Jm{n:Nat}{l:List Sc}(h:TQ n l l.length):lU n l=true:=by unfold lU;rw[Xa];intro s hs;obtain⟨i,hi,rfl⟩:=YL hs;rw[<-yX hi];exact h i hi
theorem ED{n:Nat}{l:List Sc}{k:Nat}(hk:k<l.length)(h:jJ n (Q3 l k)=false):lU n l=false:=by rw[YZ];intro h2;unfold lU at h2;rw[Xa]at h2;have:=h2 _ (List.getElem_mem hk);rw[<-yX hk,h]at this;exact absurd this (by decide)
theorem Gp{l:List Sc}{i:Nat}(h:i<l.length):l.take (i+1)=l.take i++[Q3 l i]:=by rw[Yo h,yX h]
theorem agu:pU []=λ_=>false:=by funext g;simp[pU]
end C9
section
open Go.RowKit
def Off(v:Value)(p:Nat->Prop):Prop:=∀k,v.ownBlock=some k->¬ p k
def VH(h:Nat)(v v':Value):Prop:=∀k,v'.ownBlock=some k->v.ownBlock=some k\/h<=k
theorem Off.step{h:Nat}{v v':Value}{p:Nat->Prop}(ho:Off v p)(hn:VH h v v')(hp:∀k,h<=k->¬ p k):Off v' p:=λk hk=>by
 rcases hn k hk with h1|h1
 ·exact ho k h1
 ·exact hp k h1
theorem Off.own{w:World}{base e size n:Nat}{v:Value}{xs:List Value}(h:w.ownsRow base e size v n xs){p:Nat->Prop}(hp:∀k,base<=k->k<w.heap.size->¬ p k):Off v p:=λk hk=>hp k (h.lt k hk).1 (h.lt k hk).2
theorem ahb{w w':World}{b e sz n:Nat}{v u:Value}{xs:List Value}(h:w.ownsRow b e sz v n xs)(hg:w.grownBy w' u.ownBlock)(ho:∀k,v.ownBlock=some k->u.ownBlock≠some k):w'.ownsRow b e sz v n xs:=by
 refine h.kept hg ?_;cases e:v.ownBlock with
 |none=>exact .inl rfl
 |some k=>exact .inr λh2=>ho k e h2.symm
theorem SI{w w':World}{g t:Nat}{cs:List Value}{u:Value}(h:Bx w g t cs)(hg:w.grownBy w' u.ownBlock)(ho:u.ownBlock≠some g):Bx w' g t cs:=(hg.block g h.lt λe=>ho e.symm).trans h
theorem ahz{P:Program}{t ty e:TypeId}{i:TypeInfo}{z:Value}{size bytes base:Nat}(ht:P.underlying t=some (.slice e))(hi:P.info? e=some i)(hz:i.zero=some z)(hsize:i.size=size)(hby:i.bytes=bytes)(hzs:z.cells.size=size)(hsz:0<size)
 {w:World}{v:Value}{n:Nat}{xs:List Value}(hown:w.ownsRow base e size v n xs){a:Addr}{m c:Nat}{news:List Value}(hm:0<m)(hl:news.length=m*size)(hnews:∀j u,news[j]? = some u->w.cell? (a.add j)=some u)(h1:∀u∈news,u.oneCell'=true)
 (h63:n+m<=maxLen)(hbytes:(n+m)*bytes<=140737488355328)(hbase:base<=w.heap.size):
 ∃v' w',(Builtin.append_ #[t,t] ty #[v,.slice (some a) m c]).run P w=.ok v' w'/\w'.ownsRow base e size v' (n+m) (xs++news)/\w.grownBy w' v.ownBlock/\VH w.heap.size v v':=by
 obtain⟨v',w',r1,r2,r3,_⟩:=run_append_own (P:=P) w base t ty e i z size bytes ht hi hz hsize hby hzs hsz v n xs hown a m c news hl hnews h1 h63 hbytes hbase;refine⟨v',w',r1,r2,r3,?_⟩;unfold maxLen at h63;subst hsize hby;rcases hown.2 with ⟨rfl,rfl⟩|⟨g,cap,cur,rfl,_,hg,_,_,hcs,_⟩
 ·have h9:=run_append_nil (P:=P) w t ty e i z ht hi hz a m c news hl hnews hm (by omega) (by simp only[Yf]at hbytes;omega);rw[r1]at h9;injection h9 with e1 e2
  subst e1;intro k hk;simp only[Value.ownBlock,YA]at hk;exact .inr (by omega)
 ·by_cases hroom:n+m<=cap
  ·have hfit:n*i.size+news.length<=cur.size:=by rw[hl,hcs,<-Nat.add_mul];exact XA _ hroom
   have h9:=run_append_room (P:=P) w t ty e i ht hi g n cap cur hg a m c news hl hnews h1 hroom hfit;rw[r1]at h9;injection h9 with e1 e2
   subst e1;intro k hk;simp only[Value.ownBlock]at hk ⊢;exact .inl hk
  ·have h9:=run_append_grow (P:=P) w t ty e i z ht hi hz ⟨g,0,none⟩ n cap xs hown.1 (hown.cells (g:=g) rfl) a m c news hl hnews (by omega) (by omega) (growslice_fits (by omega) hbytes);rw[r1]at h9;injection h9 with e1 e2
   subst e1;intro k hk;simp only[Value.ownBlock,YA]at hk;exact .inr (by omega)
theorem Vy{P:Program}{ops:Array Oper}{rest:List Oper}{o:Oper}{ac:Act}{Q:Exit->Act->World->Prop}{w:World}(hg:o.guard=none)(s x:Operand){t:TypeId}
 (hop:o.op=.call {callee:=.builtin .append,args:=#[s,x],argTypes:=#[t,t]}){e:TypeId}{z:Value}{size bytes base:Nat}
 (ht:P.underlying t=some (.slice e))(h2:(P.info? e).map (λi=>(i.zero,i.size,i.bytes))=some (some z,size,bytes))(hzs:z.cells.size=size)(hsz:0<size)
 {v:Value}{n:Nat}{xs:List Value}(hown:w.ownsRow base e size v n xs)(hv:ac.eval s=v){a:Addr}{m c:Nat}{news:List Value}(hx:ac.eval x=.slice (some a) m c)(hm:0<m)(hl:news.length=m*size)(hnews:∀j u,news[j]? = some u->w.cell? (a.add j)=some u)(h1:∀u∈news,u.oneCell'=true)
 (h63:n+m<=maxLen)(hbytes:(n+m)*bytes<=140737488355328)(hbase:base<=w.heap.size)
 (hK:∀v' w',w'.ownsRow base e size v' (n+m) (xs++news)->w.grownBy w' v.ownBlock->VH w.heap.size v v'->wpList P ops Q rest (ac.put o.dst v') w'):wpList P ops Q (o::rest) ac w:=by
 obtain⟨i0,hi,hz0,hz1,hz2⟩:=info_parts h2;refine wpList_plain hg λK hK'=>?_
 obtain⟨v',w',hrun,r1,r2,r3⟩:=ahz (ty:=o.type) ht hi hz0 hz1 hz2 hzs hsz hown hm hl hnews h1 h63 hbytes hbase;obtain⟨vs,hvs⟩:∃vs,vs=Value.slice (some a) m c:=⟨_,rfl⟩;rw[<-hvs]at hx hrun;unfold Oper.wp;simp[execOp,hop,resolve,invoke,builtin,hv,hx,hrun,Result.andThen];exact hK' _ _ (hK v' w' r1 r2 r3)
theorem xu{P:Program}{ops:Array Oper}{rest:List Oper}{o:Oper}{ac:Act}{Q:Exit->Act->World->Prop}{w:World}(hg:o.guard=none)(s x:Operand){t:TypeId}
 (hop:o.op=.call {callee:=.builtin .append,args:=#[s,x],argTypes:=#[t,t]}){e:TypeId}{z:Value}{bytes base:Nat}
 (ht:P.underlying t=some (.slice e))(h2:(P.info? e).map (λi=>(i.zero,i.size,i.bytes))=some (some z,1,bytes))(hzs:z.cells.size=1)
 {v:Value}{n:Nat}{xs:List Value}(hown:w.ownsRow base e 1 v n xs)(hv:ac.eval s=v){g:Nat}{y:Value}(hx:ac.eval x=.slice (some ⟨g,0,none⟩) 1 1)(hc:w.cell? ⟨g,0,none⟩=some y)(h1:y.oneCell'=true)
 (h63:n+1<=maxLen)(hbytes:(n+1)*bytes<=140737488355328)(hbase:base<=w.heap.size)
 (hK:∀v' w',w'.ownsRow base e 1 v' (n+1) (xs++[y])->w.grownBy w' v.ownBlock->VH w.heap.size v v'->wpList P ops Q rest (ac.put o.dst v') w'):wpList P ops Q (o::rest) ac w:=
 Vy hg s x hop ht h2 hzs (by omega) hown hv (a:=⟨g,0,none⟩) (m:=1) (news:=[y]) hx (by omega) rfl (λj u hu=>by
  cases j with
  | zero=>
    simp only[Yg,YA]at hu;subst hu;exact hc
  |succ j=>simp at hu) (λu hu=>by simp only[Va]at hu;rw[hu];exact h1) h63 hbytes hbase hK
end
namespace C9
open Go.RowKit W8
def vS(d:Int)(l:List Sc):List Int×Int:=if d<1\/401408<d then([],1) else if lU (d.toNat+108) l=false then([],1) else(ed l d.toNat,0)
def xG(R:List Int×Int)(w:World)(e:Ending)(w':World):Prop:=∃v,e=.returned (.tuple #[v,.int .i64 R.2])/\w'.ownsRow w.heap.size 3 1 v R.1.length (is R.1)/\Below w.heap.size w w'
theorem xG.none(c:Int){w:World}{e:Ending}{w':World}(he:e=.returned (.tuple #[.slice none 0 0,.int .i64 c]))(hb:Below w.heap.size w w'):xG ([],c) w e w':=⟨_,he,ownsRow_nil _ _ _,hb⟩
theorem ajx{n:Nat}(h1:1<=n)(h2:n<=401408):frN n=((n+108:Nat):Int):=by unfold frN;rw[zi (by omega)];omega
theorem agr{d:Int}(h:d<1\/401408<d):frN d=0:=by unfold frN;rw[zj h]
theorem agf(l:List Sc)(f k:Nat)(hk:k<(yg l f).length):0<=aI (yg l f) k/\aI (yg l f) k<28:=ajr l f _ (di hk)
theorem adz{E:List Int}{k:Nat}(h:k<E.length):E[k]? = some (aI E k):=by rw[bT h];exact Ye h
def ErB(eb:Nat)(E:List Int)(W:World):Prop:=∃ve,Bx W eb 31 [ve]/\W.ownsRow (eb+1) 3 1 ve E.length (is E)
def ErP(eb:Nat)(E:List Int)(w:World)(e:Ending)(w':World):Prop:=e=.returned (.tuple #[])/\ErB eb E w'/\Below eb w w'
theorem adM(i:Int)(fr gb g N eb k:Nat)(E:List Int)(w:World)(hg:w.cell? ⟨gb,0,none⟩=some (.slice (some ⟨g,0,none⟩) N N))(hc:w.cell? ⟨g,fr,none⟩=some (.bool false))(hfr:fr<N)(x:Int)(hx:x=fr)(he:ErB eb E w):
 Calls prog 176 #[.int .i64 i,.int .i64 x,.pointer (some ⟨gb,0,none⟩),.pointer (some ⟨eb,0,none⟩)] w (ErP eb E w):=by
 have hix:=λw'=>aB underlying191 sizeBool9 (a:=some ⟨g,0,none⟩) (cap:=N) rfl hfr x hx w'
 simp only[Yy,Yf]at hix;have Hx:=zH hx;clear hx;have HE:=zH he;clear he;go_enter func176,ntmps176;go_wp2_with fail;go_end0;exact⟨rfl,HE.out,zB _ _⟩
theorem aau(i:Int)(fr gb g N eb k:Nat)(E:List Int)(w:World)(hg:w.cell? ⟨gb,0,none⟩=some (.slice (some ⟨g,0,none⟩) N N))(hc:w.cell? ⟨g,fr,none⟩=some (.bool true))(hfr:fr<N)(x:Int)(hx:x=fr)(he:ErB eb E w)(hE:E.length<=1000):
 Calls prog 176 #[.int .i64 i,.int .i64 x,.pointer (some ⟨gb,0,none⟩),.pointer (some ⟨eb,0,none⟩)] w (ErP eb (E++[i]) w):=by
 have hix:=λw'=>aB underlying191 sizeBool9 (a:=some ⟨g,0,none⟩) (cap:=N) rfl hfr x hx w'
 simp only[Yy,Yf]at hix;have Hx:=zH hx;clear hx;obtain⟨ve,hbx,hoe⟩:=he;have hc0:=hbx.cell (i:=0) rfl;have hlt:=hbx.lt;have hoa:=aV hoe ((zB w.heap.size w).alloc (zl _) (.cells #[.int .i64 i] 3));have hba:=(zB eb w).alloc (Nat.le_of_lt hlt) (.cells #[.int .i64 i] 3);have alP:=hbx.alloc (.cells #[.int .i64 i] 3);have CB:eb+1<=(w.alloc (.cells #[.int .i64 i] 3)).heap.size:=by simp;omega
 have ny:=zH alP;clear hbx hoe alP;go_enter func176,ntmps176;go_wp2_with (at_builtin;refine xu rfl _ _ rfl underlying31 infoInt9 rfl hoa rfl (g:=w.heap.size) (y:=.int .i64 i) rfl (by simp) rfl (by unfold maxLen;omega) (by omega) CB ?_;intro v7 w7 jl lH agA;obtain⟨a7,c7,rfl⟩:=aS jl;have LU:=SI ny.out lH (λh=>by have:=bH hoa eb h;omega);have hb7:=hba.grown lH (by omega) (λq hq=>by have:=bH hoa q hq;omega);have LW:=LU.cell (i:=0) rfl;have hf7:=LU.free 0;clear hoa hba CB lH agA hc0);go_end0;exact⟨rfl,⟨_,LU.set 0 _,by rw[uP,Yb];exact lK jl (by simp only;omega) _⟩,hb7.setCell (zl _) _⟩
theorem KZ(f n N g gb eb:Nat)(l:List Sc)(w:World)(hf:f<n)(hN:N=n+108)(hn:n<=401408)(hg1:g<eb)(hg2:gb<eb)(hb:Bx w g 4 (bb (mk N (pU l))))(hc:w.cell? ⟨gb,0,none⟩=some (.slice (some ⟨g,0,none⟩) N N))(he:ErB eb [] w):
 Calls prog 175 #[.int .i64 f,.func (.func 176) #[] #[.pointer (some ⟨gb,0,none⟩),.pointer (some ⟨eb,0,none⟩)]] w (ErP eb (yg l f) w):=by
 have HB:=zH hb;have HC:=zH hc;have HE:=zH he;have hN1:n+108<=N:=by omega
 have hN2:N<=n+108:=by omega
 clear hb hc he hN;go_enter func175,ntmps175;go_wp2_with fail
 go_loopw [5] (λvi wr=>∃i:Nat,i<=28/\vi=.int .i64 i/\ErB eb (lT l f i) wr/\Below eb w wr) (λvi _=>28-(RowKit.intOf vi).toNat)
 case atStart=>exact⟨0,by omega,rfl,HE.out,zB _ _⟩
 case round=>
  obtain⟨i,hi,rfl,Wq,hbe⟩:=hrel;by_cases hit:i<28
  ·have aph:(i:Int)<28:=by omega
   have hgw:wr.cell? ⟨gb,0,none⟩=some (.slice (some ⟨g,0,none⟩) N N):=(hbe.cell (p:=⟨gb,0,none⟩) hg2).trans HC.out;have hbw:=HB.out.jm hbe hg1;obtain⟨q,hq⟩:∃q,q=pU l (f+4*i):=⟨_,rfl⟩;have hcl:wr.cell? ⟨g,f+4*i,none⟩=some (.bool q):=hbw.cell (by rw[KR];rw[hq];exact wV _ (by omega));have HS:=zH (Jj l f i);rw[<-hq]at HS;have hel:=tK l f i;generalize lT l f i=E at Wq HS hel;clear hq hbw;cases q with
   | false=>
     have HS2:Hid (lT l f (i+1)=E):=zH (by rw[HS.out,zi (by decide)]);have HK:=zH (adM i (f+4*i) gb g N eb 0 E wr hgw hcl (by omega) ((f:Int)+4*i) (by omega) Wq);clear hgw hcl HS Wq;go_wp2_with fail;refine HK.out.mono ?_;rintro e w1 ⟨rfl,he1,hb1⟩;go_wp2_with fail;go_roundw;case rel=>exact⟨i+1,by omega,by go_num,by rw[HS2.out];exact he1,hbe.trans hb1⟩
     case measure=>simp[RowKit.intOf];omega
   | true=>
     have HS2:Hid (lT l f (i+1)=E++[(i:Int)]):=zH (by rw[HS.out,zj rfl]);have HK:=zH (aau i (f+4*i) gb g N eb 0 E wr hgw hcl (by omega) ((f:Int)+4*i) (by omega) Wq (by omega));clear hgw hcl HS Wq;go_wp2_with fail;refine HK.out.mono ?_;rintro e w1 ⟨rfl,he1,hb1⟩;go_wp2_with fail;go_roundw;case rel=>exact⟨i+1,by omega,by go_num,by rw[HS2.out];exact he1,hbe.trans hb1⟩
     case measure=>simp[RowKit.intOf];omega
  ·obtain rfl:i=28:=by omega
   go_wp2_with fail;go_end0;exact⟨rfl,Wq,hbe⟩
end C9
section
open Go Go.RowKit
section
variable {P:Program} {Q:Exit->Act->World->Prop} {n l₀:Nat}
def mP(o:Oper):Bool:=match o.op with
 |.defer _=>false
 |_=>true
theorem UK{o:Oper}(h:mP o=true):∀c,o.op≠ .defer c:=λc e=>by simp[mP,e]at h
theorem Ii{f:FuncId}{args:Array Value}{w:World}{R:Ending->World->Prop}(h:Calls P f args w R):CallsIn (Fence.wide.inRound l₀) n P f args w R:=CallsIn.inRound l₀ (callsIn_wide.2 h)
theorem ag7{o:Oper}{a:Act}{w:World}{K:Act->World->Prop}(hd:mP o=true)(h:o.wp P a w K Q):o.wpIn (Fence.wide.inRound l₀) n P a w K Q:=by
 refine⟨λ_ _=>trivial,?_⟩;have e:o.semAt (Fence.wide.inRound l₀).round a.eval=execOp a.eval o:=Oper.semAt_some l₀ _ o (UK hd);rw[e];unfold Oper.wp at h;generalize (execOp a.eval o).run P w=r at *;cases r with
 | ok x w'=>
   cases x with
   |value v=>exact h
   |skip=>exact h
   |defer d=>exact h
   |enter f args=>exact⟨λhh=>(by cases hh),Ii h⟩
   |row r args=>exact⟨λhh=>(by cases hh),λc cs _=>let ⟨v,w'',hR,hs⟩:=h c cs;⟨v,w'',hR,stepsIn_wide.2 hs⟩⟩
   |_=>exact h.elim
 | halt x w'=>
   cases x <;> exact h
theorem QF{l:List Oper}(h:l.all mP=true){i:Nat}{o:Oper}(ho:l[i]? = some o):mP o=true:=Xa.1 h o (List.mem_of_getElem? ho)
theorem qL{l:List Oper}(hd:l.all mP=true)(hQ:¬ LetsOut Q):∀(fuel:Nat)(listed:Array Bool)(a:Act)(w:World),wpAny P .any l.toArray Q fuel listed a w->wpAnyIn (Fence.wide.inRound l₀) n P .any l.toArray Q fuel listed a w
 |0,listed,a,w,h=>h
 | fuel+1,listed,a,w,h=>by
   refine⟨h.1,λi hi=>?_⟩;have h2:=h.2 i hi;unfold wpOp at h2;unfold wpOpIn;cases ho:l.toArray[i]? with
   | none=>
     rw[ho]at h2;exact qL hd hQ fuel _ a w h2
   | some o=>
     rw[ho]at h2;simp only at h2 ⊢;by_cases hw:Region.wanted o (yielded l.toArray a.tmps)=true
     ·rw[zj hw]at h2 ⊢;rcases h2 with h2|⟨_,h2⟩
      ·exact ag7 (QF hd (by simpa using ho)) (Oper.wp_mono (λa w=>qL hd hQ fuel _ a w) h2)
      ·exact(hQ h2).elim
     ·rw[zi hw]at h2 ⊢;exact⟨λ_ _=>trivial,qL hd hQ fuel _ _ w h2⟩
theorem CS{id:Nat}{l:List Oper}{a0:Act}{w:World}(hQ:¬ LetsOut Q)(hd:l.all mP=true)(hm:P.follows .mixedOrders=true)(R:World->World->Prop)(C:World->Prop)(V:Nat->Value->World->Prop)(sk:Nat->Bool)(hf:kJ l a0.tmps.size=true)
 (hC:∀w w',R w w'->C w->C w')(hV:∀i v w w',R w w'->V i v w->V i v w')(h0:C w.drew)
 (hstep:Sj P Q R C V sk l a0 0 l)
 (hend:∀a w,C w->a.defers=a0.defers->a.tmps.size=a0.tmps.size->(∀t,gp l t=true->a.tmps.getD t undef=a0.tmps.getD t undef)->
  (∀(i:Nat)(o:Oper),l[i]? = some o->sk i=false->V i (gK o.dst a) w)->Q .normal a w):(Code.region id l.toArray true).wpIn (Fence.wide.inRound l₀) n P Q a0 w:=
 wpIn_region_any hm (qL hd hQ _ _ _ _ (aeU R C V sk hf hC hV h0 hstep hend))
end
end
namespace W8
theorem Ur(m i:Nat)(h:i<26):aI (pw m) i=pf m i:=by simp[aI,pw,pl,h]
theorem aj1(m i:Nat)(h:i<43):aI (qw m) i=qf m i:=by
 have:i<(ql m 43).length:=by rw[uX];exact h
 unfold aI qw;rw[Ya,YY this];simp[ql,h]
theorem P9(m:Nat):aI (qw m) 43=12+2*(1118+(m:Int)/2)+m%2:=by have h:(ql m 43).length=43:=uX _ _;unfold aI qw;rw[Ya,Xg (by omega),h];rfl
theorem Qa(m:Nat):aI (qw m) 44=12+2*(1144+(m:Int)/2)+m%2:=by have h:(ql m 43).length=43:=uX _ _;unfold aI qw;rw[Ya,Xg (by omega),h];rfl
theorem WX(k i j:Nat)(hk:k<1118)(hi:i<43)(hj:j<26):(44*i+43*j)%1118=k↔i=k%43/\j=(k/43+26*43-k%43)%26:=by
 obtain⟨a,r,hr,ha,rfl⟩:∃a r,r<43/\a<26/\k=43*a+r:=⟨k/43,k%43,by omega,by omega,by omega⟩;have e1:(43*a+r)%43=r:=by omega
 have e2:(43*a+r)/43=a:=by omega
 rw[e1,e2];constructor
 ·intro h;have e:(44*i+43*j)%1118%43=(44*i+43*j)%43:=Nat.mod_mod_of_dvd _ ⟨26,rfl⟩;rw[h]at e;have hir:i=r:=by omega
  subst hir;refine⟨rfl,?_⟩;obtain⟨q,hq⟩:∃q,44*i+43*j=1118*q+(43*a+i):=⟨(44*i+43*j)/1118,by omega⟩;have h3:i+j=a+26*q:=by omega
  have hq2:q<4:=by omega
  omega
 ·rintro⟨rfl,hj2⟩;obtain⟨t,ht⟩:∃t,a+26*43-i=26*t+j:=⟨(a+26*43-i)/26,by omega⟩;have h4:44*i+43*j+1118*t=43*a+i+1118*43:=by omega
  have ht2:t<=43:=by omega
  obtain⟨u,hu⟩:∃u,43=t+u:=⟨43-t,by omega⟩;have h5:44*i+43*j=43*a+i+1118*u:=by omega
  rw[h5,Nat.add_mul_mod_self_left];exact Nat.mod_eq_of_lt hk
end W8
section
open Go.RowKit
section
variable {P:Program} {Q:Exit->Act->World->Prop}
def ai6(P:Program)(Q:Exit->Act->World->Prop)(R:World->World->Prop)(C:World->Prop)(V:Nat->Value->World->Prop)(sk:Nat->Bool)(l:List Oper)(a0:Act)(i:Nat)(o:Oper):Prop:=
 ∀a w,C w->a.tmps.size=a0.tmps.size->(∀t,gp l t=true->a.tmps.getD t undef=a0.tmps.getD t undef)->
   (∀k,(o.after.toList.any λe=>e.on == k && Region.binds .any e)=true->sk k=false->∀(ok:Oper),l[k]? = some ok->V k (gK ok.dst a) w)->
   (∀(j:Nat)(oj:Oper)(t:Tmp),l[j]? = some oj->oj.dst=some t->(oj.after.toList.any λe=>e.on == i && Region.binds .any e)=true->a.tmps.getD t undef=a0.tmps.getD t undef)->
   if sk i then Region.wanted o (yielded l.toArray a.tmps)=false
   else Region.wanted o (yielded l.toArray a.tmps)=true/\o.wp P a w (λa' w'=>∃v,a'=a.put o.dst v/\R w w'/\V i (kept o.dst v) w') Q
def VI(P:Program)(Q:Exit->Act->World->Prop)(R:World->World->Prop)(C:World->Prop)(V:Nat->Value->World->Prop)(sk:Nat->Bool)(l:List Oper)(a0:Act):Nat->List Oper->Prop:=Steps (ai6 P Q R C V sk l a0)
theorem ahN{l:List Oper}{a0:Act}{w:World}(R:World->World->Prop)(C:World->Prop)(V:Nat->Value->World->Prop)(sk:Nat->Bool)(hf:kJ l a0.tmps.size=true)
 (hC:∀w w',R w w'->C w->C w')(hV:∀i v w w',R w w'->V i v w->V i v w')(h0:C w.drew)
 (hstep:VI P Q R C V sk l a0 0 l)
 (hend:∀a w,C w->a.defers=a0.defers->a.tmps.size=a0.tmps.size->(∀t,gp l t=true->a.tmps.getD t undef=a0.tmps.getD t undef)->
  (∀(i:Nat)(o:Oper),l[i]? = some o->sk i=false->V i (gK o.dst a) w)->Q .normal a w):wpAny P .any l.toArray Q l.toArray.size (Array.replicate l.toArray.size false) a0 w.drew:=
 Gg (λ_=>R) (λ_ _=>C) (λi v _=>V i v) sk (λ_=>none) 0 hf (wH l sk) (.inr rfl) (λ_ _ _ _ _ _ _ _ _ h=>h) (λi _ v _ w w' _=>hV i v w w') h0 (λi o ho _ a w hc hs hold ah hu _ _ _=>zu (hstep.at ho a w hc hs hold ah hu) (Oper.wp_mono λa' w' ⟨v,e,hr,hv⟩=>⟨v,e,hr,hC _ _ hr hc,hv⟩)) hend
theorem IV{id:Nat}{l:List Oper}{a0:Act}{w:World}(hm:P.follows .mixedOrders=true)(R:World->World->Prop)(C:World->Prop)(V:Nat->Value->World->Prop)(sk:Nat->Bool)(hf:kJ l a0.tmps.size=true)
 (hC:∀w w',R w w'->C w->C w')(hV:∀i v w w',R w w'->V i v w->V i v w')(h0:C w.drew)
 (hstep:VI P Q R C V sk l a0 0 l)
 (hend:∀a w,C w->a.defers=a0.defers->a.tmps.size=a0.tmps.size->(∀t,gp l t=true->a.tmps.getD t undef=a0.tmps.getD t undef)->
  (∀(i:Nat)(o:Oper),l[i]? = some o->sk i=false->V i (gK o.dst a) w)->Q .normal a w):(Code.region id l.toArray true).wp P Q a0 w:=wp_region_any hm (ahN R C V sk hf hC hV h0 hstep hend)
end
section
variable {P:Program} {Q:Exit->Act->World->Prop}
def ale(P:Program)(Q:Exit->Act->World->Prop)(R:Nat->World->World->Prop)(C:Nat->World->Prop)(V:Nat->Value->World->Prop)(sk:Nat->Bool)(eff:Nat->Option Nat)(l:List Oper)(a0:Act)(i:Nat)(o:Oper):Prop:=
 ∀(r:Nat) a w,C r w->a.tmps.size=a0.tmps.size->(∀t,gp l t=true->a.tmps.getD t undef=a0.tmps.getD t undef)->
   (∀k,(o.after.toList.any λe=>e.on == k && Region.binds .any e)=true->sk k=false->∀(ok:Oper),l[k]? = some ok->V k (gK ok.dst a) w)->
   (∀(j:Nat)(oj:Oper)(t:Tmp),l[j]? = some oj->oj.dst=some t->(oj.after.toList.any λe=>e.on == i && Region.binds .any e)=true->a.tmps.getD t undef=a0.tmps.getD t undef)->
   (∀j k,eff j=some k->reach l 3 i j=true->k<r)->(∀j k,eff j=some k->reach l 3 j i=true->r<=k)->(∀k,eff i=some k->k=r)->
   if sk i then Region.wanted o (yielded l.toArray a.tmps)=false
   else Region.wanted o (yielded l.toArray a.tmps)=true/\o.wp P a w (λa' w'=>∃v,a'=a.put o.dst v/\R r w w'/\C (if (eff i).isSome then r+1 else r) w'/\V i (kept o.dst v) w') Q
def Sl(P:Program)(Q:Exit->Act->World->Prop)(R:Nat->World->World->Prop)(C:Nat->World->Prop)(V:Nat->Value->World->Prop)(sk:Nat->Bool)(eff:Nat->Option Nat)(l:List Oper)(a0:Act):Nat->List Oper->Prop:=Steps (ale P Q R C V sk eff l a0)
theorem aG{R:World->World->Prop}{C:Nat->World->Prop}{V:Nat->Value->World->Prop}{i r:Nat}{o:Oper}{a:Act}{w:World}{v:Value}(hr:R w w)(hc:C r w)(hv:V i (kept o.dst v) w)(h:∀K:Act->World->Prop,K (a.put o.dst v) w->o.wp P a w K Q):
 o.wp P a w (λa' w'=>∃v,a'=a.put o.dst v/\R w w'/\C r w'/\V i (kept o.dst v) w') Q:=h _ ⟨v,rfl,hr,hc,hv⟩
theorem iy{R:World->World->Prop}{C:Nat->World->Prop}{V:Nat->Value->World->Prop}{i r:Nat}{o:Oper}{a:Act}{w w':World}{v:Value}(hr:R w w')(hc:C r w')(hv:V i (kept o.dst v) w')(h:∀K:Act->World->Prop,K (a.put o.dst v) w'->o.wp P a w K Q):
 o.wp P a w (λa' w'=>∃v,a'=a.put o.dst v/\R w w'/\C r w'/\V i (kept o.dst v) w') Q:=h _ ⟨v,rfl,hr,hc,hv⟩
theorem iV{R:World->World->Prop}{C:Nat->World->Prop}{V:Nat->Value->World->Prop}{i r:Nat}{o:Oper}{a:Act}{w:World}{v:Value}(h:∀K:Act->World->Prop,(∀w',R w w'->C r w'->V i (kept o.dst v) w'->K (a.put o.dst v) w')->o.wp P a w K Q):
 o.wp P a w (λa' w'=>∃v,a'=a.put o.dst v/\R w w'/\C r w'/\V i (kept o.dst v) w') Q:=h _ λw' h1 h2 h3=>⟨v,rfl,h1,h2,h3⟩
theorem ad3{o:Oper}{a:Act}{K:Act->World->Prop}{w:World}(s x:Operand){t:TypeId}
 (hop:o.op=.call {callee:=.builtin .append,args:=#[s,x],argTypes:=#[t,t]}){e:TypeId}{i:TypeInfo}{z:Value}{size bytes base:Nat}
 (ht:P.underlying t=some (.slice e))(hi:P.info? e=some i)(hz:i.zero=some z)(hsize:i.size=size)(hby:i.bytes=bytes)(hzs:z.cells.size=size)(hsz:0<size)
 {v:Value}{n:Nat}{xs:List Value}(hown:w.ownsRow base e size v n xs)(hv:a.eval s=v){vs:Value}{m:Nat}{news:List Value}(hs:Reads w size vs m news)(hx:a.eval x=vs)(h1:∀u∈news,u.oneCell'=true)
 (h63:n+m<=maxLen)(hbytes:(n+m)*bytes<=140737488355328)(hbase:base<=w.heap.size)
 (hK:∀v' w',w'.ownsRow base e size v' (n+m) (xs++news)->w.grownBy w' v.ownBlock->K (a.put o.dst v') w'):o.wp P a w K Q:=by
 obtain⟨v',w',hrun,r1,r2,r3⟩:=Y0 (ty:=o.type) ht hi hz hsize hby hzs hsz hown hs h1 h63 hbytes hbase;unfold Oper.wp;simp[execOp,hop,resolve,invoke,builtin,hv,hx,hrun,Result.andThen];exact hK v' w' r1 r2
theorem aeV{l:List Oper}{a0:Act}{w:World}(R:Nat->World->World->Prop)(C:Nat->World->Prop)(V:Nat->Value->World->Prop)(sk:Nat->Bool)(eff:Nat->Option Nat)(n:Nat)(hf:kJ l a0.tmps.size=true)
 (hch:chainB l eff sk n=true)(hn:((List.range l.length).any λi=>eff i == some (n-1))=true\/n=0)
 (hV:∀i r v w w',(∀k,eff i=some k->k<r)->R r w w'->V i v w->V i v w')(h0:C 0 w.drew)
 (hstep:Sl P Q R C V sk eff l a0 0 l)
 (hend:∀a w,C n w->a.defers=a0.defers->a.tmps.size=a0.tmps.size->(∀t,gp l t=true->a.tmps.getD t undef=a0.tmps.getD t undef)->
  (∀(i:Nat)(o:Oper),l[i]? = some o->sk i=false->V i (gK o.dst a) w)->Q .normal a w):wpAny P .any l.toArray Q l.toArray.size (Array.replicate l.toArray.size false) a0 w.drew:=
 Gg R (λr _=>C r) (λi v _=>V i v) sk eff n hf hch hn (λ_ _ _ _ _ _ _ _ _ h=>h) (λi r v _ w w'=>hV i r v w w') h0 (λi o ho r a w hc hs hold ah hu hl hh hk=>zu (hstep.at ho r a w hc hs hold ah hu hl hh hk) (Oper.wp_mono λa' w' ⟨v,e,hr,hc',hv⟩=>⟨v,e,hr,by cases he:eff i <;> rw[he]at hc' <;> exact hc',hv⟩)) hend
theorem lq{id:Nat}{l:List Oper}{a0:Act}{w:World}(hm:P.follows .mixedOrders=true)(R:Nat->World->World->Prop)(C:Nat->World->Prop)(V:Nat->Value->World->Prop)(sk:Nat->Bool)(eff:Nat->Option Nat)(n:Nat)(hf:kJ l a0.tmps.size=true)
 (hch:chainB l eff sk n=true)(hn:((List.range l.length).any λi=>eff i == some (n-1))=true\/n=0)
 (hV:∀i r v w w',(∀k,eff i=some k->k<r)->R r w w'->V i v w->V i v w')(h0:C 0 w.drew)
 (hstep:Sl P Q R C V sk eff l a0 0 l)
 (hend:∀a w,C n w->a.defers=a0.defers->a.tmps.size=a0.tmps.size->(∀t,gp l t=true->a.tmps.getD t undef=a0.tmps.getD t undef)->
  (∀(i:Nat)(o:Oper),l[i]? = some o->sk i=false->V i (gK o.dst a) w)->Q .normal a w):(Code.region id l.toArray true).wp P Q a0 w:=wp_region_any hm (aeV R C V sk eff n hf hch hn hV h0 hstep hend)
end
section
variable {P:Program} {Q:Exit->Act->World->Prop} {n2 l₀:Nat}
theorem CU{id:Nat}{l:List Oper}{a0:Act}{w:World}(hQ:¬ LetsOut Q)(hd:l.all mP=true)(hm:P.follows .mixedOrders=true)(R:Nat->World->World->Prop)(C:Nat->World->Prop)(V:Nat->Value->World->Prop)(sk:Nat->Bool)(eff:Nat->Option Nat)(n:Nat)(hf:kJ l a0.tmps.size=true)
 (hch:chainB l eff sk n=true)(hn:((List.range l.length).any λi=>eff i == some (n-1))=true\/n=0)
 (hV:∀i r v w w',(∀k,eff i=some k->k<r)->R r w w'->V i v w->V i v w')(h0:C 0 w.drew)
 (hstep:Sl P Q R C V sk eff l a0 0 l)
 (hend:∀a w,C n w->a.defers=a0.defers->a.tmps.size=a0.tmps.size->(∀t,gp l t=true->a.tmps.getD t undef=a0.tmps.getD t undef)->
  (∀(i:Nat)(o:Oper),l[i]? = some o->sk i=false->V i (gK o.dst a) w)->Q .normal a w):(Code.region id l.toArray true).wpIn (Fence.wide.inRound l₀) n2 P Q a0 w:=
 wpIn_region_any hm (qL hd hQ _ _ _ _ (aeV R C V sk eff n hf hch hn hV h0 hstep hend))
end
end
namespace T7
open Go Go.RowKit
def rs(r:Nat):Nat:=(r/2) ||| (((r%2)^^^(r/2%2))*16384)
def reg:Nat->Nat
 |0=>1
 |k+1=>rs (reg k)
theorem amQ{r:Nat}(h:r<32768):rs r<32768:=by unfold rs;have hx:(r%2)^^^(r/2%2)<2:=Xk (n:=1) (by omega) (by omega);exact Nat.or_lt_two_pow (n:=15) (by omega) (by omega)
theorem U3:∀k,reg k<32768
 |0=>by decide
 |k+1=>amQ (U3 k)
theorem aak(a b:Nat)(ha:a<65536)(hb:b<65536):bits .and .i64 (a:Int) (b:Int)=((a &&& b:Nat):Int):=by have hx:a &&& b<=a:=Nat.and_le_left;show IntKind.i64.wrap ((BitVec.ofInt 64 (a:Int) &&& BitVec.ofInt 64 (b:Int)).toNat:Int)=_;rw[BitVec.toNat_and,ofInt_u64 a (by omega),ofInt_u64 b (by omega)];exact IntWalk.i64_in _ (by omega)
theorem ads(a b:Nat)(ha:a<65536)(hb:b<65536):bits .or .i64 (a:Int) (b:Int)=((a ||| b:Nat):Int):=by
 have hx:a ||| b<2 ^ 16:=Nat.or_lt_two_pow (by omega) (by omega)
 show IntKind.i64.wrap ((BitVec.ofInt 64 (a:Int) ||| BitVec.ofInt 64 (b:Int)).toNat:Int)=_;rw[BitVec.toNat_or,ofInt_u64 a (by omega),ofInt_u64 b (by omega)];exact IntWalk.i64_in _ (by omega)
theorem aal(a b:Nat)(ha:a<65536)(hb:b<65536):bits .xor .i64 (a:Int) (b:Int)=((a^^^b:Nat):Int):=by have hx:a^^^b<2 ^ 16:=Xk (by omega) (by omega);show IntKind.i64.wrap ((BitVec.ofInt 64 (a:Int)^^^BitVec.ofInt 64 (b:Int)).toNat:Int)=_;rw[BitVec.toNat_xor,ofInt_u64 a (by omega),ofInt_u64 b (by omega)];exact IntWalk.i64_in _ (by omega)
theorem KO{x:Nat}(h:x<65536):bits .and .i64 (x:Int) 1=((x%2:Nat):Int):=by have e:=aak x 1 h (by omega);rw[Nat.and_one_is_mod]at e;exact e
theorem IE(w:World):Calls prog 219 #[] w λe w'=>e=.returned (.func (.func 291) #[] #[])/\w=w':=by go_enter func219,ntmps219;go_wp2_with fail;go_ret;exact⟨rfl,rfl⟩
def GR(k:Nat)(v:Value)(W:World):Prop:=v=.int .i64 (reg k:Nat)
theorem U4(n N:Nat)(hn:2<=n)(w:World):RQ Fence.wide n prog 291 #[] N GR w:=λl J Jx W hW hNJ hJ hY h0=>by
 refine callsIn_of_wp func291 rfl trivial ?_ rfl;simp only[ntmps291,Xh,Yn,YC,Nat.reduceAdd,Nat.reduceSub,Xi,Xj,Xv,Xn,YV,Xr];have hW0:=hW.size;have hn1:1<=n:=by omega
 have hn2:1<=n-1:=by omega
 clear hW;have hN0:0<N:=by
  rcases Nat.eq_zero_or_pos N with h|h
  ·subst h;exact absurd h0 (hNJ _)
  ·exact h
 gi_wp2
 gi_loopg [2] N (λm v wr=>∃k:Nat,m+k=N/\k<N/\v=.int .i64 (reg k:Nat)/\J k wr/\w.heap.size<=wr.heap.size)
 case atStart=>exact⟨0,by omega,hN0,rfl,h0,hW0⟩
 case round=>
  obtain⟨k,hk,hkN,rfl,hJk,hs⟩:=hrel;clear h0 hW0;have hr:=U3 k;have hgr:GR k (.int .i64 (reg k:Nat)) wr:=rfl;have HRS:Hid (reg (k+1)=rs (reg k)):=zH rfl;have HRU:Hid (rs (reg k)=(reg k/2) ||| (((reg k%2)^^^(reg k/2%2))*16384)):=zH rfl;generalize hrk:reg k=r at *;have hx:(r%2)^^^(r/2%2)<2:=Xk (n:=1) (by omega) (by omega);have e1:=KO (x:=r) (by omega);have e2:=KO (x:=r/2) (by omega);have e3:=aal (r%2) (r/2%2) (by omega) (by omega);obtain⟨x,hxx⟩:∃x,x=(r%2)^^^(r/2%2):=⟨_,rfl⟩;rw[<-hxx]at hx e3 HRU;have e4:=ads (r/2) (x*16384) (by omega) (by omega);clear hxx hrk;obtain⟨fn,tmps,assign,body,hy,hR⟩:=hY k (.int .i64 (r:Nat)) wr hkN hJk hgr;have E1:=zH e1;have E2:=zH e2;have E3:=zH e3;have E4:=zH e4;clear e1 e2 e3 e4;gi_wp2;refine hR.mono ?_;rintro e W3 (⟨rfl,hJ3,hs3⟩|⟨rfl,hJx3⟩)
  ·have e1:=E1.out;have e2:=E2.out;have e3:=E3.out;have e4:=E4.out;gi_wp2
   gi_roundg (gk-1)
   case measure=>omega
   case rel=>
    refine⟨k+1,by omega,?_,Yp (Value.int .i64) ?_,hJ3,by omega⟩
    ·rcases Nat.lt_or_ge (k+1) N with h|h
     ·exact h
     ·have h2:k+1=N:=by omega
      rw[h2]at hJ3;exact absurd hJ3 (hNJ _)
    ·rw[HRS.out,HRU.out];have a2:bits .and .i64 ((r:Int)/2) 1=((r/2%2:Nat):Int):=E2.out;have a3:bits .xor .i64 ((r:Int)%2) ((r/2%2:Nat):Int)=(x:Int):=E3.out;have a4:bits .or .i64 ((r:Int)/2) ((x:Int)*16384)=((r/2 ||| x*16384:Nat):Int):=E4.out;have a5:wrap64 ((x:Int)*16384)=(x:Int)*16384:=by unfold wrap64;omega
     rw[a2,a3,a5,a4]
  ·gi_wp2;go_end0;exact⟨⟨_,rfl⟩,hJx3⟩
end T7
end Go.Proofs.YtfnehkmhcmkhjaaGreat
