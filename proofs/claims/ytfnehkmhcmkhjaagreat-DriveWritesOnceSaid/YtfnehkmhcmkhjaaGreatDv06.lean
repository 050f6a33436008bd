/- Parts:XTkR XTkD -/
import Derived.Test.YtfnehkmhcmkhjaaGreatDvAl
import Derived.Test.YtfnehkmhcmkhjaaGreatDv04
import Derived.WalkSpells
set_option maxRecDepth 100000
set_option maxHeartbeats 8000000
set_option linter.unusedVariables false
namespace Go.Proofs.YtfnehkmhcmkhjaaGreat
open Tryz
section
open Go.RowKit
def RB(b:Bool)(w:World)(e:Ending)(w':World):Prop:=e=.returned (.bool b)/\Below w.heap.size w w'
abbrev iH(x:T.az):Value:=.agg #[.int .i64 x.num,.int .i64 x.bP,.int .i64 x.st,.int .i64 x.len,.int .i64 x.nx,.int .i64 x.cZ,.int .i64 x.pk]
abbrev lq(x:T.az):Obj:=.cells #[.int .i64 x.num,.int .i64 x.bP,.int .i64 x.st,.int .i64 x.len,.int .i64 x.nx,.int .i64 x.cZ,.int .i64 x.pk] 94
theorem jC(x:T.az)(w:World)(h1:sm x.st)(h2:sm x.len):
 Calls prog 208 #[iH x] w fun e w'=>e=.returned (.int .i64 (x.st+x.len))/\w'=w.alloc (lq x):=by
 unfold sm at h1 h2;go_enter func208,ntmps208;go_wp2;go_ret;exact⟨rfl,rfl⟩
theorem Cb(x:T.az)(w:World):
 Calls prog 316 #[iH x] w fun e w'=>e=.returned (.int .i64 (if x.nx=x.st then 0 else 1))/\w'=w.alloc (lq x):=by
 by_cases h:x.nx=x.st
 ·have hd:(x.nx == x.st)=true:=by rw[beq_iff_eq]; exact h
  rw[zj h];clear h;go_enter func316,ntmps316;go_wp2;go_ret;exact⟨rfl,rfl⟩
 ·have hd:(x.nx == x.st)=false:=by rw[beq_eq_false_iff_ne]; exact h
  rw[zi h];go_enter func316,ntmps316;go_wp2;go_ret;exact⟨rfl,rfl⟩
theorem yB(x:T.az)(w:World)(h1:sm x.st)(h2:sm x.len):
 Calls prog 315 #[iH x] w fun e w'=>e=.returned (iH { x with cZ:=2,nx:=x.st+x.len })/\Below w.heap.size w w':=by
 go_enter func315,ntmps315;go_wp2_with (refine(jC x _ h1 h2).mono ?_; rintro e w' ⟨rfl,rfl⟩);refine zr (v:=iH { x with cZ:=2,nx:=x.st+x.len }) (by simp[results,results315,go_sem]) rfl ⟨rfl,?_⟩;exact(((zB _ _).alloc (zl _) _).alloc (by simp) _).alloc (by simp; omega) _
theorem vT(v:Value)(n:Nat)(l:List T.az)(s:Int)(w:World)(hr:bK w 7 v n fun i=>jy (T.tr l i))(hn:n<=110)(hs:∀i,i<n->uB (T.tr l i)):
 Calls prog 240 #[v,.int .i64 s] w fun e w'=>e=.returned (.int .i64 (if n=0 then 0 else if (T.tr l (n - 1)).bP<s then(T.tr l (n - 1)).st+(T.tr l (n - 1)).len+16 else(T.tr l (n - 1)).st+(T.tr l (n - 1)).len))/\Below w.heap.size w w':=by
 obtain⟨a,c,b,off,rfl,hac,hcell⟩:=hr;by_cases h0:n=0
 ·subst h0;clear hcell hs;rw[zj rfl];go_enter func240,ntmps240;go_wp2;go_ret;exact⟨rfl,zB _ _⟩
 ·rw[zi h0];obtain⟨m,rfl⟩:∃m,n=m+1:=⟨n - 1,by omega⟩;simp only[Nat.add_sub_cancel];obtain⟨ha,hrg⟩:=hcell m (by omega);simp only at hrg;obtain⟨IA,H7,oz,oC,AU,IB,IC⟩:=hs m (by omega);clear hcell hs h0;generalize T.tr l m=x at *;have hix:=fun w'=>aH underlying35 sizeTrack (cap:=c) ha (Nat.lt_succ_self m) (m:Int) rfl w'
  have hm1:(((m+1:Nat):Int) - 1)=m:=by omega
  have hz:(((m+1:Nat):Int) == 0)=false:=by rw[beq_eq_false_iff_ne]; omega
  have hz2:((m:Int)+1 == 0)=false:=by rw[beq_eq_false_iff_ne]; omega
  obtain⟨hc0,hc1,hc2,hc3,hc4,hc5,hc6⟩:=xO hrg;clear hrg;have Ha:=zH ha; clear ha;have hb3:=oz; have hb4:=oC;unfold sm at hb3 hb4;by_cases hc:x.bP<s
  ·have hd:decide (x.bP<s)=true:=zt hc;rw[zj hc];clear hc;go_enter func240,ntmps240;go_wp2_with (refine(jC x _ oz oC).mono ?_; rintro e w' ⟨rfl,rfl⟩);go_ret;exact⟨rfl,((zB _ _).alloc (zl _) _).alloc (by simp) _⟩
  ·have hd:decide (x.bP<s)=false:=zf hc;rw[zi hc];clear hc;go_enter func240,ntmps240;go_wp2_with (refine(jC x _ oz oC).mono ?_; rintro e w' ⟨rfl,rfl⟩);go_ret;exact⟨rfl,((zB _ _).alloc (zl _) _).alloc (by simp) _⟩
def QU(w:World)(g:Nat)(cl:Int)(fin:Bool)(sv:Value):Prop:=w.cell? ⟨g,0,none⟩=some (.int .i64 cl)/\w.cell? ⟨g,1,none⟩=some (.bool fin)/\w.cell? ⟨g,2,none⟩=some sv
theorem PN(v:Value)(n:Nat)(x:T.az)(f:Nat->List Value)(w:World)(hr:bK w 7 v n f)(hn:n<=110):
 Calls prog 307 #[v,iH x] w (RB (decide (x.num=n+1)) w):=by
 obtain⟨a,c,b,off,rfl,hac,hcell⟩:=hr;clear hcell;by_cases h:x.num=n+1
 ·have hd:(x.num == (n:Int)+1)=true:=by rw[beq_iff_eq]; exact h
  rw[zt h];clear h;go_enter func307,ntmps307;go_wp2;go_ret;exact⟨rfl,(zB _ _).alloc (zl _) _⟩
 ·have hd:(x.num == (n:Int)+1)=false:=by rw[beq_eq_false_iff_ne]; exact h
  rw[zf h];clear h;go_enter func307,ntmps307;go_wp2;go_ret;exact⟨rfl,(zB _ _).alloc (zl _) _⟩
def R2(k:Nat)(a s:Int):Bool:=decide ((k=0->a=1)/\(0<k->a - s=0\/a - s=1))
theorem PO(v:Value)(n:Nat)(l:List T.az)(x:T.az)(w:World)(hr:bK w 7 v n fun i=>jy (T.tr l i))(hn:n<=110)(hs:∀i,i<n->uB (T.tr l i))(hx:sm x.bP):
 Calls prog 308 #[v,iH x] w (RB (R2 n x.bP (T.tr l (n - 1)).bP) w):=by
 obtain⟨a,c,b,off,rfl,hac,hcell⟩:=hr;by_cases h0:n=0
 ·subst h0;clear hcell hs;by_cases h:x.bP=1
  ·have hd:(x.bP == 1)=true:=by rw[beq_iff_eq]; exact h
   have hR:R2 0 x.bP (T.tr l (0 - 1)).bP=true:=by simp[R2,h]
   rw[hR];clear h hR;go_enter func308,ntmps308;go_wp2;go_ret;exact⟨rfl,(zB _ _).alloc (zl _) _⟩
  ·have hd:(x.bP == 1)=false:=by rw[beq_eq_false_iff_ne]; exact h
   have hR:R2 0 x.bP (T.tr l (0 - 1)).bP=false:=by simp[R2,h]
   rw[hR];clear h hR;go_enter func308,ntmps308;go_wp2;go_ret;exact⟨rfl,(zB _ _).alloc (zl _) _⟩
 ·obtain⟨m,rfl⟩:∃m,n=m+1:=⟨n - 1,by omega⟩;simp only[Nat.add_sub_cancel];obtain⟨ha,hrg⟩:=hcell m (by omega);simp only at hrg;obtain⟨IA,H7,oz,oC,AU,IB,IC⟩:=hs m (by omega);clear hcell hs h0;generalize T.tr l m=y at *;have hix:=fun w'=>aH underlying35 sizeTrack (cap:=c) ha (Nat.lt_succ_self m) (m:Int) rfl w'
  have hm1:(((m+1:Nat):Int) - 1)=m:=by omega
  have hz:(((m+1:Nat):Int) == 0)=false:=by rw[beq_eq_false_iff_ne]; omega
  have hz2:((m:Int)+1 == 0)=false:=by rw[beq_eq_false_iff_ne]; omega
  obtain⟨hc0,hc1,hc2,hc3,hc4,hc5,hc6⟩:=xO hrg;have hbl:=zc w _ hc0;simp only at hbl;clear hrg;have Ha:=zH ha; clear ha;unfold sm at H7 hx;have hR:R2 (m+1) x.bP y.bP=(decide (x.bP - y.bP=0) || decide (x.bP - y.bP=1)):=by rw[Bool.eq_iff_iff]; simp[R2]
  have HR:=zH hR; clear hR;go_enter func308,ntmps308;go_wp2;go_quiet (fail);go_wp2;all_goals
   go_ret;refine⟨fQ ?_,Below.drewN ((zB _ _).alloc (zl _) _) _⟩;rw[HR.out]
   (try simp only[beq_eq_false_iff_ne,ne_eq]at *) <;> (rw[Bool.eq_iff_iff]; (try simp) <;> (try omega))
theorem PQ(v:Value)(x:T.az)(g:Nat)(cl:Int)(fin:Bool)(sv:Value)(w:World)(hg:QU w g cl fin sv)(hg1:g<w.heap.size)(hc:-9223372036854775808<=cl)(hc2:cl<=16):
 Calls prog 309 #[v,iH x,.pointer (some ⟨g,0,none⟩)] w (RB (decide (x.bP<=cl+1/\x.bP<=16/\(cl<x.bP\/x.cZ=2))) w):=by
 obtain⟨hg3,hg4,hg5⟩:=hg;go_enter func309,ntmps309;go_wp2;all_goals
  go_ret;refine⟨fQ ?_,(zB _ _).alloc (zl _) _⟩
  (try simp only at *) <;> (rw[Bool.eq_iff_iff]; (try simp) <;> (try omega))
theorem PR(v:Value)(x:T.az)(g:Nat)(cl:Int)(fin:Bool)(sv:Value)(w:World)(hg:QU w g cl fin sv)(hg1:g<w.heap.size):
 Calls prog 310 #[v,iH x,.pointer (some ⟨g,0,none⟩)] w (RB (decide (fin=true->x.bP<=cl)) w):=by
 obtain⟨hg3,hg4,hg5⟩:=hg;cases fin;all_goals
  go_enter func310,ntmps310;go_wp2;all_goals
   go_ret;refine⟨fQ ?_,(zB _ _).alloc (zl _) _⟩
   (try simp only[beq_iff_eq,bne_iff_ne,beq_eq_false_iff_ne,bne_eq_false_iff_eq,ne_eq]at *) <;> (rw[Bool.eq_iff_iff]; (try simp) <;> (try omega))
theorem PU(v:Value)(x:T.az)(g:Nat)(cap:Int)(w:World)(hg:w.cell? ⟨g,0,none⟩=some (.int .i64 cap))(hg1:g<w.heap.size)(hc:1<=cap)(hc2:cap<=449849)(hx:sm x.st)(hx2:sm x.len):
 Calls prog 312 #[v,iH x,.pointer (some ⟨g,0,none⟩)] w (RB (decide (1<=x.len/\x.len<=cap/\x.st<=cap - x.len)) w):=by
 unfold sm at hx hx2;go_enter func312,ntmps312;go_wp2;all_goals
  go_ret;refine⟨fQ ?_,(zB _ _).alloc (zl _) _⟩
  (try simp only[beq_iff_eq,bne_iff_ne,beq_eq_false_iff_ne,bne_eq_false_iff_eq,ne_eq]at *) <;> (rw[Bool.eq_iff_iff]; (try simp) <;> (try omega))
theorem PV(v:Value)(x:T.az)(w:World)(hx:uB x):
 Calls prog 313 #[v,iH x] w (RB (decide (x.pk=0\/1<=x.pk/\x.pk<=1024/\x.len.tmod x.pk=0/\(x.nx - x.st).tmod x.pk=0)) w):=by
 obtain⟨IA,H7,oz,oC,AU,IB,IC⟩:=hx;unfold sm at IA H7 oz oC AU IB IC;by_cases h0:x.pk=0
 ·have hd:(x.pk == 0)=true:=by rw[beq_iff_eq]; exact h0
  rw[zt (.inl h0)];clear h0;go_enter func313,ntmps313;go_wp2;go_ret;exact⟨rfl,(zB _ _).alloc (zl _) _⟩
 ·have hd:(x.pk == 0)=false:=by rw[beq_eq_false_iff_ne]; exact h0
  go_enter func313,ntmps313;go_wp2
  go_ways
  all_goals
   go_ret;refine⟨fQ ?_,(zB _ _).alloc (zl _) _⟩
   (try simp only[beq_eq_false_iff_ne,ne_eq]at *) <;> (rw[Bool.eq_iff_iff]; (try simp) <;> (try omega))
theorem PT(v:Value)(n:Nat)(l:List T.az)(x:T.az)(w:World)(hr:bK w 7 v n fun i=>jy (T.tr l i))(hn:n<=110)(hs:∀i,i<n->uB (T.tr l i))(hx:sm x.bP):
 Calls prog 311 #[v,iH x] w (RB (decide (x.st=if n=0 then 0 else if (T.tr l (n - 1)).bP<x.bP then(T.tr l (n - 1)).st+(T.tr l (n - 1)).len+16 else(T.tr l (n - 1)).st+(T.tr l (n - 1)).len)) w):=by
 have hst:=fun W hW=>vT v n l x.bP W hW hn hs
 generalize (if n=0 then 0 else if (T.tr l (n - 1)).bP<x.bP then(T.tr l (n - 1)).st+(T.tr l (n - 1)).len+16 else(T.tr l (n - 1)).st+(T.tr l (n - 1)).len)=y at *;have hb1:=(zB w.heap.size w).alloc (zl _) (lq x);have hr1:=bK.keep hr hb1;have HST:=zH hst; clear hst;go_enter func311,ntmps311;go_wp2
 go_region_with (go_at_call 240; refine(HST.out _ (by exact hr1)).mono ?_; rintro e w1 ⟨rfl,hb⟩; have hbx:w1.cell? ⟨w.heap.size,2,none⟩=some (.int .i64 x.st):=(hb.cell (p:=⟨w.heap.size,2,none⟩) (by simp)).trans (by simp[go_sem]); have hB:Below w.heap.size w w1:=(Below.alloc (zB _ _) (zl _) _).drew.trans (hb.mono (by simp)))
 all_goals
  go_wp2;go_ret;refine⟨fQ ?_,hB⟩;rw[Bool.eq_iff_iff];simp
def fl(l:List T.az):List Value:=l.flatMap jy
theorem MH(l:List T.az):(List.range l.length).flatMap (fun i=>jy (T.tr l i))=fl l:=by
 unfold fl;have h:l=(List.range l.length).map (T.tr l):=by
  apply List.ext_getElem
  ·simp
  ·intro i h1 h2;simp[T.tr,h1]
 conv=>rhs; rw[h]
 rw[List.flatMap_map]
theorem qA(l:List T.az):(fl l).length=l.length * 7:=by rw[<-MH]; exact pG (fun _=>fA _) _
theorem JD(l:List T.az)(i j:Nat)(hi:i<l.length)(hj:j<7):(fl l)[i * 7+j]? = (jy (T.tr l i))[j]?:=by rw[<-MH]; exact oZ (fun _=>fA _) _ i j hi hj
theorem Oz(l m:List T.az):fl (l++m)=fl l++fl m:=by simp[fl]
theorem aaG(l:List T.az):∀u ∈ fl l,u.oneCell'=true:=by intro u hu;simp only[fl,List.mem_flatMap]at hu;obtain⟨x,_,hu⟩:=hu;simp only[jy,List.mem_cons,List.not_mem_nil,or_false]at hu;rcases hu with rfl | rfl | rfl | rfl | rfl | rfl | rfl <;> rfl
theorem aaH(l:List T.az)(i j:Nat)(hi:i<l.length)(hj:j<7)(v:Value)(x:T.az)(hx:jy x=(jy (T.tr l i)).set j v):(fl l).set (i * 7+j) v=fl (l.set i x):=by
 have hl:(l.set i x).length=l.length:=by simp
 apply List.ext_getElem?;intro k;by_cases hk:k<l.length * 7
 ·have e:k / 7 * 7+k % 7=k:=by omega
  have h2:=JD (l.set i x) (k / 7) (k % 7) (by rw[hl]; omega) (by omega);rw[e]at h2;rw[h2,List.getElem?_set];by_cases h:i * 7+j=k
  ·rw[zj h,zj (by rw[qA]; omega)];obtain⟨h3,h4⟩:k / 7=i/\k % 7=j:=by omega
   rw[h3,h4,T.fO _ _ _ hi,hx,List.getElem?_set,zj rfl,zj (by rw[fA]; omega)]
  ·rw[zi h];have h1:=JD l (k / 7) (k % 7) (by omega) (by omega);rw[e]at h1;rw[h1];by_cases h5:k / 7=i
   ·rw[h5,T.fO _ _ _ hi,hx,List.getElem?_set,zi (by omega)]
   ·rw[T.mY _ _ _ _ h5]
 ·rw[List.getElem?_eq_none (by rw[List.length_set,qA]; omega),List.getElem?_eq_none (by rw[qA,hl]; omega)]
theorem aW.bM{w:World}{base e:Nat}{v:Value}{l:List T.az}(h:w.ownsRow base e 7 v l.length (fl l)):aW w v l:=by rw[<-MH]at h;exact bK.bM (fun _=>fA _) h
theorem aW.reads{w:World}{v:Value}{l:List T.az}(h:aW w v l):Reads w 7 v l.length (fl l):=by have:=bK.reads (fun _=>fA _) h;rwa[MH]at this
theorem infoTrack:(prog.info? 94).map (fun i=>(i.zero,i.size,i.bytes))=some (some (.agg #[.int .i64 0,.int .i64 0,.int .i64 0,.int .i64 0,.int .i64 0,.int .i64 0,.int .i64 0]),7,56):=by kernel_rfl
theorem wW{ops:Array Oper}{rest:List Oper}{o:Oper}{a:Act}{Q:Exit->Act->World->Prop}{w:World}(hg:o.guard=none)(s x:Operand)
 (hop:o.op=.call { callee:=.builtin .append,args:=#[s,x],argTypes:=#[35,35] }){base:Nat}
 {v:Value}{n:Nat}{l:List T.az}(hown:w.ownsRow base 94 7 v n (fl l))(hv:a.eval s=v){vs:Value}{m:List T.az}(hs:aW w vs m)(hx:a.eval x=vs)
 (h63:n+m.length<=1099511627776)(hbase:base<=w.heap.size)
 (hK:∀v' w',w'.ownsRow base 94 7 v' (n+m.length) (fl (l++m))->w.grownBy w' v.ownBlock->wpList prog ops Q rest (a.put o.dst v') w'):wpList prog ops Q (o :: rest) a w:=by
 obtain⟨i0,hi,hz0,hz1,hz2⟩:=info_parts infoTrack;refine sO hg s x hop underlying35 hi hz0 hz1 hz2 rfl (by omega) hown hv hs.reads hx (aaG m) (by unfold maxLen; omega) (by omega) hbase fun v' w' g1 g2 g3=>?_
 rw[<-Oz]at g1;exact hK v' w' g1 g2
theorem zN(v:Value)(l:List T.az)(w:World)(hr:aW w v l)(hn:l.length<=110):
 Calls prog 120 #[v] w fun e w'=>∃v',e=.returned v'/\w'.ownsRow w.heap.size 94 7 v' l.length (fl l)/\Below w.heap.size w w':=by
 obtain⟨a,c,rfl,hac⟩:=bK.form hr;have heq:=fun W=>Lib.run_eql_slice_nil (P:=prog) W 35 94 a l.length c 0 0 underlying35
 cases a with
 | none=>
   have hl:l = []:=by
    obtain⟨a,c,b,off,h1,_,h2⟩:=hr;cases l with
    | nil=>rfl
    | cons x l=>have:=(h2 0 (by simp)).1; injection h1 with h1; rw[<-h1]at this; cases this
   subst hl;simp only[List.length_nil]at heq;go_enter func120,ntmps120;go_wp2;go_ret;exact⟨_,rfl,⟨rfl,.inl ⟨rfl,rfl⟩⟩,zB _ _⟩
 | some ad=>
   have hown0:(w.alloc (.cells #[] 94)).ownsRow w.heap.size 94 7 (.slice (some ⟨w.heap.size,0,none⟩) 0 0) 0 (fl []):=World.ownsRow_lit w #[] 0 (zl _) (by simp[maxLen]) (by simp);have hr1:aW (w.alloc (.cells #[] 94)) (.slice (some ad) l.length c) l:=hr.keep ((zB _ _).alloc (zl _) _);go_enter func120,ntmps120;go_wp2_with (refine wW rfl _ _ rfl hown0 rfl hr1 rfl (by omega) (by simp) ?_; intro v' w' hown' hg');go_ret;rw[Nat.zero_add,List.nil_append]at hown';exact⟨v',rfl,hown',((zB _ _).alloc (zl _) _).grown hg' (by simp) (fun k hk=>by obtain rfl:=zs hk; exact zl _)⟩
theorem aK{w:World}{base e size n:Nat}{v:Value}{xs:List Value}(h:w.ownsRow base e size v n xs){p:Addr}(hp:p.block<base)(u:Value):(w.setCell p u).ownsRow base e size v n xs:=by
 refine⟨h.1,?_⟩;rcases h.2 with h | ⟨g,cap,cur,hv,hg,hh,r⟩
 ·exact .inl h
 ·exact .inr ⟨g,cap,cur,hv,hg,(zh w p u g (by omega)).trans hh,r⟩
theorem GG{w w':World}{base e size n:Nat}{v:Value}{xs:List Value}(h:w.ownsRow base e size v n xs)(hb:∀k,k<w.heap.size->w'.heap[k]? = w.heap[k]?):w'.ownsRow base e size v n xs:=by
 refine⟨h.1,?_⟩;rcases h.2 with h | ⟨g,cap,cur,hv,hg,hh,r⟩
 ·exact .inl h
 ·exact .inr ⟨g,cap,cur,hv,hg,(hb g (Array.getElem?_eq_some_iff.1 hh).1).trans hh,r⟩
abbrev au(cl:Int)(fin:Bool)(v:Value):Value:=.agg #[.int .i64 cl,.bool fin,v]
def We(base:Nat)(cl:Int)(fin:Bool)(l:List T.az)(w:World)(e:Ending)(w':World):Prop:=
 ∃v',e=.returned (au cl fin v')/\w'.ownsRow base 94 7 v' l.length (fl l)/\Below w.heap.size w w'
theorem clone_any(cl:Int)(fin:Bool)(v:Value)(l:List T.az)(w:World)(hr:aW w v l)(hn:l.length<=110):
 Calls prog 238 #[au cl fin v] w (We w.heap.size cl fin l w):=by
 have hb0:=((zB w.heap.size w).alloc (zl _) (.cells #[.int .i64 cl,.bool fin,v] 37)).alloc (by simp) (.cells #[.int .i64 0,.bool false,.slice none 0 0] 37);have hr1:=hr.keep hb0;have hcon:=zN v l _ hr1 hn;have dh:=zH hcon; clear hcon;obtain⟨a,c,rfl,hac⟩:=bK.form hr;go_enter func238,ntmps238;go_wp2_with fail;refine dh.out.mono ?_;rintro e w1 ⟨v',rfl,hown,hb⟩;have hb1:=hb0.trans (hb.mono (by simp; omega));have ht0:w1.cell? ⟨w.heap.size,0,none⟩=some (.int .i64 cl):=(hb.cell (p:=⟨w.heap.size,0,none⟩) (by simp; omega)).trans (by simp[go_sem]);have ht1:w1.cell? ⟨w.heap.size,1,none⟩=some (.bool fin):=(hb.cell (p:=⟨w.heap.size,1,none⟩) (by simp; omega)).trans (by simp[go_sem]);have ht2:w1.cell? ⟨w.heap.size,2,none⟩=some (.slice a l.length c):=(hb.cell (p:=⟨w.heap.size,2,none⟩) (by simp; omega)).trans (by simp[go_sem]);have hs0:w1.cell? ⟨w.heap.size+1,0,none⟩=some (.int .i64 0):=(hb.cell (p:=⟨w.heap.size+1,0,none⟩) (by simp)).trans (by simp[go_sem]);have hs1:w1.cell? ⟨w.heap.size+1,1,none⟩=some (.bool false):=(hb.cell (p:=⟨w.heap.size+1,1,none⟩) (by simp)).trans (by simp[go_sem]);have hs2:w1.cell? ⟨w.heap.size+1,2,none⟩=some (.slice none 0 0):=(hb.cell (p:=⟨w.heap.size+1,2,none⟩) (by simp)).trans (by simp[go_sem]);have hf0:∀k,w1.frozen? ⟨w.heap.size,k,none⟩=false:=fun k=>(hb.frozen (p:=⟨w.heap.size,k,none⟩) (by simp; omega)).trans (by simp[go_sem])
 have hf1:∀k,w1.frozen? ⟨w.heap.size+1,k,none⟩=false:=fun k=>(hb.frozen (p:=⟨w.heap.size+1,k,none⟩) (by simp)).trans (by simp[go_sem])
 obtain⟨a2,c2,rfl,_⟩:=bK.form (aW.bM hown);have hw1:w.heap.size+1<w1.heap.size:=by have:=hb.size; simp at this; omega
 go_wp2_with fail;refine zr (v:=au cl fin (.slice a2 l.length c2)) (by simp[results,results238,go_sem,hs0,hs1,hs2]) rfl ⟨_,rfl,?_,?_⟩
 ·refine jb (base:=w.heap.size+2) ?_ (by omega);have hown2:w1.ownsRow (w.heap.size+2) 94 7 (.slice a2 l.length c2) l.length (fl l):=by simpa using hown
  exact aK (aK (aK (aK hown2 (by simp) _) (by simp) _) (by simp) _) (by simp) _
 ·exact(((hb1.setCell (by simp) _).setCell (by simp) _).setCell (by simp) _).setCell (by simp) _
theorem qG{w:World}{base e g n c:Nat}{l:List T.az}(h:w.ownsRow base e 7 (.slice (some ⟨g,0,none⟩) n c) n (fl l))(i j:Nat)(hi:i<l.length)(hj:j<7)(v:Value)(x:T.az)(hx:jy x=(jy (T.tr l i)).set j v):
 (w.setCell ⟨g,i * 7+j,none⟩ v).ownsRow base e 7 (.slice (some ⟨g,0,none⟩) n c) n (fl (l.set i x)):=by
 have:=(h.stored (i * 7+j) v).1;rwa[aaH l i j hi hj v x hx]at this
theorem mW{w:World}{base e n:Nat}{v:Value}{l:List T.az}(h:w.ownsRow base e 7 v n (fl l))(hn:0<n):∃g c,v=.slice (some ⟨g,0,none⟩) n c/\base<=g/\g<w.heap.size:=by
 rcases h.2 with ⟨_,h0⟩ | ⟨g,cap,cur,hv,hb,hg,_⟩
 ·omega
 ·exact⟨g,cap,hv,hb,(Array.getElem?_eq_some_iff.1 hg).1⟩
theorem kH{w:World}{base e g n c:Nat}{l:List T.az}(h:w.ownsRow base e 7 (.slice (some ⟨g,0,none⟩) n c) n (fl l))(i:Nat)(hi:i<l.length):w.rangeAt g (i * 7) (jy (T.tr l i)):=fun j u hu=>by
 have hj:j<7:=by have:=(List.getElem?_eq_some_iff.1 hu).1; rwa[fA]at this
 have hn:l.length=n:=by have:=h.1; rw[qA]at this; omega
 rw[h.cellAt (i * 7+j) (by omega),JD l i j hi hj]; exact hu
end
end Go.Proofs.YtfnehkmhcmkhjaaGreat
