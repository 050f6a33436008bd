/- Parts:XJc XJd XJe XJf XTkRes XTkApp XTkCt XTkCs XTkCl XTkAll XTkDo XTkStep -/
import Derived.Test.YtfnehkmhcmkhjaaGreatDvAl
import Derived.Test.YtfnehkmhcmkhjaaGreatDv29
import Derived.Test.YtfnehkmhcmkhjaaGreatDv28
import Derived.Test.YtfnehkmhcmkhjaaGreatDv23
import Derived.Deep.RegionLaw
set_option maxRecDepth 100000
set_option maxHeartbeats 8000000
set_option linter.unusedVariables false
namespace Go.Proofs.YtfnehkmhcmkhjaaGreat
open Tryz
namespace T7
open Go Go.RowKit C9 oH
def kS(kind n:Int)(pm:Nat)(df:Option Addr)(cl:Int)(fin:Bool)(vt:Value)(A B:ByteArray)(vc:Value):List Value:=
 [.int .i64 kind,.int .i64 n,.pointer (some ⟨pm,0,none⟩),.pointer df,.int .i64 cl,.bool fin,vt,.string A,.string B,vc]
def VP(l:List UInt8)(o:Nat):List UInt8->List UInt8
 | []=>l
 | c :: r=>VP (l.set o c) (o+1) r
theorem Es:∀(m:List UInt8)(l:List UInt8)(o:Nat),(VP l o m).length=l.length
 | [],l,o=>rfl
 | c :: r,l,o=>by rw[VP,Es r,List.length_set]
theorem MN(l:List UInt8)(o i:Nat)(c:UInt8)(h:o<l.length):G.ix (l.set o c) i=if i=o then c else G.ix l i:=by
 unfold G.ix;rw[List.getD_eq_getElem?_getD,List.getD_eq_getElem?_getD,List.getElem?_set];by_cases e:i=o
 ·subst e; rw[zj rfl,zj rfl,zj h]; rfl
 ·rw[zi e,zi (Ne.symm e)]
theorem UZ:∀(m:List UInt8)(l:List UInt8)(o i:Nat),o+m.length<=l.length->G.ix (VP l o m) i=if o<=i/\i<o+m.length then G.ix m (i - o) else G.ix l i
 | [],l,o,i,_=>by rw[VP,zi (by simp)]
 | c :: r,l,o,i,h=>by
   simp only[List.length_cons]at h ⊢;rw[VP,UZ r _ _ _ (by rw[List.length_set]; omega),MN _ _ _ _ (by omega)];by_cases e:i=o
   ·subst e;rw[zi (show ¬ (i+1<=i/\i<i+1+r.length) by omega),zj rfl,zj (show i<=i/\i<i+(r.length+1) by omega),Nat.sub_self];rfl
   ·by_cases e2:o+1<=i/\i<o+1+r.length
    ·rw[zj e2,zj (by omega)];obtain⟨k,hk⟩:∃k,i - o=k+1:=⟨i - o - 1,by omega⟩;have h2:i - (o+1)=k:=by omega
     rw[h2,hk,G.ix,G.ix,List.getD_cons_succ]
    ·rw[zi e2,zi e,zi (by omega)]
theorem Row.sets{e g cap:Nat}:∀(m:List UInt8)(l:List UInt8)(o:Nat)(w:World),Row w e g cap l->o+m.length<=l.length->Row (w.setCells g o (bs m)) e g cap (VP l o m)
 | [],l,o,w,h,_=>h
 | c :: r,l,o,w,h,hl=>by simp only[List.length_cons]at hl;exact Row.sets r _ (o+1) _ (h.store o c (by omega)) (by rw[List.length_set]; omega)
theorem Yj{P:Program}{w:World}{t t' ty e:TypeId}(ht:P.underlying t=some (.slice e))(hz:∀w,(Go.sizeOf e).run P w=.ok 1 w)
 {g cap n:Nat}{l m:List UInt8}(h:Row w e g cap l)(hn:n=l.length)(hm:m.length<=n):
 ∃w',(Builtin.copy_ #[t,t'] ty #[.slice (some ⟨g,0,none⟩) n cap,.string (str m)]).run P w=.ok (.int .i64 m.length) w'/\Row w' e g cap (VP l 0 m)/\w.grownBy w' (some g):=by
 subst hn;have hsz:(str m).size=m.length:=ax m;have hl:(str m).data.toList=m:=rfl;have hr:=run_copy_string (P:=P) w t t' ty e g 0 l.length cap (str m) ht hz (by rw[hsz]; exact hm) (fun j hj=>by rw[Nat.zero_add,h.cell j (by rw[hsz]at hj; omega)]; rfl) (fun j hj=>by rw[Nat.zero_add]; exact h.frozen j (by rw[hsz]at hj; have:=h.le; omega));rw[hl,hsz]at hr;exact⟨_,hr,Row.sets m l 0 w h (by omega),W8.qB _ _ _ (World.grownBy.refl _ _)⟩
def zG(b:List UInt8)(L:List Int):List UInt8:=L.foldl (fun b k=>b.set k.toNat 0) b
theorem YM(b:List UInt8)(L:List Int)(x:Int):zG b (L++[x])=(zG b L).set x.toNat 0:=by simp[zG]
theorem EF(b:List UInt8)(L:List Int):(zG b L).length=b.length:=by
 unfold zG
 induction L generalizing b with
 | nil=>rfl
 | cons x r ih=>rw[List.foldl_cons,ih,List.length_set]
theorem adU{L:List Int}{i:Nat}(hi:(i:Int) ∉ L)(hL:∀x ∈ L,0<=x):∀b:List UInt8,G.ix (zG b L) i=G.ix b i:=by
 unfold zG
 induction L with
 | nil=>intro b; rfl
 | cons x r ih=>
   intro b;rw[List.foldl_cons,ih (fun h=>hi (.tail _ h)) (fun y hy=>hL y (.tail _ hy))];by_cases hx:x.toNat<b.length
   ·rw[MN _ _ _ _ hx,zi];intro e;apply hi;have:=hL x (.head _);have e2:(i:Int)=x:=by omega
    rw[e2]; exact .head _
   ·rw[List.set_eq_of_length_le (by omega)]
def inn(L:List Int):List Int:=gV (fun x=>decide (12<=x)) L
def zx(M:aP)(i:Nat):List UInt8:=VP (zG (oG (M.out i)) (M.gone i)) 0 lS
theorem Po(M:aP)(i:Nat):(zx M i).length=2352:=by unfold zx; rw[Es,EF,uy]
theorem abf(M:aP){i k:Nat}(h:k<2352):G.ix (M.out i) k=if M.rq i k=true then 0 else jF (M.sec i).raw k ^^^ (M.sec i).ch k:=by unfold aP.out;rw[JR h]
theorem Us{M:aP}{i:Nat}{aj:Int}{d:List UInt8}(h0:-150<=aj)(h1:aj<=449849)(hd:d.length=2048)(hr:(M.sec i).raw=rec aj d)(hc:∀k,k<2352->(M.sec i).ch k=0):
 W8.Inv (par aj d) (zx M i) (inn (M.gone i)):=by
 refine⟨Po M i,fun x hx hne=>?_⟩;have hg:=zk h0 h1 hd;have hle:0+lS.length<=(zG (oG (M.out i)) (M.gone i)).length:=by rw[EF,uy]; decide
 have hsl:lS.length=12:=rfl;unfold zx at hne;rw[UZ _ _ _ _ hle,hsl]at hne;by_cases h12:x<12
 ·rw[zj (by omega),Nat.sub_zero]at hne;refine absurd ?_ hne;rw[<-hg.sync];unfold G.ix;rw[List.getD_eq_getElem?_getD,List.getD_eq_getElem?_getD,List.getElem?_take_of_lt h12]
 ·rw[zi (by omega)]at hne;unfold inn gV;rw[List.mem_filter];refine⟨?_,zt (by omega)⟩;apply Decidable.byContradiction;intro hn;apply hne;rw[adU hn (fun y hy=>(xG M i y hy).1)];have hgp:M.rq i x=false:=by
   cases h:M.rq i x with
   | false=>rfl
   | true=>exact absurd ((pI M i x).2 ⟨x,hx,h,rfl⟩) hn
  have hrp:=Nv aj hd;have e1:G.ix (oG (M.out i)) x=G.ix (M.out i) x ^^^ Gq (x - 12) 8:=by unfold oG; rw[xQ _ _ hx]; unfold vN; rw[zj (by omega)]
  have e2:G.ix (oG (rec aj d)) x=G.ix (rec aj d) x ^^^ Gq (x - 12) 8:=by unfold oG; rw[xQ _ _ hx]; unfold vN; rw[zj (by omega)]
  have e3:jF (rec aj d) x=G.ix (rec aj d) x:=by unfold jF bF G.ix; rw[List.getD_eq_getElem?_getD]
  rw[e1,abf M hx,hgp,zi (by decide),hc x hx,UInt8.xor_zero,hr,e3,<-e2,hrp]
theorem aeV(x:Int)(W:World):Calls prog 72 #[.int .i64 x] W fun e w'=>e=.returned (.bool (!decide (12<=x)))/\W=w':=by go_enter func72,ntmps72;go_wp2_with fail;go_ret;exact⟨fQ (by by_cases h:x<12 <;> simp[h] <;> omega),rfl⟩
theorem O5{w:World}{b e sz n g c:Nat}{xs:List Value}(h:w.ownsRow b e sz (.slice (some ⟨g,0,none⟩) n c) n xs)(i:Nat):w.frozen? ⟨g,i,none⟩=false:=by
 rcases h.2 with ⟨h',_⟩ | ⟨g',cap,cur,hv,_,hh,_⟩
 ·simp at h'
 ·simp only[Value.slice.injEq,Option.some.injEq,Addr.mk.injEq]at hv;obtain⟨⟨rfl,_⟩,_⟩:=hv;exact frozen_of_row w g i _ _ hh
theorem Ul{w:World}{b e sz n:Nat}{v:Value}{xs:List Value}(h:w.ownsRow b e sz v n xs){p:Addr}(hp:∀k,v.ownBlock=some k->k≠p.block)(u:Value):(w.setCell p u).ownsRow b e sz v n xs:=by
 refine⟨h.1,?_⟩;rcases h.2 with h | ⟨g,cap,cur,rfl,hb,hh,rest⟩
 ·exact .inl h
 ·exact .inr ⟨g,cap,cur,rfl,hb,(zh w p u g (hp g rfl)).trans hh,rest⟩
theorem Uk{w w':World}{b e sz n:Nat}{v:Value}{xs:List Value}{r:Option Nat}(h:w.ownsRow b e sz v n xs)(hg:w.grownBy w' r)(hr:∀k,v.ownBlock=some k->some k≠r):w'.ownsRow b e sz v n xs:=by
 refine⟨h.1,?_⟩;rcases h.2 with h | ⟨g,cap,cur,rfl,hb,hh,rest⟩
 ·exact .inl h
 ·exact .inr ⟨g,cap,cur,rfl,hb,(hg.block g (Array.getElem?_eq_some_iff.1 hh).1 (hr g rfl)).trans hh,rest⟩
theorem aeY(fi:Nat)(hfi:∀args W,(callFunc fi args).run prog W=.ok (.enter fi args) W)(q:Int->Bool)(B:Nat)(v:Value)(l:List Int)(w:World)(hl:l.length<=100000)(hb:∀x ∈ l,-9223372036854775808<=x/\x<=9223372036854775807)
 (hr:w.ownsRow B 3 1 v l.length (W8.is l))(h:∀x W,Calls prog fi #[.int .i64 x] W fun e w'=>e=.returned (.bool (!q x))/\W=w'):
 Calls prog 71 #[v,.func (.func fi) #[] #[]] w fun e w'=>∃v2,e=.returned v2/\uS w' v2 (gV q l)/\w.grownBy w' v.ownBlock:=by
 rcases hr.2 with ⟨rfl,h0⟩ | ⟨g,cap,cur,rfl,hB,hg,h1,h2,h3,h4⟩
 ·have hl0:l = []:=List.length_eq_zero_iff.1 h0;subst hl0;have hrd:uS w (.slice none 0 0) []:=W8.Ea hr rfl (by simp) (by simp);have HI:=zH (Zm fi hfi q _ [] w hrd h);have HRd:=zH hrd;clear hr hb hrd;go_enter func71,ntmps71;go_wp2_with fail;refine HI.out.mono ?_;rintro e w' ⟨r,rfl,(⟨rfl,hall⟩ | ⟨k,rfl,hk,Dz,hno⟩),rfl⟩
  ·go_wp2_with fail;go_ret;exact⟨_,rfl,HRd.out,World.grownBy.refl _ _⟩
  ·exact absurd hk (by simp)
 ·exact(acN fi hfi q g cap l.length l w (W8.qR.DZ hr).1 rfl hl hb h)
theorem UT{w:World}{B:Nat}{v:Value}{l:List Int}{j:Nat}(hr:w.ownsRow B 3 1 v l.length (W8.is l))(hj:j<l.length):
 ∃g c,v=.slice (some ⟨g,0,none⟩) l.length c/\B<=g/\w.cell? ⟨g,j,none⟩=some (.int .i64 (dm l j)):=by
 obtain⟨g,c,rfl,hB,hlt⟩:=qF hr (by omega);exact⟨g,c,rfl,hB,(W8.qR.DZ hr).1.cell j hj⟩
theorem Oa{p pm at_ N:Nat}{aj:Int}{w:World}{M:aP}{X R:Nat->Prop}(hm:gZ w pm M X R)(ho:M.Ok N)(hc:w.cell? ⟨p,2,none⟩=some (.pointer (some ⟨pm,0,none⟩)))
 (hP:Calls prog 43 #[.pointer (some ⟨p,0,none⟩),.int .i64 aj] w fun e w'=>e=.returned (.int .i64 (at_:Nat))/\Below w.heap.size w w')(hlt:at_<M.n)(hst:(M.sec at_).st=0):
 Calls prog 31 #[.pointer (some ⟨p,0,none⟩),.int .i64 aj] w fun e w'=>e=.returned (.string (str []))/\Below w.heap.size w w':=by
 have hn:=ho.n.2;have hpl2:p<w.heap.size:=zc w _ hc;have EI:M.eu (at_:Nat)=(0,0):=by unfold aP.eu; rw[zj (by omega),Int.toNat_natCast,hst]; rfl
 have HST:Hid (∀W,Below w.heap.size w W->Calls prog 68 #[.pointer (some ⟨pm,0,none⟩),.int .i64 (at_:Nat)] W fun e w'=>e=.returned (.tuple #[.int .i64 0,.int .i64 0])/\Below W.heap.size W w'):=zH fun W hW=>by have:=xR (hm.below hW) hn (at_:Nat);rw[EI]at this;exact this
 have IP:=zH hP;have HC2:=zH hc;have VF:=zH hpl2;clear hP hc hpl2 EI hm ho hst hlt hn;go_enter func31,ntmps31;go_wp2_with fail;refine IP.out.mono ?_;rintro e w1 ⟨rfl,hb1⟩;have HB1:=zH hb1;have hc1:=(hb1.cell (p:=⟨p,2,none⟩) VF.out).trans HC2.out;have EH:=zH (HST.out w1 hb1);clear hb1;go_wp2_with fail;refine EH.out.mono ?_;rintro e w2 ⟨rfl,hb2⟩;have HB2:=zH (HB1.out.trans (hb2.mono HB1.out.size));clear hb2 hc1 EH;go_wp2_with fail;go_ret;exact⟨rfl,HB2.out⟩
theorem RD{p pm at_ N:Nat}{aj:Int}{w:World}{M:aP}{X R:Nat->Prop}(hm:gZ w pm M X R)(ho:M.Ok N)(hc:w.cell? ⟨p,2,none⟩=some (.pointer (some ⟨pm,0,none⟩)))
 (hP:Calls prog 43 #[.pointer (some ⟨p,0,none⟩),.int .i64 aj] w fun e w'=>e=.returned (.int .i64 (at_:Nat))/\Below w.heap.size w w')(hlt:at_<M.n)(hst:2<=(M.sec at_).st):
 Calls prog 31 #[.pointer (some ⟨p,0,none⟩),.int .i64 aj] w fun e w'=>e=.returned (.string (str [33]))/\Below w.heap.size w w':=by
 have hn:=ho.n.2;have hpl2:p<w.heap.size:=zc w _ hc;obtain⟨st,hse⟩:∃st:Nat,st=(M.sec at_).st:=⟨_,rfl⟩;rw[<-hse]at hst;have EI:M.eu (at_:Nat)=((st:Int),0):=by unfold aP.eu; rw[zj (by omega),Int.toNat_natCast,<-hse]
 have hrr:M.BK (at_:Nat)=([],[],9):=by unfold aP.BK; rw[zj (by omega),Int.toNat_natCast,<-hse,zi (by omega),zi (by omega)]
 have hs4:st<=3:=by rw[hse]; exact(ho.sec _ hlt).st
 have HST:Hid (∀W,Below w.heap.size w W->Calls prog 68 #[.pointer (some ⟨pm,0,none⟩),.int .i64 (at_:Nat)] W fun e w'=>e=.returned (.tuple #[.int .i64 (st:Nat),.int .i64 0])/\Below W.heap.size W w'):=zH fun W hW=>by have:=xR (hm.below hW) hn (at_:Nat);rw[EI]at this;exact this
 have HRD:Hid (∀W,Below w.heap.size w W->Calls prog 50 #[.pointer (some ⟨pm,0,none⟩),.int .i64 (at_:Nat)] W (oM ([],[],9) W)):=zH fun W hW=>by have:=UA (hm.below hW) ho (at_:Nat);rw[hrr]at this;exact this
 have hd0:((st:Int) == 0)=false:=beq_eq_false_iff_ne.2 (by omega);have IP:=zH hP;have HC2:=zH hc;have VF:=zH hpl2;clear hP hc hpl2 EI hm ho hst hlt hn hrr hse hs4;go_enter func31,ntmps31;go_wp2_with fail;refine IP.out.mono ?_;rintro e w1 ⟨rfl,hb1⟩;have HB1:=zH hb1;have hc1:=(hb1.cell (p:=⟨p,2,none⟩) VF.out).trans HC2.out;have EH:=zH (HST.out w1 hb1);clear hb1;go_wp2_with fail;refine EH.out.mono ?_;rintro e w2 ⟨rfl,hb2⟩;have hb2:=HB1.out.trans (hb2.mono HB1.out.size);have HB2:=zH hb2;have hc2:=(hb2.cell (p:=⟨p,2,none⟩) VF.out).trans HC2.out;have HS2:=zH (HRD.out w2 hb2);clear hb2 hc1 EH;go_wp2_with fail;refine HS2.out.mono ?_;rintro e w3 ⟨v3,rfl,ho3,hb3⟩;dsimp only at ho3 ⊢;obtain⟨a3,n3,rfl⟩:=bu ho3;have HB3:=zH (HB2.out.trans (hb3.mono HB2.out.size));clear hb3 ho3 hc2 HS2;go_wp2_with fail;go_ret;exact⟨rfl,HB3.out⟩
def tY(bl:Nat->List UInt8)(n k:Nat):List (List UInt8):=(List.range n).map fun i=>if i<k then bl i else []
theorem Gi(bl:Nat->List UInt8)(n k:Nat):(tY bl n k).length=n:=by simp[tY]
theorem OV(bl:Nat->List UInt8)(n:Nat):tY bl n 0=List.replicate n []:=by
 unfold tY;apply List.ext_getElem
 ·simp
 ·intro i h1 h2; simp
theorem Xw(bl:Nat->List UInt8){n k i:Nat}(h:i<n):bF [] (tY bl n k) i=if i<k then bl i else []:=by simp[tY,bF,h]
theorem OU(bl:Nat->List UInt8){n k:Nat}(h:k<n):(tY bl n k).set k (bl k)=tY bl n (k+1):=by
 apply List.ext_getElem
 ·simp[tY]
 ·intro i h1 h2;rw[List.length_set,Gi]at h1;rw[List.getElem_set];simp only[tY,List.getElem_map,List.getElem_range];by_cases e:k=i
  ·subst e; rw[zj rfl,zj (by omega)]
  ·rw[zi e];by_cases e2:i<k
   ·rw[zj e2,zj (by omega)]
   ·rw[zi e2,zi (by omega)]
def qV(bl:Nat->List UInt8)(n:Nat):List (List UInt8):=(List.range n).map bl
theorem TK(bl:Nat->List UInt8)(n:Nat):tY bl n n=qV bl n:=by
 unfold tY qV;refine List.map_congr_left fun i hi=>?_
 rw[zj (List.mem_range.1 hi)]
theorem tZ(bl:Nat->List UInt8)(n:Nat):(qV bl n).length=n:=by simp[qV]
theorem ED{w:World}{ops:Array Oper}{rest:List Oper}{o:Oper}{a:Act}{Q:Exit->Act->World->Prop}
 (hg:o.guard=none)(l c:Operand)(hop:o.op=Op.makeSlice 46 l c)
 {L C:Int}(n:Nat)(hl:a.eval l=.int .i64 L)(hc:a.eval c=.int .i64 C)(hL:L=(n:Int))(hC:C=(n:Int))(b3:n<=1000000)
 (hK:∀w',w'.ownsRow w.heap.size 9 1 (.slice (some ⟨w.heap.size,0,none⟩) n n) n (fK wU (List.replicate n []))->Below w.heap.size w w'->wpList prog ops Q rest (a.put o.dst (.slice (some ⟨w.heap.size,0,none⟩) n n)) w'):
 wpList prog ops Q (o :: rest) a w:=by
 obtain⟨i0,hi,hz0,hz1,hz2⟩:=info_parts infoStr9;refine wpList_make_full w hg l c _ hop w.heap.size 9 i0 _ 1 underlying46 hi hz0 hz1 .i64 .i64 L C n hl hc hL hC (by rw[hz2]; omega) (by unfold maxLen; omega) (zl _) fun w' h3 h4=>hK w' ?_ ((zB _ _).grown h4 (zl _) (fun k hk=>by cases hk))
 have e1:(Value.string ⟨#[]⟩).cells=(wU []).toArray:=rfl;rw[e1,mV wU [] 1 n (by decide) qM]at h3;exact h3
theorem aa9{p n:Nat}{w:World}(bl:Nat->List UInt8)(hn:n<=4096)(hc:w.cell? ⟨p,1,none⟩=some (.int .i64 (n:Nat)))
 (hB:∀i,i<n->∀W,Below w.heap.size w W->Calls prog 31 #[.pointer (some ⟨p,0,none⟩),.int .i64 (i:Nat)] W fun e w'=>e=.returned (.string (str (bl i)))/\Below W.heap.size W w'):
 Calls prog 12 #[.pointer (some ⟨p,0,none⟩)] w fun e w'=>∃g,e=.returned (.slice (some ⟨g,0,none⟩) n n)/\w'.ownsRow w.heap.size 9 1 (.slice (some ⟨g,0,none⟩) n n) n (fK wU (qV bl n))/\Below w.heap.size w w':=by
 have HBL:=zH hB;clear hB;go_enter func12,ntmps12;go_wp2_with (refine ED rfl _ _ rfl n rfl rfl rfl rfl (by omega) ?_; intro w1 ho1 hb1);obtain⟨g,hg⟩:∃g,g=w.heap.size:=⟨_,rfl⟩;have HG:=zH hg;rw[<-hg]at ho1 hb1 ⊢;rw[<-OV bl n]at ho1;have ZZ:=zH ho1;have HB1:=zH hb1;clear ho1 hb1 hg hc
 go_loopw [12] (fun vk wr=>∃k:Nat,k<=n/\vk=.int .i64 (k:Nat)/\wr.ownsRow g 9 1 (.slice (some ⟨g,0,none⟩) n n) n (fK wU (tY bl n k))/\Below g w wr) (fun vk _=>n - (RowKit.intOf vk).toNat)
 case atStart=>exact⟨0,by omega,rfl,ZZ.out,HB1.out⟩
 case round=>
  obtain⟨k,hk,rfl,hx,hb⟩:=hrel;have HX:=zH hx;have HB:=zH hb;clear hx hb ZZ HB1;by_cases hlt:k<n
  ·have HC:=zH (HBL.out k hlt wr (by rw[<-HG.out]; exact HB.out));have HSK:=zH (OU bl hlt);have HAT:=zH (Xw bl (k:=k) hlt);have hix:=fun w'=>aH underlying46 (by kernel_rfl:(prog.info? 9).map (·.size)=some 1) (a:=some ⟨g,0,none⟩) (n:=n) (cap:=n) (k:=k) (b:=g) (off:=0) rfl hlt (k:Int) rfl w'
   simp only[Nat.mul_one,Nat.zero_add]at hix;generalize hs:str (bl k)=s at HC;have HS:=zH hs;clear hs;go_wp2_with fail;refine HC.out.mono ?_;rintro e w2 ⟨rfl,hb2⟩;have hx2:=bz HX.out hb2;have VV:=zH (HB.out.trans (hb2.mono (by rw[HG.out]; exact HB.out.size)));have hL:(tY bl n k).length=n:=Gi _ _ _;have hf:=O5 hx2 k;have hr0:=(JV (d:=[]) qM hx2 k (by omega)) 0 _ rfl;rw[Nat.mul_one,Nat.add_zero]at hr0;have HST:=zH (Uj (d:=[]) qM hx2 k 0 (by omega) (by decide) (.string s) (bl k) (by rw[<-HS.out]; rfl));clear hx2 hb2 hL;go_wp2_with fail;have h9:=HST.out;rw[Nat.mul_one,Nat.add_zero,HSK.out]at h9;go_roundw;case rel=>exact⟨k+1,by omega,by go_num,h9,VV.out.setCell (zl _) _⟩
   case measure=>simp[RowKit.intOf]; omega
  ·obtain rfl:k=n:=by omega
   go_wp2_with fail;go_ret;refine⟨g,rfl,?_,by rw[<-HG.out]; exact HB.out⟩;rw[<-HG.out,<-TK];exact HX.out
end T7
section
open Go.RowKit
theorem U2(cl:Int)(l:List T.az):(if l.length=0 then(0:Int) else if (T.tr l (l.length - 1)).bP<cl+1 then(T.tr l (l.length - 1)).st+(T.tr l (l.length - 1)).len+16 else(T.tr l (l.length - 1)).st+(T.tr l (l.length - 1)).len)=T.qN cl l:=by
 unfold T.qN T.sB T.eB;by_cases h:l.length=0
 ·rw[zj h,zj h]
 ·rw[zi h,zi h,zi h,zi h];by_cases h2:(T.tr l (l.length - 1)).bP<cl+1
  ·rw[zj h2,zj (by omega)]
  ·rw[zi h2,zi (by omega)]
theorem NG{cap cl:Int}{fin:Bool}{l:List T.az}(h:T.aQ cap cl fin l):0<=T.qN cl l/\T.qN cl l<=449865:=by
 have:=T.okR.bds h.2.1 h.2.2.2.2.2.1;unfold T.qN;split
 ·omega
 ·split <;> omega
instance (c p:Int):Decidable (T.pK c p):=by unfold T.pK; infer_instance
def bZ(cap cl:Int)(fin:Bool)(l:List T.az)(count pk:Int):eY:=
 if T.aF cap cl fin l=false then eY.bad 1 else if fin=true then eY.bad 15 else if ¬ T.pK count pk then eY.bad 1
 else if l.length=99\/cl=16 then eY.bad 7 else if cap - T.qN cl l<count then eY.bad 12 else⟨cl,fin,l++[T.Gx cl l count pk],0⟩
def jI(l:List T.az)(aj:Int):Nat->Option Nat
 | 0=>none
 | n+1=>if (T.tr l n).cZ≠2/\(T.tr l n).nx=aj then some n else jI l aj n
def aZ(cap cl:Int)(fin:Bool)(l:List T.az)(aj count:Int):eY:=
 if T.aF cap cl fin l=false then eY.bad 1 else
 match jI l aj l.length with
 | none=>eY.bad 2
 | some i=>if ¬ T.pK count (T.tr l i).pk then eY.bad 1 else if (T.tr l i).st+(T.tr l i).len - (T.tr l i).nx<count then eY.bad 12 else⟨cl,fin,l.set i (T.grown (T.tr l i) count),0⟩
theorem sW{cap cl:Int}{fin:Bool}{l:List T.az}{aj count:Int}(hV:T.aF cap cl fin l=true)(h:jI l aj l.length=none):aZ cap cl fin l aj count=eY.bad 2:=by unfold aZ; rw[zi (by rw[hV]; simp),h]
theorem sZ{cap cl:Int}{fin:Bool}{l:List T.az}{aj count:Int}{i:Nat}(hV:T.aF cap cl fin l=true)(h:jI l aj l.length=some i):
 aZ cap cl fin l aj count=if ¬ T.pK count (T.tr l i).pk then eY.bad 1 else if (T.tr l i).st+(T.tr l i).len - (T.tr l i).nx<count then eY.bad 12 else⟨cl,fin,l.set i (T.grown (T.tr l i) count),0⟩:=by
 unfold aZ; rw[zi (by rw[hV]; simp),h]
def wS(l:List T.az)(i:Nat):Bool:=decide ((T.tr l i).cZ=1/\(i+1=l.length\/(T.tr l i).nx=(T.tr l i).st+(T.tr l i).len))
def aY(cap cl:Int)(fin:Bool)(l:List T.az)(number:Int):eY:=
 if T.aF cap cl fin l=false then eY.bad 1 else if number<1\/(l.length:Int)<number then eY.bad 6
 else if wS l (number.toNat - 1)=false then eY.bad 8 else⟨cl,fin,l.set (number.toNat - 1) (T.lh (T.tr l (number.toNat - 1))),0⟩
def lV(p:Nat->Bool)(n:Nat):Bool:=(List.range n).any p
theorem uV{p:Nat->Bool}{n:Nat}:lV p n=true↔∃m,m<n/\p m=true:=by simp[lV]
theorem nG{p:Nat->Bool}{n:Nat}:lV p n=false↔∀m,m<n->p m=false:=by simp[lV]
def jq(cl:Int)(l:List T.az)(m:Nat):Bool:=decide (cl<(T.tr l m).bP)
def gK(l:List T.az)(m:Nat):Bool:=decide ((T.tr l m).cZ≠2)
def acB(p:Nat->Bool)(n:Nat)(w:World)(e:Ending)(w':World):Prop:=∃r:Int,e=.returned (.int .i64 r)/\decide (0<=r)=lV p n/\Below w.heap.size w w'
theorem OY(x:T.az)(g:Nat)(cl:Int)(w:World)(hg:w.cell? ⟨g,0,none⟩=some (.int .i64 cl))(hlt:g<w.heap.size):
 Calls prog 242 #[iH x,.pointer (some ⟨g,0,none⟩)] w (RB (decide (cl<x.bP)) w):=by
 go_enter func242,ntmps242;go_wp2;go_ret;exact⟨rfl,(zB _ _).alloc (zl _) _⟩
theorem Lc(x:T.az)(w:World):
 Calls prog 243 #[iH x] w (RB (decide (x.cZ≠2)) w):=by
 by_cases h:x.cZ=2
 ·have hd:(x.cZ != 2)=false:=by rw[bne_eq_false_iff_eq]; exact h
  rw[zf (not_not_intro h)];clear h;go_enter func243,ntmps243;go_wp2;go_ret;exact⟨rfl,(zB _ _).alloc (zl _) _⟩
 ·have hd:(x.cZ != 2)=true:=by rw[bne_iff_ne]; exact h
  rw[zt h];clear h;go_enter func243,ntmps243;go_wp2;go_ret;exact⟨rfl,(zB _ _).alloc (zl _) _⟩
theorem OT(v:Value)(l:List T.az)(w:World)(hr:aW w v l)(hn:l.length<=110)(g:Nat)(cl:Int)(hg:w.cell? ⟨g,0,none⟩=some (.int .i64 cl))(hg2:g<w.heap.size):
 Calls prog 306 #[v,.func (.func 242) #[] #[.pointer (some ⟨g,0,none⟩)]] w (acB (jq cl l) l.length w):=by
 obtain⟨a,c,b,off,rfl,hac,hcell⟩:=hr;have HC:=zH hcell; clear hcell;go_enter func306,ntmps306;go_wp2_with fail
 go_loopw [8] (fun vi wr=>∃(i:Nat),i<=l.length/\vi=.int .i64 i/\Hid (∀m,m<i->(jq cl l) m=false)/\Below w.heap.size w wr) (fun vi _=>l.length - (RowKit.intOf vi).toNat)
 case atStart=>exact⟨0,by omega,rfl,zH fun m hm=>by omega,zB _ _⟩
 case round=>
  obtain⟨i,hi,rfl,HO,hb⟩:=hrel;have hbs:=hb.size;have hgr:wr.cell? ⟨g,0,none⟩=some (.int .i64 cl):=(hb.cell (p:=⟨g,0,none⟩) hg2).trans hg;by_cases hlt:i<l.length
  ·obtain⟨ha,hrange⟩:=HC.out i hlt;obtain⟨x,hx⟩:∃x,x=T.tr l i:=⟨_,rfl⟩;rw[<-hx]at hrange;have HX:=zH hx; clear hx;have hix:=fun w'=>aH underlying35 sizeTrack (cap:=c) ha hlt _ rfl w'
   have hrg:wr.rangeAt b (off+i * 7) (jy x):=fun j u hu=>(hb.cell (p:=⟨b,off+i * 7+j,none⟩) (zc w _ (hrange j u hu))).trans (hrange j u hu)
   clear hrange;obtain⟨hc0,hc1,hc2,hc3,hc4,hc5,hc6⟩:=xO hrg;clear hrg;have Ha:=zH ha; clear ha;go_wp2_with fail;refine(OY x g cl _ (by exact hgr) (by omega)).mono ?_;rintro e w1 ⟨rfl,hb1⟩;have hbb:=hb.trans (hb1.mono hbs);generalize hq:decide (cl<x.bP)=q;have HQ2:Hid ((jq cl l) i=q):=zH (by unfold jq; rw[<-HX.out]; exact hq);clear hq hb1;cases q
   ·go_wp2_with fail;go_roundw;case rel=>
     refine⟨i+1,by omega,by go_num,zH fun m hm=>?_,hbb⟩;by_cases e9:m<i
     ·exact HO.out m e9
     ·have e8:m=i:=by omega
      rw[e8]; exact HQ2.out
    case measure=>simp[RowKit.intOf] <;> omega
   ·go_wp2_with fail;go_ret;refine⟨i,rfl,?_,hbb⟩;rw[uV.2 ⟨i,hlt,HQ2.out⟩]; simp
  ·obtain rfl:i=l.length:=by omega
   go_wp2_with fail;go_ret;refine⟨-1,rfl,?_,hb⟩;rw[nG.2 HO.out]; rfl
theorem mJ(v:Value)(l:List T.az)(w:World)(hr:aW w v l)(hn:l.length<=110)(g:Nat)(cl:Int)(hg:w.cell? ⟨g,0,none⟩=some (.int .i64 cl))(hg2:g<w.heap.size):
 Calls prog 241 #[v,.func (.func 242) #[] #[.pointer (some ⟨g,0,none⟩)]] w (RB (lV (jq cl l) l.length) w):=by
 obtain⟨a,c,rfl,_⟩:=bK.form hr;have HI:=zH (OT _ l w hr hn g cl hg hg2);go_enter func241,ntmps241;go_wp2_with fail;refine HI.out.mono ?_;rintro e w1 ⟨r,rfl,hr1,hb⟩;have HR1:=zH hr1; clear hr1;go_wp2_with fail;go_ret;exact⟨fQ HR1.out,hb⟩
theorem JK(v:Value)(l:List T.az)(w:World)(hr:aW w v l)(hn:l.length<=110):
 Calls prog 306 #[v,.func (.func 243) #[] #[]] w (acB (gK l) l.length w):=by
 obtain⟨a,c,b,off,rfl,hac,hcell⟩:=hr;have HC:=zH hcell; clear hcell;go_enter func306,ntmps306;go_wp2_with fail
 go_loopw [8] (fun vi wr=>∃(i:Nat),i<=l.length/\vi=.int .i64 i/\Hid (∀m,m<i->(gK l) m=false)/\Below w.heap.size w wr) (fun vi _=>l.length - (RowKit.intOf vi).toNat)
 case atStart=>exact⟨0,by omega,rfl,zH fun m hm=>by omega,zB _ _⟩
 case round=>
  obtain⟨i,hi,rfl,HO,hb⟩:=hrel;have hbs:=hb.size;by_cases hlt:i<l.length
  ·obtain⟨ha,hrange⟩:=HC.out i hlt;obtain⟨x,hx⟩:∃x,x=T.tr l i:=⟨_,rfl⟩;rw[<-hx]at hrange;have HX:=zH hx; clear hx;have hix:=fun w'=>aH underlying35 sizeTrack (cap:=c) ha hlt _ rfl w'
   have hrg:wr.rangeAt b (off+i * 7) (jy x):=fun j u hu=>(hb.cell (p:=⟨b,off+i * 7+j,none⟩) (zc w _ (hrange j u hu))).trans (hrange j u hu)
   clear hrange;obtain⟨hc0,hc1,hc2,hc3,hc4,hc5,hc6⟩:=xO hrg;clear hrg;have Ha:=zH ha; clear ha;go_wp2_with fail;refine(Lc x _).mono ?_;rintro e w1 ⟨rfl,hb1⟩;have hbb:=hb.trans (hb1.mono hbs);generalize hq:decide (x.cZ≠2)=q;have HQ2:Hid ((gK l) i=q):=zH (by unfold gK; rw[<-HX.out]; exact hq);clear hq hb1;cases q
   ·go_wp2_with fail;go_roundw;case rel=>
     refine⟨i+1,by omega,by go_num,zH fun m hm=>?_,hbb⟩;by_cases e9:m<i
     ·exact HO.out m e9
     ·have e8:m=i:=by omega
      rw[e8]; exact HQ2.out
    case measure=>simp[RowKit.intOf] <;> omega
   ·go_wp2_with fail;go_ret;refine⟨i,rfl,?_,hbb⟩;rw[uV.2 ⟨i,hlt,HQ2.out⟩]; simp
  ·obtain rfl:i=l.length:=by omega
   go_wp2_with fail;go_ret;refine⟨-1,rfl,?_,hb⟩;rw[nG.2 HO.out]; rfl
theorem kV(v:Value)(l:List T.az)(w:World)(hr:aW w v l)(hn:l.length<=110):
 Calls prog 241 #[v,.func (.func 243) #[] #[]] w (RB (lV (gK l) l.length) w):=by
 obtain⟨a,c,rfl,_⟩:=bK.form hr;have HI:=zH (JK _ l w hr hn);go_enter func241,ntmps241;go_wp2_with fail;refine HI.out.mono ?_;rintro e w1 ⟨r,rfl,hr1,hb⟩;have HR1:=zH hr1; clear hr1;go_wp2_with fail;go_ret;exact⟨fQ HR1.out,hb⟩
def bH(cap cl:Int)(fin:Bool)(l:List T.az)(fz:Bool):eY:=
 if T.aF cap cl fin l=false then eY.bad 1 else if fin=true then eY.bad 15 else if lV (gK l) l.length=true then eY.bad 8
 else if lV (jq cl l) l.length=true then⟨cl+1,fz,l,0⟩ else if fz=false\/cl=0 then eY.bad 8 else⟨cl,true,l,0⟩
def i64(a:Int):Prop:=-9223372036854775808<=a/\a<=9223372036854775807
def doR(cap cl:Int)(fin:Bool)(l:List T.az)(kind a b:Int)(fz:Bool):eY:=
 if kind=0 then bZ cap cl fin l a b else if kind=1 then aZ cap cl fin l a b else if kind=2 then aY cap cl fin l a else bH cap cl fin l fz
end
section
theorem yH{l:List T.az}{aj:Int}:∀(n i:Nat),jI l aj n=some i->i<n/\(T.tr l i).cZ≠2/\(T.tr l i).nx=aj
 | 0,i,h=>by simp[jI]at h
 | n+1,i,h=>by
   unfold jI at h;split at h
   ·obtain rfl:=zs h;exact⟨by omega,by assumption⟩
   ·have:=yH n i h;exact⟨by omega,this.2⟩
structure Does (cap cl:Int) (fin:Bool) (l:List T.az) (kind a b:Int) (R:eY):Prop where
 ok:R.code=0->T.Step cap cl fin l R.cl R.fin R.l
 bad:R.code≠0->R=eY.bad R.code
 app:R.code=0->kind=1->∃i,i<l.length/\(T.tr l i).cZ≠2/\(T.tr l i).nx=a/\1<=b/\b<=(T.tr l i).st+(T.tr l i).len - (T.tr l i).nx/\R.l=l.set i (T.grown (T.tr l i) b)
 same:R.code=0->kind≠1->∀k,T.Done R.l k↔T.Done l k
theorem Does.oh{cap cl:Int}{fin:Bool}{l:List T.az}{kind a b:Int}(c:Int)(hc:c≠0):Does cap cl fin l kind a b (eY.bad c):=
 ⟨fun h=>absurd h hc,fun _=>rfl,fun h=>absurd h hc,fun h=>absurd h hc⟩
theorem jG{cap cl:Int}{fin:Bool}{l:List T.az}(hv:T.aQ cap cl fin l)(kind a b:Int)(fz:Bool):Does cap cl fin l kind a b (doR cap cl fin l kind a b fz):=by
 have hV:=T.ay.2 hv;have hVn:¬ T.aF cap cl fin l=false:=by rw[hV]; simp
 unfold doR;by_cases k0:kind=0
 ·rw[zj k0];unfold bZ;rw[zi hVn];by_cases hf:fin=true
  ·rw[zj hf]; exact Does.oh _ (by decide)
  rw[zi hf];by_cases hp:T.pK a b
  ·rw[zi (not_not_intro hp)];by_cases hn:l.length=99\/cl=16
   ·rw[zj hn]; exact Does.oh _ (by decide)
   rw[zi hn];by_cases hx:cap - T.qN cl l<a
   ·rw[zj hx]; exact Does.oh _ (by decide)
   rw[zi hx];refine⟨fun _=>.inl ⟨by simpa using hf,rfl,rfl,a,b,hp,?_,?_,by omega,rfl⟩,fun h=>absurd rfl h,fun _ h=>by omega,fun _ _ k=>?_⟩
   ·have:=hv.2.2.1; omega
   ·have:=hv.2.2.2.2.1; omega
   ·exact T.Si _ rfl k
  ·rw[zj hp]; exact Does.oh _ (by decide)
 rw[zi k0];by_cases k1:kind=1
 ·rw[zj k1];unfold aZ;rw[zi hVn];split
  ·exact Does.oh _ (by decide)
  ·rename_i i hi
   obtain⟨h1,h2,h3⟩:=yH _ _ hi;by_cases hp:T.pK b (T.tr l i).pk
   ·rw[zi (not_not_intro hp)];by_cases hx:(T.tr l i).st+(T.tr l i).len - (T.tr l i).nx<b
    ·rw[zj hx]; exact Does.oh _ (by decide)
    rw[zi hx];exact⟨fun _=>.inr (.inl ⟨rfl,rfl,i,b,h1,h2,hp,by omega,rfl⟩),fun h=>absurd rfl h,fun _ _=>⟨i,h1,h2,h3,hp.1,by omega,rfl⟩,fun _ h=>absurd k1 h⟩
   ·rw[zj hp]; exact Does.oh _ (by decide)
 rw[zi k1];by_cases k2:kind=2
 ·rw[zj k2];unfold aY;rw[zi hVn];by_cases hn:a<1\/(l.length:Int)<a
  ·rw[zj hn]; exact Does.oh _ (by decide)
  rw[zi hn];by_cases hs:wS l (a.toNat - 1)=false
  ·rw[zj hs]; exact Does.oh _ (by decide)
  rw[zi hs];have hs':wS l (a.toNat - 1)=true:=by simpa using hs
  unfold wS at hs';obtain⟨s1,s2⟩:=of_decide_eq_true hs';have hlt:a.toNat - 1<l.length:=by omega
  exact⟨fun _=>.inr (.inr (.inl ⟨rfl,rfl,a.toNat - 1,by omega,s1,fun h=>by omega,rfl⟩)),fun h=>absurd rfl h,fun _ h=>absurd h k1,fun _ _ k=>T.Sj hlt (T.lh (T.tr l (a.toNat - 1))) rfl rfl k⟩
 rw[zi k2];unfold bH;rw[zi hVn];by_cases hf:fin=true
 ·rw[zj hf]; exact Does.oh _ (by decide)
 rw[zi hf];by_cases hu:lV (gK l) l.length=true
 ·rw[zj hu]; exact Does.oh _ (by decide)
 rw[zi hu];have hu':∀i,i<l.length->(T.tr l i).cZ=2:=fun i hi=>by have:=nG.1 (by simpa using hu) i hi;unfold gK at this;simpa using this
 by_cases hl:lV (jq cl l) l.length=true
 ·rw[zj hl];obtain⟨m,hm,h2⟩:=uV.1 hl;exact⟨fun _=>.inr (.inr (.inr (.inl ⟨by simpa using hf,rfl,rfl,hu',m,hm,of_decide_eq_true h2⟩))),fun h=>absurd rfl h,fun _ h=>absurd h k1,fun _ _ k=>Iff.rfl⟩
 rw[zi hl];by_cases hz:fz=false\/cl=0
 ·rw[zj hz]; exact Does.oh _ (by decide)
 rw[zi hz];refine⟨fun _=>.inr (.inr (.inr (.inr ⟨by simpa using hf,rfl,rfl,rfl,fun h=>hz (.inr h),hu',fun i hi=>?_⟩))),fun h=>absurd rfl h,fun _ h=>absurd h k1,fun _ _ k=>Iff.rfl⟩;have:=nG.1 (by simpa using hl) i hi;unfold jq at this;simpa using this
end
end Go.Proofs.YtfnehkmhcmkhjaaGreat
