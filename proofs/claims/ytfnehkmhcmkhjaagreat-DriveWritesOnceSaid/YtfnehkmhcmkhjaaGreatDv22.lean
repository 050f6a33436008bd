/- Parts:XGi XJa -/
import Derived.Test.YtfnehkmhcmkhjaaGreatDvAl
import Derived.Test.YtfnehkmhcmkhjaaGreatDv21
import Derived.Test.YtfnehkmhcmkhjaaGreatDv19
set_option maxRecDepth 100000
set_option maxHeartbeats 8000000
set_option linter.unusedVariables false
namespace Go.Proofs.YtfnehkmhcmkhjaaGreat
open Tryz
namespace oH
open Go.ChangeShapes Go.WideShapes Go.RowKit Go.Deep Go.Joins C9
open W8 (is)
def xW(w:World)(v:Value)(l:List Int):Prop:=bK w 1 v l.length (fun i=>[.int .i64 (dm l i)])/\l.length<=9223372036854775807/\∀i,i<l.length->In64 (dm l i)
theorem xW.keep{w w':World}{v:Value}{l:List Int}(h:xW w v l)(hb:Below w.heap.size w w'):xW w' v l:=⟨h.1.keep hb,h.2⟩
def xU(w:World)(v:Value)(l:List (Int×Int)):Prop:=aeT w v l/\l.length<=9223372036854775807/\∀i,i<l.length->In64 (chA l i).1/\In64 (chA l i).2
theorem xU.keep{w w':World}{v:Value}{l:List (Int×Int)}(h:xU w v l)(hb:Below w.heap.size w w'):xU w' v l:=⟨dX.keep h.1 hb,h.2⟩
structure EK (w:World) (vE vC:Value) (d:Dam):Prop where
 er:xW w vE d.er
 ch:xU w vC d.ch
 aj:In64 d.aj
theorem EK.keep{w w':World}{vE vC:Value}{d:Dam}(h:EK w vE vC d)(hb:Below w.heap.size w w'):EK w' vE vC d:=⟨h.er.keep hb,h.ch.keep hb,h.aj⟩
structure DV where
 d:Dam
 vE:Value
 vC:Value
section
variable {H:Type} {enc:TypeId×Value->H} {w:World} {base b0:Nat} {sp:Nat->Bool} {held:Bool}
theorem cells12i:prog.cellsOf 3=1:=by kernel_rfl
theorem cells12s:prog.cellsOf 27=1:=by kernel_rfl
theorem cells12n:prog.cellsOf 31=1:=by kernel_rfl
theorem cells12h:prog.cellsOf 50=1:=by kernel_rfl
theorem cells12c:prog.cellsOf 177=2:=by kernel_rfl
theorem cells12d:prog.cellsOf 52=3:=by kernel_rfl
theorem Oe(n:Nat)(cs:List Value)(x:DataW H×List MemPlace)(h:DataW.trod enc prog w base sp held n 177 cs=some x):∃t:Int×Int,cs=chc t/\In64 t.1/\In64 t.2:=by
 obtain⟨ys,n',_,_,hlen,hyl,hf⟩:=DataW.trod_struct underlying177 h;rw[cells12c]at hlen
 match cs,hlen with
 | [c0,c1],_=>
   have g0:DataW.trod enc prog w base sp held n' 3 (([c0,c1].drop 0).take (prog.cellsOf 3))=ys[0]?:=hf 0 _ rfl;have g1:DataW.trod enc prog w base sp held n' 3 (([c0,c1].drop 1).take (prog.cellsOf 3))=ys[1]?:=hf 1 _ rfl;rw[cells12i]at g0 g1;simp only[List.drop,List.take]at g0 g1;obtain⟨a0,e0,w0⟩:=fM underlying3 g0 (eU hyl (by decide));obtain⟨a1,e1,w1⟩:=fM underlying3 g1 (eU hyl (by decide));simp only[List.cons.injEq,and_true]at e0 e1;subst e0 e1;exact⟨(a0,a1),rfl,w0,w1⟩
theorem ady{n:Nat}{v:Value}{x:DataW H×List MemPlace}(hd:DataW.trod enc prog w base sp held n 31 [v]=some x):∃l,xW w v l:=by
 obtain⟨l,h1,h2,h3⟩:=pM (0:Int) (fun x=>[.int .i64 x]) In64 underlying31 cells12i (by omega) (fun n cs x h=>fM underlying3 h (by simp)) hd;have e:∀i,(l[i]?).getD 0=dm l i:=fun i=>by unfold dm; rw[List.getD_eq_getElem?_getD]
 simp only[e]at h1 h3;exact⟨l,h1,h2,h3⟩
theorem abj{n:Nat}{v:Value}{x:DataW H×List MemPlace}(hd:DataW.trod enc prog w base sp held n 50 [v]=some x):∃l,xU w v l:=by obtain⟨l,h1,h2,h3⟩:=pM ((0,0):Int×Int) chc (fun t=>In64 t.1/\In64 t.2) underlying50 cells12c (by omega) (fun n cs x h=>Oe n cs x h) hd;exact⟨l,h1,h2,h3⟩
theorem abk{n:Nat}{v:Value}{x:DataW H×List MemPlace}(hd:DataW.trod enc prog w base sp held n 27 [v]=some x):∃l,xX w v l:=by obtain⟨l,h1,h2,h3⟩:=pM scz scc Wf underlying27 cellsSc (by omega) (fun n cs x h=>Qb n cs x h) hd;exact⟨l,h1,h3,h2⟩
theorem qL{α:Type}{x:Option α}(h:x≠none):∃y,x=some y:=by cases x with
 | none=>exact absurd rfl h
 | some y=>exact⟨y,rfl⟩
theorem Ol(n:Nat)(cs:List Value)(x:DataW H×List MemPlace)(h:DataW.trod enc prog w base sp held n 52 cs=some x):∃t:DV,cs = [.int .i64 t.d.aj,t.vE,t.vC]/\EK w t.vE t.vC t.d:=by
 obtain⟨ys,n',_,_,hlen,hyl,hf⟩:=DataW.trod_struct underlying52 h;rw[cells12d]at hlen
 match cs,hlen with
 | [c0,c1,c2],_=>
   have g0:DataW.trod enc prog w base sp held n' 3 (([c0,c1,c2].drop 0).take (prog.cellsOf 3))=ys[0]?:=hf 0 _ rfl;have g1:DataW.trod enc prog w base sp held n' 31 (([c0,c1,c2].drop 1).take (prog.cellsOf 31))=ys[1]?:=hf 1 _ rfl;have g2:DataW.trod enc prog w base sp held n' 50 (([c0,c1,c2].drop 2).take (prog.cellsOf 50))=ys[2]?:=hf 2 _ rfl;rw[cells12i]at g0;rw[cells12n]at g1;rw[cells12h]at g2;simp only[List.drop,List.take]at g0 g1 g2;obtain⟨a0,e0,w0⟩:=fM underlying3 g0 (eU hyl (by decide));obtain⟨y1,hy1⟩:=qL (eU hyl (i:=1) (by decide));obtain⟨y2,hy2⟩:=qL (eU hyl (i:=2) (by decide));rw[hy1]at g1;rw[hy2]at g2;obtain⟨l1,w1⟩:=ady g1;obtain⟨l2,w2⟩:=abj g2;simp only[List.cons.injEq,and_true]at e0;subst e0;exact⟨⟨⟨a0,l1,l2⟩,c1,c2⟩,rfl,w1,w2,w0⟩
end
end oH
namespace T7
open Go Go.RowKit Go.Shelf C9
open W8 (is qR iZ nK nU DK Gl yQ mQ qB pg)
def anyS(p:List UInt8->Bool)(l:List (List UInt8)):Bool:=l.any p
theorem LJ{p:List UInt8->Bool}{l:List (List UInt8)}{i:Nat}(hi:i<l.length)(h:p (bF [] l i)=true):anyS p l=true:=by unfold anyS; rw[List.any_eq_true]; exact⟨_,tq hi,h⟩
theorem CU{p:List UInt8->Bool}{l:List (List UInt8)}(h:∀i,i<l.length->p (bF [] l i)=false):anyS p l=false:=by unfold anyS; rw[List.any_eq_false];intro x hx;obtain⟨i,hi,rfl⟩:=List.getElem_of_mem hx;have:=h i hi;simp only[bF,List.getElem?_eq_getElem hi,Option.getD_some]at this;rw[this]; decide
theorem adx(fi:Nat)(hfi:∀args W,(callFunc fi args).run prog W=.ok (.enter fi args) W)(p:List UInt8->Bool)(v:Value)(l:List (List UInt8))(w:World)(hr:gU w v l)(hl:l.length<=1000000000000)
 (HP:∀x W,x ∈ l->Calls prog fi #[.string (str x)] W fun e w'=>e=.returned (.bool (p x))/\W=w'):
 Calls prog 87 #[v,.func (.func fi) #[] #[]] w fun e w'=>∃r:Int,e=.returned (.int .i64 r)/\decide (0<=r)=anyS p l/\w=w':=by
 obtain⟨a,c,rfl,_⟩:=dX.form hr;obtain⟨b,o,k⟩:=dX.at hr;have HK:=zH k;have HP:=zH HP;clear hr k;go_enter func87,ntmps87;go_wp2_with fail
 go_loop [8] (fun vi=>∃i:Nat,i<=l.length/\vi=.int .i64 i/\Hid (∀m,m<i->p (bF [] l m)=false)) (fun vi=>l.length - (RowKit.intOf vi).toNat)
 case atStart=>exact⟨0,by omega,rfl,zH fun m hm=>by omega⟩
 case round=>
  obtain⟨i,hi,rfl,HO⟩:=hrel;by_cases hlt:i<l.length
  ·obtain⟨ha,hrange⟩:=HK.out i hlt;have hix:=aH underlying45 (by kernel_rfl:(prog.info? 9).map (·.size)=some 1) (cap:=c) ha hlt (i:Int) rfl w;have hcl:w.cell? ⟨b,o+i * 1,none⟩=some (.string (str (bF [] l i))):=hrange 0 _ rfl;simp only[Nat.mul_one]at hix hcl;have HC:=zH (HP.out (bF [] l i) w (tq hlt));obtain⟨q,hq⟩:∃q,q=p (bF [] l i):=⟨_,rfl⟩;rw[<-hq]at HC;have HQ:=zH hq;generalize str (bF [] l i)=s at hcl HC;clear ha hrange hq;cases q
   ·go_wp2_with fail;refine HC.out.mono ?_;rintro e w' ⟨rfl,rfl⟩;go_wp2_with fail;go_round;case rel=>
     refine⟨i+1,by omega,by go_num,zH fun m hm=>?_⟩;by_cases e9:m<i
     ·exact HO.out m e9
     ·have e8:m=i:=by omega
      rw[e8]; exact HQ.out.symm
    case measure=>simp[RowKit.intOf]; omega
   ·go_wp2_with fail;refine HC.out.mono ?_;rintro e w' ⟨rfl,rfl⟩;go_wp2_with fail;go_ret;refine⟨i,rfl,?_,rfl⟩;rw[LJ hlt HQ.out.symm]; simp
  ·obtain rfl:i=l.length:=by omega
   go_wp2_with fail;go_ret;refine⟨-1,rfl,?_,rfl⟩;rw[CU HO.out]; rfl
theorem aaw(fi:Nat)(hfi:∀args W,(callFunc fi args).run prog W=.ok (.enter fi args) W)(p:List UInt8->Bool)(v:Value)(l:List (List UInt8))(w:World)(hr:gU w v l)(hl:l.length<=1000000000000)
 (HP:∀x W,x ∈ l->Calls prog fi #[.string (str x)] W fun e w'=>e=.returned (.bool (p x))/\W=w'):
 Calls prog 38 #[v,.func (.func fi) #[] #[]] w fun e w'=>e=.returned (.bool (anyS p l))/\w=w':=by
 have HI:=zH (adx fi hfi p v l w hr hl HP);obtain⟨a,c,rfl,_⟩:=dX.form hr;clear HP hr;go_enter func38,ntmps38;go_wp2_with fail;refine HI.out.mono ?_;rintro e w1 ⟨r,rfl,hr1,rfl⟩;have HR1:=zH hr1; clear hr1;go_wp2_with fail;go_ret;exact⟨fQ HR1.out,rfl⟩
def gV(q:Int->Bool)(l:List Int):List Int:=l.filter q
theorem su(q:Int->Bool)(l:List Int)(x:Int):gV q (l++[x])=if q x=true then gV q l++[x] else gV q l:=by
 unfold gV;rw[List.filter_append];by_cases h:q x=true
 ·rw[zj h]; simp only[List.filter_cons,h,if_true,List.filter_nil]
 ·rw[zi h]; simp only[List.filter_cons,h,List.filter_nil]; simp
theorem Bq{q:Int->Bool}{l:List Int}(h:∀t,t<l.length->q (dm l t)=true):gV q l=l:=by unfold gV;rw[List.filter_eq_self];intro x hx;obtain⟨t,ht,rfl⟩:=List.getElem_of_mem hx;rw[<-nK ht];exact h t ht
theorem Gs{q:Int->Bool}{l:List Int}{k:Nat}(hk:k<l.length)(h:∀t,t<k->q (dm l t)=true)(hx:q (dm l k)=false):gV q (l.take (k+1))=l.take k:=by
 rw[nU l k hk,su,hx,zi (by decide)];refine Bq fun t ht=>?_
 rw[List.length_take]at ht;rw[mQ (by omega)];exact h t (by omega)
def aeR(q:Int->Bool)(l:List Int)(r:Int):Prop:=(r = -1/\∀t,t<l.length->q (dm l t)=true)\/∃k:Nat,r=k/\k<l.length/\(∀t,t<k->q (dm l t)=true)/\q (dm l k)=false
theorem Zm(fi:Nat)(hfi:∀args W,(callFunc fi args).run prog W=.ok (.enter fi args) W)(q:Int->Bool)(v:Value)(l:List Int)(w:World)(hv:uS w v l)(h:∀x W,Calls prog fi #[.int .i64 x] W fun e w'=>e=.returned (.bool (!q x))/\W=w'):
 Calls prog 141 #[v,.func (.func fi) #[] #[]] w fun e w'=>∃r:Int,e=.returned (.int .i64 r)/\aeR q l r/\w=w':=by
 obtain⟨h0,⟨a,cap,b,off,rfl,hcap,hcell⟩,afc⟩:=hv;have HC:=zH hcell; clear hcell;have HP:=zH (fun k (hk:k<l.length)=>h (dm l k) w);clear afc h;go_enter func141,ntmps141;go_wp2_with fail
 go_loop [8] (fun vk=>∃k:Nat,k<=l.length/\vk=.int .i64 k/\Hid (∀i,i<k->q (dm l i)=true)) (fun vk=>l.length - (RowKit.intOf vk).toNat)
 case atStart=>exact⟨0,by omega,rfl,zH (fun i h=>by omega)⟩
 case round=>
  obtain⟨k,hk,rfl,hz⟩:=hrel;by_cases hlt:k<l.length
  ·obtain⟨ha,hcp⟩:=HC.out k hlt;have hix:=ku (P:=prog) underlying31 sizeInt (cap:=cap) ha hlt _ rfl w;have Ha:=zH ha; clear ha;have HQ:=zH (HP.out k hlt);obtain⟨y,hy⟩:∃y,y=dm l k:=⟨_,rfl⟩;rw[<-hy]at hcp HQ;have Hy:=zH hy; clear hy;cases hc:q y with
   | true=>
     rw[hc]at HQ;have Hc:=zH hc; clear hc;go_wp2_with fail;refine HQ.out.mono ?_;rintro e w' ⟨rfl,rfl⟩;go_wp2_with fail;go_round;case rel=>
      refine⟨k+1,by omega,by go_num,zH fun i hi=>?_⟩;by_cases e:i=k
      ·rw[e,<-Hy.out]; exact Hc.out
      ·exact hz.out i (by omega)
     case measure=>simp[RowKit.intOf]; omega
   | false=>
     rw[hc]at HQ;have Hc:=zH hc; clear hc;go_wp2_with fail;refine HQ.out.mono ?_;rintro e w' ⟨rfl,rfl⟩;go_wp2_with fail;go_ret;exact⟨_,rfl,.inr ⟨k,rfl,hlt,hz.out,by rw[<-Hy.out]; exact Hc.out⟩,rfl⟩
  ·obtain rfl:k=l.length:=by omega
   go_wp2_with fail;go_ret;exact⟨_,rfl,.inl ⟨rfl,hz.out⟩,rfl⟩
def YP(q:Int->Bool)(l L:List Int)(i j:Nat):Prop:=L.length=l.length/\i=(gV q (l.take j)).length/\(∀t,t<i->dm L t=dm (gV q (l.take j)) t)/\∀t,j<=t->t<l.length->dm L t=dm l t
theorem YP.no{q:Int->Bool}{l L:List Int}{i j:Nat}(h:YP q l L i j)(hj:j<l.length)(hc:q (dm l j)=false):YP q l L i (j+1):=by
 obtain⟨h1,h2,h3,h4⟩:=h;have e:gV q (l.take (j+1))=gV q (l.take j):=by rw[nU l j hj,su,hc,zi (by decide)]
 exact⟨h1,by rw[e]; exact h2,by rw[e]; exact h3,fun t ht hl=>h4 t (by omega) hl⟩
theorem YP.yes{q:Int->Bool}{l L:List Int}{i j:Nat}(h:YP q l L i j)(hij:i<j)(hj:j<l.length)(hc:q (dm l j)=true):YP q l (L.set i (dm l j)) (i+1) (j+1):=by
 obtain⟨h1,h2,h3,h4⟩:=h;have e:gV q (l.take (j+1))=gV q (l.take j)++[dm l j]:=by rw[nU l j hj,su,hc,zj rfl]
 refine⟨by rw[List.length_set]; exact h1,by rw[e,List.length_append,h2]; rfl,fun t ht=>?_,fun t ht hl=>?_⟩
 ·rw[DK _ _ _ _ (by omega),e];by_cases e2:t=i
  ·subst e2;rw[zj rfl,h2,Gl]
  ·rw[zi e2,yQ (by omega),h3 t (by omega)]
 ·rw[DK _ _ _ _ (by omega),zi (by omega),h4 t (by omega) hl]
theorem acN(fi:Nat)(hfi:∀args W,(callFunc fi args).run prog W=.ok (.enter fi args) W)(q:Int->Bool)(g cap n:Nat)(l:List Int)(w:World)(hr:qR w 3 g cap l)(hn:l.length=n)(hl:n<=100000)(hb:∀x ∈ l,-9223372036854775808<=x/\x<=9223372036854775807)(h:∀x W,Calls prog fi #[.int .i64 x] W fun e w'=>e=.returned (.bool (!q x))/\W=w'):
 Calls prog 71 #[.slice (some ⟨g,0,none⟩) n cap,.func (.func fi) #[] #[]] w fun e w'=>∃v,e=.returned v/\uS w' v (gV q l)/\w.grownBy w' (some g):=by
 have hrd:uS w (.slice (some ⟨g,0,none⟩) n cap) l:=⟨by omega,⟨_,cap,g,0,by rw[hn],hr.le,fun i hi=>⟨rfl,by rw[Nat.zero_add]; exact hr.cell i hi⟩⟩,fun i hi=>hb _ (iZ hi)⟩;have HI:=zH (Zm fi hfi q _ l w hrd h);have HP:Hid (∀W:World,∀j,j<n->Calls prog fi #[.int .i64 (dm l j)] W fun e w'=>e=.returned (.bool (!q (dm l j)))/\W=w'):=zH fun W j _=>h (dm l j) W
 have hncap:n<=cap:=by rw[<-hn]; exact hr.le
 have HRd:=zH hrd; have HR:=zH hr; have HN:=zH hn; have HB:=zH hb;clear hrd hr hn hb h;go_enter func71,ntmps71;go_wp2_with fail;refine HI.out.mono ?_;rintro e w' ⟨r,rfl,(⟨rfl,hall⟩ | ⟨k,rfl,hk,Dz,hno⟩),rfl⟩
 ·have HA:Hid (gV q l=l):=zH (Bq hall);clear hall;go_wp2_with fail;go_ret;exact⟨_,rfl,by rw[HA.out]; exact HRd.out,World.grownBy.refl _ _⟩
 ·have hk2:k<n:=by rw[<-HN.out]; exact hk
  have HD0:Hid (YP q l l k (k+1)):=zH (by
   have e:=Gs hk Dz hno;refine⟨rfl,by rw[e,List.length_take]; omega,fun t ht=>by rw[e,mQ ht],fun t _ _=>rfl⟩)
  have hr0:=HR.out;clear Dz hno hk;go_wp2_with fail
  go_loopw [5,6] (fun vi vj wr=>∃(i j:Nat)(L:List Int),vi=.int .i64 i/\vj=.int .i64 j/\i<j/\j<=n/\Hid (YP q l L i j)/\qR wr 3 g cap L/\w.grownBy wr (some g)) (fun _ vj _=>n - (RowKit.intOf vj).toNat)
  case atStart=>exact⟨k,k+1,l,rfl,by go_num,by omega,by omega,HD0,hr0,World.grownBy.refl _ _⟩
  case round=>
   clear hr0;obtain⟨i,j,L,rfl,rfl,hij,hj,HD,hr,hg⟩:=hrel;have hLl:L.length=n:=HD.out.1.trans HN.out;by_cases hlt:j<n
   ·have hlt':(j:Int)<n:=by omega
    have hc:=hr.cell j (by omega);rw[HD.out.2.2.2 j (zl _) (by rw[HN.out]; exact hlt)]at hc;have hix:=ku (P:=prog) (a:=some ⟨g,0,none⟩) (off:=0) (b:=g) (n:=n) (cap:=cap) (k:=j) underlying31 sizeInt rfl hlt _ rfl wr;have hix2:=ku (P:=prog) (a:=some ⟨g,0,none⟩) (off:=0) (b:=g) (n:=n) (cap:=cap) (k:=i) underlying31 sizeInt rfl (by omega) _ rfl wr;rw[Nat.zero_add]at hix hix2;have HC:=zH (HP.out wr j hlt);have hf:=hr.frozen i;have hci:=hr.cell i (by omega);have hjl:j<l.length:=by rw[HN.out]; exact hlt
    cases hcc:q (dm l j) with
    | false=>
      have HD2:=zH (HD.out.no hjl hcc);rw[hcc]at HC;clear hcc;generalize dm l j=y at *;go_wp2_with fail;refine HC.out.mono ?_;rintro e w' ⟨rfl,rfl⟩;go_wp2_with fail;go_roundw;case rel=>
       refine⟨_,_,_,_,_,_,_,_,_,_,_,_,_,_,_,_,_,_,_,_,_,_,_,?_,rfl⟩;exact⟨i,j+1,L,rfl,by go_num,by omega,by omega,HD2,hr,hg⟩
      case measure=>simp[RowKit.intOf]; omega
    | true=>
      have HD2:=zH (HD.out.yes hij hjl hcc);have HSt:=zH (hr.store i (dm l j) (by omega));have HGt:=zH (pg hg i (.int .i64 (dm l j)));rw[hcc]at HC;clear hcc;generalize dm l j=y at *;go_wp2_with fail;refine HC.out.mono ?_;rintro e w' ⟨rfl,rfl⟩;clear hr hg;go_wp2_with fail;go_roundw;case rel=>
       refine⟨_,_,_,_,_,_,_,_,_,_,_,_,_,_,_,_,_,_,_,_,_,_,_,?_,rfl⟩;exact⟨i+1,j+1,_,by go_num,by go_num,by omega,by omega,HD2,HSt.out,HGt.out⟩
      case measure=>simp[RowKit.intOf]; omega
   ·obtain rfl:j=n:=by omega
    have hin:i<j:=hij;have hif:Hid (i=(gV q l).length/\∀t,t<i->dm L t=dm (gV q l) t):=zH (by
     have e:l.take j=l:=List.take_of_length_le (by rw[HN.out]; exact zl _);have h2:=HD.out.2.1; have h3:=HD.out.2.2.1;rw[e]at h2 h3;exact⟨h2,h3⟩)
    have hcl:∀ty,(Builtin.clear_ #[31] ty #[.slice (some ⟨g,i,none⟩) (j - i) (cap - i)]).run prog wr=.ok (.tuple #[]) (wr.setCells g i (List.replicate (j - i) (.int .i64 0))):=fun ty=>
     Lib.run_clear_slice wr _ _ ty _ underlying31 (fun _=>by kernel_rfl) rfl rfl g i _ _ (by omega) (fun t ht=>by rw[hr.cell (i+t) (by omega)]; rfl) (fun t ht=>hr.frozen _)
    have acd:Hid (uS (wr.setCells g i (List.replicate (j - i) (.int .i64 0))) (.slice (some ⟨g,0,none⟩) i cap) (gV q l)/\w.grownBy (wr.setCells g i (List.replicate (j - i) (.int .i64 0))) (some g)):=zH (by
     have hki:=hif.out.1;refine⟨⟨by omega,⟨_,cap,g,0,by rw[hif.out.1],by omega,fun t ht=>⟨rfl,?_⟩⟩,fun t ht=>?_⟩,qB _ _ _ hg⟩
     ·rw[Nat.zero_add,World.cell?_setCells_out _ _ _ _ _ (fun _ _=>.inl (by show t<i; omega)),hr.cell t (by omega),hif.out.2 t (by omega)]
     ·exact HB.out _ (List.mem_filter.1 (iZ ht)).1)
    clear hr hg;go_wp2_with fail;go_ret;exact⟨_,rfl,acd.out.1,acd.out.2⟩
end T7
end Go.Proofs.YtfnehkmhcmkhjaaGreat
