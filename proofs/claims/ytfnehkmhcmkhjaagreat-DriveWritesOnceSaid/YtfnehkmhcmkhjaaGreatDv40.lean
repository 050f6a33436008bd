/- Parts:XEnKx XLa XKk XKo -/
import Derived.Test.YtfnehkmhcmkhjaaGreatDvAl
import Derived.Test.YtfnehkmhcmkhjaaGreatDv39
set_option maxRecDepth 100000
set_option maxHeartbeats 8000000
set_option linter.unusedVariables false
namespace Go.Proofs.YtfnehkmhcmkhjaaGreat
open Tryz
namespace E1
open Go.RowKit xA
theorem D5(cap:Int):okD cap []=false:=by rw[Bool.eq_false_iff];intro h;have:=(ug.1 h).1.1;simp at this
structure EL (cap:Int) (c o:List UInt8) (q:Nat) (cl:Int) (fin:Bool) (l:List T.az):Prop where
 v:T.aQ cap cl fin l
 hc:c=dA q cl fin l
 hq:q<=1000
 ho:okD cap o=true->dI o<q
 n:o.length<=3000
section
variable {cap:Int} {c o:List UInt8} {q:Nat} {cl:Int} {fin:Bool} {l:List T.az}
theorem EL.read(h:EL cap c o q cl fin l):okD cap c=true/\dI c=q/\(oQ c:Int)=cl/\dH c=fin/\iO c (mi c)=l/\c.length=16+20 * l.length:=by have h1:=XL (q:=q) h.v (by omega) (by have:=h.hq; omega);rw[<-h.hc]at h1;exact⟨h1.1,by have:=h1.2.1; omega,h1.2.2.1,h1.2.2.2.1,h1.2.2.2.2.2.1,h1.2.2.2.2.2.2⟩
theorem EL.len(h:EL cap c o q cl fin l):c.length<=3000:=by have:=h.read.2.2.2.2.2;have:=h.v.2.2.1;omega
theorem EL.first(h:EL cap c o q cl fin l):iq cap c o=true/\fJ cap c o=true/\dD cap c o=c:=by
 have h1:=h.read;have hA:iq cap c o=true:=by
  unfold iq;rw[h1.1,Bool.true_and];cases ho:okD cap o with
  | false=>rfl
  | true=>
    have:=h.ho ho;simp;omega
 refine⟨hA,by unfold fJ; rw[h1.1]; rfl,by unfold dD; rw[zj hA]⟩
theorem EL.second(h:EL cap c o q cl fin l):iq cap o c=false/\fJ cap o c=true/\dD cap o c=c:=by
 have h1:=h.read;have hA:iq cap o c=false:=by
  unfold iq;cases ho:okD cap o with
  | false=>rfl
  | true=>
    have:=h.ho ho;rw[h1.1];simp;omega
 refine⟨hA,by unfold fJ; rw[h1.1]; simp,by unfold dD; rw[zi (by rw[hA]; decide)]⟩
theorem EL.load(h:EL cap c o q cl fin l):jP cap c o=((⟨cl,fin,l,0⟩:eY),(q:Int))/\jP cap o c=((⟨cl,fin,l,0⟩:eY),(q:Int)):=by obtain⟨_,f2,f3⟩:=h.first;obtain⟨_,s2,s3⟩:=h.second;obtain⟨r1,r2,r3,r4,r5,_⟩:=h.read;have hcap:¬ ¬ (1<=cap/\cap<=449849):=not_not_intro ⟨h.v.1,h.v.2.1⟩;unfold jP;rw[zi hcap,zi hcap,f2,s2,f3,s3,r2,r3,r4,r5];exact⟨rfl,rfl⟩
theorem EL.save(h:EL cap c o q cl fin l){cl':Int}{fin':Bool}{l':List T.az}(hv:T.aQ cap cl' fin' l')(hq:q<1000):
 jR cap c o cl' fin' l'=((c,dA (q+1:Nat) cl' fin' l'),0)/\jR cap o c cl' fin' l'=((dA (q+1:Nat) cl' fin' l',c),0)/\EL cap (dA (q+1:Nat) cl' fin' l') c (q+1) cl' fin' l'/\dA (q+1:Nat) cl' fin' l'≠o:=by
 obtain⟨f1,f2,f3⟩:=h.first;obtain⟨s1,s2,s3⟩:=h.second;obtain⟨r1,r2,r3,r4,r5,r6⟩:=h.read;have hB:¬ T.aF cap cl' fin' l'=false:=by rw[T.ay.2 hv]; decide
 have hn1:pJ cap c o=(q+1:Nat):=by unfold pJ; rw[zj f2,f3,r2]; simp
 have hn2:pJ cap o c=(q+1:Nat):=by unfold pJ; rw[zj s2,s3,r2]; simp
 have hC:EL cap (dA (q+1:Nat) cl' fin' l') c (q+1) cl' fin' l':=⟨hv,rfl,by omega,fun _=>by omega,h.len⟩;refine⟨?_,?_,hC,fun e=>?_⟩
 ·unfold jR;rw[zi hB,hn1,zi (by omega),zj f1]
 ·unfold jR;rw[zi hB,hn2,zi (by omega),zi (by rw[s1]; decide)]
 ·have h2:=hC.read;rw[e]at h2;have:=h.ho h2.1;omega
end
theorem KO{cap:Int}(h1:1<=cap)(h2:cap<=449849):jR cap [] [] 0 false []=((dA (0:Nat) 0 false [],[]),0)/\EL cap (dA (0:Nat) 0 false []) [] 0 0 false []:=by
 have hv:=T.Qv h1 h2;have hB:¬ T.aF cap 0 false []=false:=by rw[T.ay.2 hv]; decide
 have hO:fJ cap [] []=false:=by unfold fJ; rw[D5]; rfl
 have hA:iq cap [] []=false:=by unfold iq; rw[D5]; rfl
 have hn:pJ cap [] []=0:=by unfold pJ; rw[zi (by rw[hO]; decide)]
 refine⟨?_,hv,rfl,by omega,fun h=>(by rw[D5]at h; cases h),by simp⟩;unfold jR;rw[zi hB,hn,zi (by omega),zi (by rw[hA]; decide)];rfl
end E1
namespace T7
open Go Go.RowKit C9 oH
structure aak (i:Nat) (s:CQ):Prop where
 st:s.st<=3
 b:s.st=0->s.cnt=0
 r:s.st=1->∃d:List UInt8,d.length=2048/\s.raw=T7.rec (i:Nat) d
 er:∀k,s.er k=false
 ch:∀k,s.ch k=0
structure fF (M:aP):Prop where
 kind:M.kind=1
 iU:M.iU=1
 scr:M.scr = []
 sec:∀i,i<M.n->aak i (M.sec i)
def jU(M M':aP):Prop:=M'.n=M.n/\∀i,i<M.n->(M.sec i).st≠0->M'.sec i=M.sec i
theorem jU.refl(M:aP):jU M M:=⟨rfl,fun _ _ _=>rfl⟩
theorem jU.trans{a b c:aP}(h:jU a b)(g:jU b c):jU a c:=
 ⟨g.1.trans h.1,fun i hi hs=>(g.2 i (by rw[h.1]; exact hi) (by rw[h.2 i hi hs]; exact hs)).trans (h.2 i hi hs)⟩
theorem fF.put{M:aP}(h:fF M){i:Nat}{s:CQ}(hi:i<M.n)(hs:aak i s):fF (M.put i s):=by
 refine⟨h.kind,h.iU,h.scr,fun k hk=>?_⟩;rw[aP.zA]at hk;by_cases e:k=i
 ·subst e; rw[aP.qH _ _ hi]; exact hs
 ·rw[aP.kJ _ _ e]; exact h.sec k hk
theorem jU.put{M:aP}{i:Nat}{s:CQ}(hi:i<M.n)(h0:(M.sec i).st=0):jU M (M.put i s):=by
 refine⟨aP.zA _ _ _,fun k hk hs=>?_⟩;by_cases e:k=i
 ·subst e; exact absurd h0 hs
 ·exact aP.kJ _ _ e
theorem fF.write{M:aP}(h:fF M){i:Nat}(st:Nat)(raw:List UInt8)(hi:i<M.n):
 M.write i st raw=if (M.sec i).st≠0 then(8,M) else(0,M.put i { M.sec i with st:=st,cnt:=(M.sec i).cnt+1,raw:=raw,ch:=fun _=>0 }):=by
 unfold aP.write;rw[zi (by rw[h.kind]; decide)];by_cases h0:(M.sec i).st≠0
 ·rw[zj ⟨h.kind,h0⟩,zj h0]
 ·rw[zi (fun hh=>h0 hh.2),zi h0,zi (by rw[(h.sec i hi).b (Classical.not_not.1 h0),h.iU]; omega)]
theorem fF.Io{M:aP}(h:fF M){i:Nat}{st:Nat}{raw:List UInt8}(hi:i<M.n)(hst:st=1\/st=2)(hr:st=1->∃d:List UInt8,d.length=2048/\raw=T7.rec (i:Nat) d):fF (M.write i st raw).2/\jU M (M.write i st raw).2:=by
 rw[h.write st raw hi];by_cases h0:(M.sec i).st≠0
 ·rw[zj h0]; exact⟨h,jU.refl M⟩
 ·rw[zi h0];exact⟨h.put hi ⟨by dsimp only; omega,fun e=>by dsimp only at e; omega,hr,(h.sec i hi).er,fun _=>rfl⟩,jU.put hi (Classical.not_not.1 h0)⟩
theorem fF.pO{M:aP}(h:fF M)(x:Int×List UInt8)(hx:x.2.length=2048):fF (pO M x).2/\jU M (pO M x).2:=by
 unfold T7.pO aP.record;by_cases h1:0<=x.1/\x.1<M.n
 ·rw[zj h1,zj (Ec _ _)];exact h.Io (by omega) (.inl rfl) fun _=>⟨x.2,hx,by rw[Int.toNat_of_nonneg h1.1]⟩
 ·rw[zi h1]; exact⟨h,jU.refl M⟩
theorem fF.pV{M:aP}(h:fF M)(a:Int):fF (M.pV a).2/\jU M (M.pV a).2:=by
 unfold aP.pV;by_cases h1:0<=a/\a<M.n
 ·rw[zj h1];exact h.Io (by omega) (.inr rfl) fun e=>by omega
 ·rw[zi h1]; exact⟨h,jU.refl M⟩
theorem fF.jm{M:aP}(h:fF M)(l:List (Int×List UInt8))(hx:∀x ∈ l,x.2.length=2048):fF (jm M l).1/\jU M (jm M l).1:=by
 have key:∀(l:List (Int×List UInt8))(q:aP×Int×Bool),(∀x ∈ l,x.2.length=2048)->fF q.1->jU M q.1->fF (l.foldl (JC qX) q).1/\jU M (l.foldl (JC qX) q).1:=by
  intro l
  induction l with
  | nil=>intro q _ h1 h2; exact⟨h1,h2⟩
  | cons x l ih=>
    intro q hx h1 h2;rw[List.foldl_cons];have hr:=h1.pO x (hx x List.mem_cons_self);have e:(JC qX q x).1=(T7.pO q.1 x).2:=by unfold JC qX; split <;> rfl
    exact ih _ (fun y hy=>hx y (List.mem_cons_of_mem _ hy)) (by rw[e]; exact hr.1) (by rw[e]; exact h2.trans hr.2)
 exact key l _ hx h (jU.refl M)
noncomputable def imS(i:Nat)(s:CQ):List UInt8:=if s.st=0 then [] else if s.st=1 then((oG s.raw).drop 16).take 2048 else [33]
theorem XR{aj:Int}{d:List UInt8}(h0:-150<=aj)(h1:aj<=449849)(hd:d.length=2048):((par aj d).drop 16).take 2048=d:=by have:=(zk h0 h1 hd).data;exact this
theorem Ns{aj:Int}{d:List UInt8}(h0:-150<=aj)(h1:aj<=449849)(hd:d.length=2048):((oG (T7.rec aj d)).drop 16).take 2048=d:=by rw[Nv aj hd]; exact XR h0 h1 hd
noncomputable def lW(M:aP)(i:Nat):List UInt8:=imS i (M.sec i)
theorem TJ{M M':aP}(h:jU M M'){i:Nat}(hi:i<M.n)(hn:lW M i≠[]):lW M' i=lW M i:=by
 have h0:(M.sec i).st≠0:=fun e=>hn (by unfold lW imS; rw[zj e])
 unfold lW;rw[h.2 i hi h0]
def iE(M:aP)(st:Int):Nat->Nat
 | 0=>0
 | k+1=>if (M.eu (st+(k:Nat))).1=0 then iE M st k else k+1
theorem yS(M:aP)(st:Int):∀k,iE M st k<=k
 | 0=>zl _
 | k+1=>by unfold iE;have:=yS M st k;split <;> omega
def jQ(M:aP)(t:T.az):Int:=
 if 0<t.pk then min (t.st+t.len) (t.st+((iE M t.st t.len.toNat:Nat)+t.pk - 1).tdiv t.pk * t.pk) else t.st+(iE M t.st t.len.toNat:Nat)
def jL(M:aP)(t:T.az):T.az:=if t.cZ=2 then t else { t with nx:=jQ M t,cZ:=if jQ M t=t.st then 0 else 1 }
theorem UE(M:aP)(t:T.az)(hl:1<=t.len)(hp:0<=t.pk)(hm:0<t.pk->t.len.tmod t.pk=0):
 t.st<=jQ M t/\jQ M t<=t.st+t.len/\(0<t.pk->(jQ M t - t.st).tmod t.pk=0):=by
 have ha:=yS M t.st t.len.toNat;unfold jQ;generalize iE M t.st t.len.toNat=a at *;by_cases h:0<t.pk
 ·rw[zj h];have hq:0<=((a:Int)+t.pk - 1).tdiv t.pk:=Int.tdiv_nonneg (by omega) (by omega);generalize ((a:Int)+t.pk - 1).tdiv t.pk=q at *;have hqp:0<=q * t.pk:=Int.mul_nonneg hq (by omega);have hmq:(q * t.pk).tmod t.pk=0:=Int.mul_tmod_left q t.pk;have hml:=hm h;generalize q * t.pk=z at *;by_cases hz:t.len<=z
  ·rw[Int.min_eq_left (by omega)];refine⟨by omega,by omega,fun _=>?_⟩;rw[show t.st+t.len - t.st=t.len by omega]; exact hml
  ·rw[Int.min_eq_right (by omega)];refine⟨by omega,by omega,fun _=>?_⟩;rw[show t.st+z - t.st=z by omega]; exact hmq
 ·rw[zi h];exact⟨by omega,by omega,fun hh=>absurd hh h⟩
theorem BO(M:aP)(t:T.az):(jL M t).num=t.num/\(jL M t).bP=t.bP/\(jL M t).st=t.st/\(jL M t).len=t.len/\(jL M t).pk=t.pk:=by unfold jL; split <;> exact⟨rfl,rfl,rfl,rfl,rfl⟩
def um(M:aP)(l:List T.az):List T.az:=l.map (jL M)
theorem uo(M:aP)(l:List T.az):(um M l).length=l.length:=by simp[um]
theorem Nr(M:aP)(l:List T.az){i:Nat}(h:i<l.length):T.tr (um M l) i=jL M (T.tr l i):=by simp[um,T.tr,h]
theorem BM(M:aP)(l:List T.az){i:Nat}(h:i<=l.length):T.eB (um M l) i=T.eB l i/\T.sB (um M l) i=T.sB l i:=by
 unfold T.eB T.sB;by_cases h0:i=0
 ·rw[zj h0,zj h0,zj h0,zj h0]; exact⟨rfl,rfl⟩
 ·rw[zi h0,zi h0,zi h0,zi h0,Nr M l (by omega)];obtain⟨_,h2,h3,h4,_⟩:=BO M (T.tr l (i - 1));rw[h2,h3,h4]; exact⟨rfl,rfl⟩
theorem KH{M:aP}{cap cl:Int}{fin:Bool}{l:List T.az}(h:T.aQ cap cl fin l):T.aQ cap cl fin (um M l):=by
 obtain⟨h1,h2,h3,h4,h5,h6,h7,h8⟩:=h;have hs:T.sB (um M l) l.length=T.sB l l.length:=(BM M l (zl _)).2;refine⟨h1,h2,by rw[uo]; exact h3,h4,h5,fun i hi=>?_,by rw[uo,hs]; exact h7,fun hf=>by rw[uo,hs]; exact h8 hf⟩;rw[uo]at hi;have ho:=h6 i hi;obtain⟨he,hsb⟩:=BM M l (i:=i) (by omega);unfold T.okR at ho ⊢;rw[Nr M l hi,he,hsb];obtain⟨s1,s2,s3,s4,s5⟩:=BO M (T.tr l i);rw[s1,s2,s3,s4,s5];obtain⟨o1,o2,o3,o4,o5,o6,o7,o8,o9,JS,QQ,JU,XK,Ue⟩:=ho;have hb:=UE M (T.tr l i) o6 o8 (fun h=>(JU h).1);by_cases hc:(T.tr l i).cZ=2
 ·have e:jL M (T.tr l i)=T.tr l i:=by unfold jL; rw[zj hc]
  rw[e];exact⟨o1,o2,o3,o4,o5,o6,o7,o8,o9,JS,QQ,JU,XK,Ue⟩
 ·have e1:(jL M (T.tr l i)).nx=jQ M (T.tr l i):=by unfold jL; rw[zi hc]
  have e2:(jL M (T.tr l i)).cZ=if jQ M (T.tr l i)=(T.tr l i).st then 0 else 1:=by unfold jL; rw[zi hc]
  rw[e1,e2];refine⟨o1,o2,o3,o4,o5,o6,o7,o8,o9,hb.1,hb.2.1,fun h=>⟨(JU h).1,hb.2.2 h⟩,?_,fun h=>absurd (Ue h) hc⟩;by_cases hn:jQ M (T.tr l i)=(T.tr l i).st
  ·rw[zj hn]; exact .inr (.inl ⟨rfl,hn⟩)
  ·rw[zi hn]; exact .inr (.inr ⟨rfl,hn⟩)
theorem pW{cap:Int}(h1:1<=cap)(h2:cap<=449849):T.aQ cap 0 false []:=⟨h1,h2,by simp,by omega,by omega,fun i hi=>by simp at hi,by simp,fun h=>by cases h⟩
theorem yT{cap:Int}(h1:1<=cap)(h2:cap<=449849)(a b:List UInt8):T.aQ cap (E1.jP cap a b).1.cl (E1.jP cap a b).1.fin (E1.jP cap a b).1.l:=by
 have h0:=pW h1 h2;unfold E1.jP;rw[zi (not_not_intro ⟨h1,h2⟩)];by_cases ho:E1.fJ cap a b=false
 ·rw[zj ho]; exact h0
 ·rw[zi ho];exact(E1.ug.1 (E1.WG (by simpa using ho))).2.1
def CG(w0:World)(X0 R0:Nat->Prop)(p pm:Nat)(df:Option Addr)(E:World->Prop)(EX:Nat->Prop)(N:Nat)(r:Rp)(D:PD)(e:Ending)(w':World):Prop:=
 ∃v vt vc X2 R2,e=.returned v/\RpV w' w0.heap.size (DX p vc EX X2) r v/\fH w' p D pm df vt vc E EX X2 R2/\Ch X0 R0 (DX p vc EX X2) (DR vt R2) w0 w'/\D.M.Ok N
theorem oK.QR{w0:World}{X0 R0:Nat->Prop}{p pm:Nat}{df:Option Addr}{E:World->Prop}{EX:Nat->Prop}{N:Nat}{r:Rp}{D:PD}{e:Ending}{w':World}(h:oK w0 X0 R0 p pm df E EX N r D e w')(h1:r.bl = [])(h2:r.tr = []):CG w0 X0 R0 p pm df E EX N r D e w':=by obtain⟨vt,vc,X2,R2,he,hd,hc,ho⟩:=h;exact⟨_,vt,vc,X2,R2,he,⟨_,_,rfl,by rw[h1]; exact dX.nil w',by rw[h2]; exact aW.nil w',fun k hk=>(by cases hk),fun k hk=>by cases hk⟩,hd,hc,ho⟩
theorem rW(cl:Int)(fin:Bool)(v:Value)(l:List T.az)(w:World)(hr:aW w v l)(hn:l.length<=110):
 Calls prog 56 #[au cl fin v] w (We w.heap.size cl fin l w):=by
 have hb0:=((zB w.heap.size w).alloc (zl _) (.cells #[.int .i64 cl,.bool fin,v] 37)).alloc (by simp) (.cells #[.int .i64 0,.bool false,.slice none 0 0] 37);have hr1:=hr.keep hb0;have hcon:=zN v l _ hr1 hn;have dh:=zH hcon; clear hcon;obtain⟨a,c,rfl,hac⟩:=bK.form hr;go_enter func56,ntmps56;go_wp2_with fail;refine dh.out.mono ?_;rintro e w1 ⟨v',rfl,hown,hb⟩;have hb1:=hb0.trans (hb.mono (by simp; omega));have ht0:w1.cell? ⟨w.heap.size,0,none⟩=some (.int .i64 cl):=(hb.cell (p:=⟨w.heap.size,0,none⟩) (by simp; omega)).trans (by simp[go_sem]);have ht1:w1.cell? ⟨w.heap.size,1,none⟩=some (.bool fin):=(hb.cell (p:=⟨w.heap.size,1,none⟩) (by simp; omega)).trans (by simp[go_sem]);have ht2:w1.cell? ⟨w.heap.size,2,none⟩=some (.slice a l.length c):=(hb.cell (p:=⟨w.heap.size,2,none⟩) (by simp; omega)).trans (by simp[go_sem]);have hs0:w1.cell? ⟨w.heap.size+1,0,none⟩=some (.int .i64 0):=(hb.cell (p:=⟨w.heap.size+1,0,none⟩) (by simp)).trans (by simp[go_sem]);have hs1:w1.cell? ⟨w.heap.size+1,1,none⟩=some (.bool false):=(hb.cell (p:=⟨w.heap.size+1,1,none⟩) (by simp)).trans (by simp[go_sem]);have hs2:w1.cell? ⟨w.heap.size+1,2,none⟩=some (.slice none 0 0):=(hb.cell (p:=⟨w.heap.size+1,2,none⟩) (by simp)).trans (by simp[go_sem]);have hf0:∀k,w1.frozen? ⟨w.heap.size,k,none⟩=false:=fun k=>(hb.frozen (p:=⟨w.heap.size,k,none⟩) (by simp; omega)).trans (by simp[go_sem])
 have hf1:∀k,w1.frozen? ⟨w.heap.size+1,k,none⟩=false:=fun k=>(hb.frozen (p:=⟨w.heap.size+1,k,none⟩) (by simp)).trans (by simp[go_sem])
 obtain⟨a2,c2,rfl,_⟩:=bK.form (aW.bM hown);have hw1:w.heap.size+1<w1.heap.size:=by have:=hb.size; simp at this; omega
 go_wp2_with fail;refine zr (v:=au cl fin (.slice a2 l.length c2)) (by simp[results,results56,go_sem,hs0,hs1,hs2]) rfl ⟨_,rfl,?_,?_⟩
 ·refine jb (base:=w.heap.size+2) ?_ (by omega);have hown2:w1.ownsRow (w.heap.size+2) 94 7 (.slice a2 l.length c2) l.length (fl l):=by simpa using hown
  exact aK (aK (aK (aK hown2 (by simp) _) (by simp) _) (by simp) _) (by simp) _
 ·exact(((hb1.setCell (by simp) _).setCell (by simp) _).setCell (by simp) _).setCell (by simp) _
theorem Jc{w w0:World}{p pm N:Nat}{D:PD}{df:Option Addr}{vt vc:Value}{E:World->Prop}{EX Xm Rm X0 R0:Nat->Prop}(h:fH w p D pm df vt vc E EX Xm Rm)(hc:Ch X0 R0 (DX p vc EX Xm) (DR vt Rm) w0 w)(ho:D.M.Ok N)(hl:D.tr.length<=110)
 (k aj cnt aN pk:Int)(a5:Option Addr)(n5 c5:Nat):
 Calls prog 83 #[.pointer (some ⟨p,0,none⟩),dR k aj cnt aN pk (.slice a5 n5 c5)] w (CG w0 X0 R0 p pm df E EX N ⟨0,0,[],D.cl,D.fin,D.tr⟩ D):=by
 obtain⟨wA,hwA⟩:∃w1,w1=(w.alloc (.cells #[.int .i64 k,.int .i64 aj,.int .i64 cnt,.int .i64 aN,.int .i64 pk,.slice a5 n5 c5] 49)).alloc (.cells aO.toArray 58):=⟨_,rfl⟩;obtain⟨b4,hb4⟩:∃b,b=w.heap.size+1:=⟨_,rfl⟩;have hA1:=(zB w.heap.size w).alloc (zl _) (.cells #[.int .i64 k,.int .i64 aj,.int .i64 cnt,.int .i64 aN,.int .i64 pk,.slice a5 n5 c5] 49);have hA:=hA1.alloc hA1.size (.cells aO.toArray 58);have hbx:=Bx.new (w.alloc (.cells #[.int .i64 k,.int .i64 aj,.int .i64 cnt,.int .i64 aN,.int .i64 pk,.slice a5 n5 c5] 49)) 58 aO;rw[<-hwA]at hA hbx;rw[World.size_alloc,<-hb4]at hbx;have hd1:=h.below hA;have Am:=zH (hc.trans (Ch.of hA));have sQ:=zH hd1;have Iz:=zH hbx;have HB4:Hid (b4<wA.heap.size/\(∀b,DX p vc EX Xm b\/DR vt Rm b->b≠b4)/\w0.heap.size<=b4):=zH ⟨hbx.lt,fun b hb=>by have:=h.lo b hb; omega,by have:=hc.size; omega⟩;have wE:Hid ((w.alloc (.cells #[.int .i64 k,.int .i64 aj,.int .i64 cnt,.int .i64 aN,.int .i64 pk,.slice a5 n5 c5] 49)).alloc (.cells #[.int .i64 0,.int .i64 0,.slice none 0 0,.int .i64 0,.bool false,.slice none 0 0] 58)=wA):=zH hwA.symm;have qh:=zH hb4;have LC:=zH ho;obtain⟨c0,c1,c2,c3,c4,oJ,c6,c7,c8,c9'⟩:=hd1.cells;have HC:=zH (rW D.cl D.fin vt D.tr wA (aW.keep h.tr hA) hl);obtain⟨av,cv,hvt,_⟩:=bK.form hd1.tr;rw[hvt]at c6;have afI:=hd1.box.lt;clear hwA hb4 hA1 hA hbx h hc hd1 ho;unfold au at HC;rw[hvt]at HC;unfold dR;go_enter func83,ntmps83;go_upto_region 1 with (fail)
 rw[wE.out,<-qh.out];go_wp2_with fail;refine HC.out.mono ?_;rintro e w2 ⟨v',rfl,hown,hb2⟩;obtain⟨a2,c2',rfl⟩:=bu hown;have HD2:=zH (sQ.out.below hb2);have HT2:=zH (Am.out.trans (Ch.of (X:=DX p vc EX Xm) (R:=DR vt Rm) hb2));have hx2:=Iz.out.call hb2;have HOW:=zH hown;have QF:Hid (∀k,(Value.slice a2 D.tr.length c2').ownBlock=some k->wA.heap.size<=k):=zH fun k hk=>dP hown k hk
 have HSA:Hid (w0.heap.size<=wA.heap.size):=zH Am.out.size;have VS:Hid (∀b,DX p vc EX Xm b\/DR vt Rm b->b<wA.heap.size):=zH sQ.out.lo;unfold aO at hx2;have t0:=hx2.cell (i:=0) rfl;have t1:=hx2.cell (i:=1) rfl;have t2:=hx2.cell (i:=2) rfl;have t3:=hx2.cell (i:=3) rfl;have t4:=hx2.cell (i:=4) rfl;have t5:=hx2.cell (i:=5) rfl;have tf:=fun i=>hx2.free i
 clear hown hb2 hx2 c0 c1 c2 c3 c4 oJ c6 c7 c8 c9';go_wp2_with fail;refine zr (v:=dL ⟨0,0,[],D.cl,D.fin,D.tr⟩ (.slice none 0 0) (.slice a2 D.tr.length c2')) (by simp[results,results83,go_sem,dL,t0,t1,t2,t3,t4,t5]) rfl ⟨_,vt,vc,Xm,Rm,rfl,⟨_,_,rfl,dX.nil _,?_,fun k hk=>(by cases hk),fun k hk=>⟨zT HSA.out (QF.out k hk),fun hx=>?_⟩⟩,dG HD2.out HB4.out.2.1 _ _ _ _ _ _,fB HT2.out HB4.out.2.2 _ _ _ _ _ _,LC.out⟩
 ·exact iK (aW.bM HOW.out) fun k hk=>kE _ _ k _ _ _ _ _ _ (by have:=QF.out k hk; have:=HB4.out.1; omega)
 ·have:=QF.out k hk; have:=VS.out k (.inl hx); omega
theorem WW{w w0:World}{p pm N:Nat}{D:PD}{vt vc:Value}{E:World->Prop}{EX Xm Rm X0 R0:Nat->Prop}(h:fH w p D pm none vt vc E EX Xm Rm)(hc:Ch X0 R0 (DX p vc EX Xm) (DR vt Rm) w0 w)(ho:D.M.Ok N)
 (k aj cnt aN pk:Int)(a5:Option Addr)(n5 c5:Nat):
 Calls prog 82 #[.pointer (some ⟨p,0,none⟩),dR k aj cnt aN pk (.slice a5 n5 c5)] w (oK w0 X0 R0 p pm none E EX N (Rp.sense 5 0) D):=by
 obtain⟨wA,hwA⟩:∃w1,w1=(w.alloc (.cells #[.int .i64 k,.int .i64 aj,.int .i64 cnt,.int .i64 aN,.int .i64 pk,.slice a5 n5 c5] 49)).alloc (.cells aO.toArray 58):=⟨_,rfl⟩;obtain⟨b4,hb4⟩:∃b,b=w.heap.size+1:=⟨_,rfl⟩;have hA1:=(zB w.heap.size w).alloc (zl _) (.cells #[.int .i64 k,.int .i64 aj,.int .i64 cnt,.int .i64 aN,.int .i64 pk,.slice a5 n5 c5] 49);have hA:=hA1.alloc hA1.size (.cells aO.toArray 58);have hbx:=Bx.new (w.alloc (.cells #[.int .i64 k,.int .i64 aj,.int .i64 cnt,.int .i64 aN,.int .i64 pk,.slice a5 n5 c5] 49)) 58 aO;rw[<-hwA]at hA hbx;rw[World.size_alloc,<-hb4]at hbx;have hd1:=h.below hA;have Am:=zH (hc.trans (Ch.of hA));have sQ:=zH hd1;have Iz:=zH hbx;have HB4:Hid (b4<wA.heap.size/\(∀b,DX p vc EX Xm b\/DR vt Rm b->b≠b4)/\w0.heap.size<=b4):=zH ⟨hbx.lt,fun b hb=>by have:=h.lo b hb; omega,by have:=hc.size; omega⟩;have wE:Hid ((w.alloc (.cells #[.int .i64 k,.int .i64 aj,.int .i64 cnt,.int .i64 aN,.int .i64 pk,.slice a5 n5 c5] 49)).alloc (.cells #[.int .i64 0,.int .i64 0,.slice none 0 0,.int .i64 0,.bool false,.slice none 0 0] 58)=wA):=zH hwA.symm;have qh:=zH hb4;have LC:=zH ho;obtain⟨c0,c1,c2,c3,c4,oJ,c6,c7,c8,c9'⟩:=hd1.cells;have jO:=zH (fU 5 0 wA);unfold dL Rp.sense at jO;clear hwA hb4 hA1 hA hbx h hc hd1 ho c0 c1 c2 c4 oJ c6 c7 c8 c9';unfold dR;go_enter func82,ntmps82;go_upto_region 1 with (fail)
 rw[wE.out,<-qh.out];go_wp2_with fail;refine jO.out.mono ?_;rintro e w7 ⟨rfl,hb7⟩;have HD7:=zH (sQ.out.below hb7);have kF:=zH (Am.out.trans (Ch.of (X:=DX p vc EX Xm) (R:=DR vt Rm) hb7));have hx7:=Iz.out.call hb7;unfold aO at hx7;have t0:=hx7.cell (i:=0) rfl;have t1:=hx7.cell (i:=1) rfl;have t2:=hx7.cell (i:=2) rfl;have t3:=hx7.cell (i:=3) rfl;have t4:=hx7.cell (i:=4) rfl;have t5:=hx7.cell (i:=5) rfl;have tf:=fun i=>hx7.free i
 clear hx7 hb7 c3;go_wp2_with fail;exact zr (v:=dL (Rp.sense 5 0) (.slice none 0 0) (.slice none 0 0)) (by simp[results,results82,go_sem,dL,Rp.sense,t0,t1,t2,t3,t4,t5]) rfl ⟨vt,vc,Xm,Rm,rfl,dG HD7.out HB4.out.2.1 _ _ _ _ _ _,fB kF.out HB4.out.2.2 _ _ _ _ _ _,LC.out⟩
def RU(b3:Nat)(k:Int)(FV:Value)(ok:Bool)(i:Nat)(v:Value)(d:Nat->Value)(W:World):Prop:=match i with
 | 0=>∃b,v=.map (some b)/\MF 3 W b 9 tH
 | 1=>v=.pointer (some ⟨b3,0,none⟩)
 | 2=>v=.int .i64 k
 | 3=>v=.tuple #[FV,.bool ok]
 | 4=>v=.tuple #[FV,.bool ok]
 | 5=>v=FV
 | 6=>v=.bool ok
 | 7=>v=FV
 | 8=>v=.bool ok
 | _=>True
theorem Bf(b3:Nat)(k:Int)(FV:Value)(ok:Bool)(i:Nat)(v:Value)(d:Nat->Value)(W W':World)(hR:(fun W W'=>Below W.heap.size W W') W W')(h:RU b3 k FV ok i v d W):RU b3 k FV ok i v d W':=by
 by_cases h0:i=0
 ·subst h0;obtain⟨b,h1,h2⟩:=h;exact⟨b,h1,h2.below hR⟩
 unfold RU at h ⊢;split at h <;> first | exact h | exact absurd rfl h0
theorem nI{w w0:World}{p pm N:Nat}{D:PD}{df:Option Addr}{vt vc:Value}{E:World->Prop}{EX Xm Rm X0 R0:Nat->Prop}(h:fH w p D pm df vt vc E EX Xm Rm)(hc:Ch X0 R0 (DX p vc EX Xm) (DR vt Rm) w0 w)
 (k aj cnt aN pk:Int)(hk:-9223372036854775808<=k/\k<=9223372036854775807)(a5:Option Addr)(n5 c5:Nat)(fi:Nat)(hfi:∀args W,(callFunc fi args).run prog W=.ok (.enter fi args) W)(hf:tH k=some (.func (.func fi) #[] #[])){D2:PD}{r:Rp}
 (hcall:∀W,Below w.heap.size w W->fH W p D pm df vt vc E EX Xm Rm->Calls prog fi #[.pointer (some ⟨p,0,none⟩),dR k aj cnt aN pk (.slice a5 n5 c5)] W (CG W (DX p vc EX Xm) (DR vt Rm) p pm df E EX N r D2)):
 Calls prog 13 #[.pointer (some ⟨p,0,none⟩),dR k aj cnt aN pk (.slice a5 n5 c5)] w (CG w0 X0 R0 p pm df E EX N r D2):=by
 obtain⟨wA,hwA⟩:∃w1,w1=(w.alloc (.cells #[.int .i64 k,.int .i64 aj,.int .i64 cnt,.int .i64 aN,.int .i64 pk,.slice a5 n5 c5] 49)).alloc (.cells aO.toArray 58):=⟨_,rfl⟩;obtain⟨b3,hb3⟩:∃b,b=w.heap.size:=⟨_,rfl⟩;obtain⟨b4,hb4⟩:∃b,b=w.heap.size+1:=⟨_,rfl⟩;have hA1:=(zB w.heap.size w).alloc (zl _) (.cells #[.int .i64 k,.int .i64 aj,.int .i64 cnt,.int .i64 aN,.int .i64 pk,.slice a5 n5 c5] 49);have hA:=hA1.alloc hA1.size (.cells aO.toArray 58);have bT:Bx ((w.alloc (.cells #[.int .i64 k,.int .i64 aj,.int .i64 cnt,.int .i64 aN,.int .i64 pk,.slice a5 n5 c5] 49)).alloc (.cells aO.toArray 58)) w.heap.size 49 [.int .i64 k,.int .i64 aj,.int .i64 cnt,.int .i64 aN,.int .i64 pk,.slice a5 n5 c5]:=(Bx.new w 49 [.int .i64 k,.int .i64 aj,.int .i64 cnt,.int .i64 aN,.int .i64 pk,.slice a5 n5 c5]).alloc _;have hbx:=Bx.new (w.alloc (.cells #[.int .i64 k,.int .i64 aj,.int .i64 cnt,.int .i64 aN,.int .i64 pk,.slice a5 n5 c5] 49)) 58 aO;rw[<-hwA]at hA hbx bT;rw[World.size_alloc,<-hb4]at hbx;rw[<-hb3]at bT;have HT0:=zH hc;have yc:=zH hA;have qY:=zH (h.below hA);have ny:=zH hbx;have CP:=zH bT;have HB4:Hid (b4<wA.heap.size/\(∀b,DX p vc EX Xm b\/DR vt Rm b->b≠b4)/\w0.heap.size<=b4):=zH ⟨hbx.lt,fun b hb=>by have:=h.lo b hb; omega,by have:=hc.size; omega⟩;have wE:Hid ((w.alloc (.cells #[.int .i64 k,.int .i64 aj,.int .i64 cnt,.int .i64 aN,.int .i64 pk,.slice a5 n5 c5] 49)).alloc (.cells #[.int .i64 0,.int .i64 0,.slice none 0 0,.int .i64 0,.bool false,.slice none 0 0] 58)=wA):=zH hwA.symm;have qh:=zH hb4;have uO:=zH hb3;have HKB:=zH hk;have jD:Hid (∀W,Below wA.heap.size wA W->W.cell? ⟨b3,0,none⟩=some (.int .i64 k)):=zH fun W hW=>(CP.out.call hW).cell (i:=0) rfl
 obtain⟨ZF,Zh⟩:∃z,∀W,(zeroValue 103).run prog W=.ok z W:=⟨Value.nilFunc,fun W=>by kernel_rfl⟩;have YW:=zH Zh;obtain⟨FV,Td⟩:∃v,v=Value.func (.func fi) #[] #[]:=⟨_,rfl⟩;obtain⟨ok,hok⟩:∃b,b=true:=⟨_,rfl⟩;have YS:Hid ((tH k).getD ZF=FV):=zH (by rw[Td,hf]; rfl);have QZ:Hid ((tH k).isSome=ok):=zH (by rw[hok,hf]; rfl);have HFE:=zH Td;have HOE:=zH hok;clear hwA hb3 hb4 hA1 hA bT hbx h hc hk hf Zh Td hok;unfold dR;go_enter func13,ntmps13;go_upto_region 1 with (fail)
 rw[wE.out,<-qh.out,<-uO.out];refine dw (by kernel_rfl) (fun W W'=>Below W.heap.size W W') (fun W=>Below wA.heap.size wA W) (RU b3 k FV ok) (fun _=>false) (by kernel_rfl) (fun W W' hR h=>h.trans (hR.mono h.size)) (Bf b3 k FV ok) ((zB _ _).drew) ⟨?s0,?_,?s2,?s3,?_,?_,?_,?_,?_,trivial⟩ ?_;all_goals first
  | (intro a W hc hsz hold ah
     have o3:a.tmps.getD 3 undef=.pointer (some ⟨b3,0,none⟩):=hold 3 (by kernel_rfl);try have d3:=zV 11 (.tuple #[FV,.bool ok]) (ah 3 rfl rfl _ rfl)
     try have d4:=zV 7 (.tuple #[FV,.bool ok]) (ah 4 rfl rfl _ rfl)
     try have d5:=zV 12 FV (ah 5 rfl rfl _ rfl)
     try have d6:=zV 13 (.bool ok) (ah 6 rfl rfl _ rfl)
     clear hsz hold ah;refine ai rfl (ag rfl) ?_;refine aA (zB _ _) rfl fun K hK=>?_
     go_simp;exact hK)
  | skip
 try case s0=>
  intro a W hc hsz hold ah;clear hsz hold ah;refine ai rfl (ag rfl) ?_;refine gI fun K hK=>?_
  go_simp;refine(uY W).mono ?_;rintro e w' ⟨rfl,hm,hb'⟩;exact hK _ _ hb' ⟨_,rfl,hm⟩
 try case s2=>
  intro a W hc hsz hold ah;have d1:=zV 9 (.pointer (some ⟨b3,0,none⟩)) (ah 1 (by kernel_rfl) rfl _ rfl);have z0:=jD.out W hc;clear hsz hold ah;refine ai rfl (ag rfl) ?_;refine aA (v:=.int .i64 k) (zB _ _) rfl fun K hK=>?_
  go_simp;exact hK
 try case s3=>
  intro a W hc hsz hold ah;have x0:=ah 0 (by kernel_rfl) rfl _ rfl;have d2:=zV 10 (.int .i64 k) (ah 2 (by kernel_rfl) rfl _ rfl);clear hsz hold ah;refine ai rfl (ag rfl) ?_;obtain⟨b,hb,hm⟩:=x0;replace hb:a.tmps.getD 8 undef=.map (some b):=hb;have hlk:=(hm.look underlying3 underlying105 (z:=ZF) (YW.out W) k HKB.out.1 HKB.out.2);rw[YS.out,QZ.out]at hlk;refine aA (v:=.tuple #[FV,.bool ok]) (zB _ _) rfl fun K hK=>?_
  go_simp;exact hK
 ·intro a W hC hd hsz hold hval;have d5:a.tmps.getD 5 undef=FV:=hval 7 _ rfl rfl;have d6:a.tmps.getD 6 undef=.bool ok:=hval 8 _ rfl rfl;obtain⟨G,hG,ha⟩:=cO [5,6,7,8,9,10,11,12,13] (by kernel_rfl) hd hsz hold;simp only[hG]at d5 d6;rw[ha];clear ha hG hd hsz hold;simp only[bI,List.setIfInBounds_toArray,List.set,d5,d6];clear d5 d6;obtain rfl:=HFE.out;obtain rfl:=HOE.out;have hC:Below wA.heap.size wA W:=hC;have sQ:=zH (qY.out.below hC);have Am:=zH (HT0.out.trans (Ch.of (X:=DX p vc EX Xm) (R:=DR vt Rm) (yc.out.trans (hC.mono yc.out.size))));have mO:=CP.out.call hC;have N7:=zH (ny.out.call hC);have VU:Hid (b4<W.heap.size):=zH (by have:=hC.size; have:=HB4.out.1; omega);have QE:=zH (hcall W (yc.out.trans (hC.mono yc.out.size)) sQ.out);have s0:=mO.cell (i:=0) rfl;have s1:=mO.cell (i:=1) rfl;have s2:=mO.cell (i:=2) rfl;have s3:=mO.cell (i:=3) rfl;have s4:=mO.cell (i:=4) rfl;have s5:=mO.cell (i:=5) rfl;unfold dR at QE;clear hval hC mO hcall;go_upto_region 4 with (fail)
  go_wp2_with fail;refine QE.out.mono ?_;rintro e w2 ⟨v,vt2,vc2,X2,R2,rfl,⟨vb,vtt,rfl,hrb,hrt,hb1,hb2⟩,hd2,hc2,ho2⟩;obtain⟨ab,cb,rfl,_⟩:=dX.form hrb;obtain⟨at_,ct,rfl,_⟩:=bK.form hrt;have haw:=jV hc2 VU.out fun k hk=>HB4.out.2.1 k hk
  have hx2:Bx w2 b4 58 aO:=haw.2.trans N7.out;have HD2:=zH hd2;have HT2:=zH (Am.out.trans hc2);have YU:=zH hrb;have HRT:=zH hrt;have H1:=zH hb1;have H2:=zH hb2;have HO2:=zH ho2;have uN:=zH haw.1;unfold aO at hx2;have t0:=hx2.cell (i:=0) rfl;have t1:=hx2.cell (i:=1) rfl;have t2:=hx2.cell (i:=2) rfl;have t3:=hx2.cell (i:=3) rfl;have t4:=hx2.cell (i:=4) rfl;have t5:=hx2.cell (i:=5) rfl;have tf:=fun i=>hx2.free i
  unfold dL;clear hrb hrt hb1 hb2 hd2 hc2 ho2 haw hx2 s0 s1 s2 s3 s4 s5;go_wp2_with fail;refine zr (v:=dL r (.slice ab r.bl.length cb) (.slice at_ r.tr.length ct)) (by simp[results,results13,go_sem,dL,t0,t1,t2,t3,t4,t5]) rfl ⟨_,vt2,vc2,X2,R2,rfl,⟨_,_,rfl,?_,?_,fun k hk=>⟨?_,(H1.out k hk).2⟩,fun k hk=>⟨?_,(H2.out k hk).2⟩⟩,dG HD2.out uN.out _ _ _ _ _ _,fB HT2.out HB4.out.2.2 _ _ _ _ _ _,HO2.out⟩
  ·exact qJ YU.out fun k hk=>kE _ _ k _ _ _ _ _ _ (by have:=(H1.out k hk).1; have:=VU.out; omega)
  ·exact iK HRT.out fun k hk=>kE _ _ k _ _ _ _ _ _ (by have:=(H2.out k hk).1; have:=VU.out; omega)
  ·have:=(H1.out k hk).1; have:=Am.out.size; omega
  ·have:=(H2.out k hk).1; have:=Am.out.size; omega
theorem WN{w w0:World}{p pm N:Nat}{D:PD}{df:Option Addr}{vt vc:Value}{E:World->Prop}{EX Xm Rm X0 R0:Nat->Prop}(h:fH w p D pm df vt vc E EX Xm Rm)(hc:Ch X0 R0 (DX p vc EX Xm) (DR vt Rm) w0 w)
 (k aj cnt aN pk:Int)(hk:-9223372036854775808<=k/\k<=9223372036854775807)(a5:Option Addr)(n5 c5:Nat)(ho:D.M.Ok N)(hf:tH k=none):
 Calls prog 13 #[.pointer (some ⟨p,0,none⟩),dR k aj cnt aN pk (.slice a5 n5 c5)] w (oK w0 X0 R0 p pm df E EX N (Rp.sense 4 0) D):=by
 obtain⟨wA,hwA⟩:∃w1,w1=(w.alloc (.cells #[.int .i64 k,.int .i64 aj,.int .i64 cnt,.int .i64 aN,.int .i64 pk,.slice a5 n5 c5] 49)).alloc (.cells aO.toArray 58):=⟨_,rfl⟩;obtain⟨b3,hb3⟩:∃b,b=w.heap.size:=⟨_,rfl⟩;obtain⟨b4,hb4⟩:∃b,b=w.heap.size+1:=⟨_,rfl⟩;have hA1:=(zB w.heap.size w).alloc (zl _) (.cells #[.int .i64 k,.int .i64 aj,.int .i64 cnt,.int .i64 aN,.int .i64 pk,.slice a5 n5 c5] 49);have hA:=hA1.alloc hA1.size (.cells aO.toArray 58);have bT:Bx ((w.alloc (.cells #[.int .i64 k,.int .i64 aj,.int .i64 cnt,.int .i64 aN,.int .i64 pk,.slice a5 n5 c5] 49)).alloc (.cells aO.toArray 58)) w.heap.size 49 [.int .i64 k,.int .i64 aj,.int .i64 cnt,.int .i64 aN,.int .i64 pk,.slice a5 n5 c5]:=(Bx.new w 49 [.int .i64 k,.int .i64 aj,.int .i64 cnt,.int .i64 aN,.int .i64 pk,.slice a5 n5 c5]).alloc _;have hbx:=Bx.new (w.alloc (.cells #[.int .i64 k,.int .i64 aj,.int .i64 cnt,.int .i64 aN,.int .i64 pk,.slice a5 n5 c5] 49)) 58 aO;rw[<-hwA]at hA hbx bT;rw[World.size_alloc,<-hb4]at hbx;rw[<-hb3]at bT;have HT0:=zH hc;have yc:=zH hA;have qY:=zH (h.below hA);have ny:=zH hbx;have CP:=zH bT;have HB4:Hid (b4<wA.heap.size/\(∀b,DX p vc EX Xm b\/DR vt Rm b->b≠b4)/\w0.heap.size<=b4):=zH ⟨hbx.lt,fun b hb=>by have:=h.lo b hb; omega,by have:=hc.size; omega⟩;have wE:Hid ((w.alloc (.cells #[.int .i64 k,.int .i64 aj,.int .i64 cnt,.int .i64 aN,.int .i64 pk,.slice a5 n5 c5] 49)).alloc (.cells #[.int .i64 0,.int .i64 0,.slice none 0 0,.int .i64 0,.bool false,.slice none 0 0] 58)=wA):=zH hwA.symm;have qh:=zH hb4;have uO:=zH hb3;have HKB:=zH hk;have jD:Hid (∀W,Below wA.heap.size wA W->W.cell? ⟨b3,0,none⟩=some (.int .i64 k)):=zH fun W hW=>(CP.out.call hW).cell (i:=0) rfl
 obtain⟨ZF,Zh⟩:∃z,∀W,(zeroValue 103).run prog W=.ok z W:=⟨Value.nilFunc,fun W=>by kernel_rfl⟩;have YW:=zH Zh;have LC:=zH ho;obtain⟨FV,Td⟩:∃v,v=ZF:=⟨_,rfl⟩;obtain⟨ok,hok⟩:∃b,b=false:=⟨_,rfl⟩;have YS:Hid ((tH k).getD ZF=FV):=zH (by rw[Td,hf]; rfl);have QZ:Hid ((tH k).isSome=ok):=zH (by rw[hok,hf]; rfl);have HFE:=zH Td;have HOE:=zH hok;clear ho hwA hb3 hb4 hA1 hA bT hbx h hc hk hf Zh Td hok;unfold dR;go_enter func13,ntmps13;go_upto_region 1 with (fail)
 rw[wE.out,<-qh.out,<-uO.out];refine dw (by kernel_rfl) (fun W W'=>Below W.heap.size W W') (fun W=>Below wA.heap.size wA W) (RU b3 k FV ok) (fun _=>false) (by kernel_rfl) (fun W W' hR h=>h.trans (hR.mono h.size)) (Bf b3 k FV ok) ((zB _ _).drew) ⟨?s0,?_,?s2,?s3,?_,?_,?_,?_,?_,trivial⟩ ?_;all_goals first
  | (intro a W hc hsz hold ah
     have o3:a.tmps.getD 3 undef=.pointer (some ⟨b3,0,none⟩):=hold 3 (by kernel_rfl);try have d3:=zV 11 (.tuple #[FV,.bool ok]) (ah 3 rfl rfl _ rfl)
     try have d4:=zV 7 (.tuple #[FV,.bool ok]) (ah 4 rfl rfl _ rfl)
     try have d5:=zV 12 FV (ah 5 rfl rfl _ rfl)
     try have d6:=zV 13 (.bool ok) (ah 6 rfl rfl _ rfl)
     clear hsz hold ah;refine ai rfl (ag rfl) ?_;refine aA (zB _ _) rfl fun K hK=>?_
     go_simp;exact hK)
  | skip
 try case s0=>
  intro a W hc hsz hold ah;clear hsz hold ah;refine ai rfl (ag rfl) ?_;refine gI fun K hK=>?_
  go_simp;refine(uY W).mono ?_;rintro e w' ⟨rfl,hm,hb'⟩;exact hK _ _ hb' ⟨_,rfl,hm⟩
 try case s2=>
  intro a W hc hsz hold ah;have d1:=zV 9 (.pointer (some ⟨b3,0,none⟩)) (ah 1 (by kernel_rfl) rfl _ rfl);have z0:=jD.out W hc;clear hsz hold ah;refine ai rfl (ag rfl) ?_;refine aA (v:=.int .i64 k) (zB _ _) rfl fun K hK=>?_
  go_simp;exact hK
 try case s3=>
  intro a W hc hsz hold ah;have x0:=ah 0 (by kernel_rfl) rfl _ rfl;have d2:=zV 10 (.int .i64 k) (ah 2 (by kernel_rfl) rfl _ rfl);clear hsz hold ah;refine ai rfl (ag rfl) ?_;obtain⟨b,hb,hm⟩:=x0;replace hb:a.tmps.getD 8 undef=.map (some b):=hb;have hlk:=(hm.look underlying3 underlying105 (z:=ZF) (YW.out W) k HKB.out.1 HKB.out.2);rw[YS.out,QZ.out]at hlk;refine aA (v:=.tuple #[FV,.bool ok]) (zB _ _) rfl fun K hK=>?_
  go_simp;exact hK
 ·intro a W hC hd hsz hold hval;have d5:a.tmps.getD 5 undef=FV:=hval 7 _ rfl rfl;have d6:a.tmps.getD 6 undef=.bool ok:=hval 8 _ rfl rfl;obtain⟨G,hG,ha⟩:=cO [5,6,7,8,9,10,11,12,13] (by kernel_rfl) hd hsz hold;simp only[hG]at d5 d6;rw[ha];clear ha hG hd hsz hold;simp only[bI,List.setIfInBounds_toArray,List.set,d5,d6];clear d5 d6;obtain rfl:=HOE.out;have hC:Below wA.heap.size wA W:=hC;have sQ:=zH (qY.out.below hC);have Am:=zH (HT0.out.trans (Ch.of (X:=DX p vc EX Xm) (R:=DR vt Rm) (yc.out.trans (hC.mono yc.out.size))));have N7:=zH (ny.out.call hC);have jO:=zH (fU 4 0 W);unfold dL Rp.sense at jO;clear hval hC;go_wp2_with fail;refine jO.out.mono ?_;rintro e w7 ⟨rfl,hb7⟩;have HD7:=zH (sQ.out.below hb7);have kF:=zH (Am.out.trans (Ch.of (X:=DX p vc EX Xm) (R:=DR vt Rm) hb7));have hx7:=N7.out.call hb7;unfold aO at hx7;have t0:=hx7.cell (i:=0) rfl;have t1:=hx7.cell (i:=1) rfl;have t2:=hx7.cell (i:=2) rfl;have t3:=hx7.cell (i:=3) rfl;have t4:=hx7.cell (i:=4) rfl;have t5:=hx7.cell (i:=5) rfl;have tf:=fun i=>hx7.free i
  clear hx7 hb7;go_wp2_with fail;exact zr (v:=dL (Rp.sense 4 0) (.slice none 0 0) (.slice none 0 0)) (by simp[results,results13,go_sem,dL,Rp.sense,t0,t1,t2,t3,t4,t5]) rfl ⟨vt,vc,Xm,Rm,rfl,dG HD7.out HB4.out.2.1 _ _ _ _ _ _,fB kF.out HB4.out.2.2 _ _ _ _ _ _,LC.out⟩
end T7
end Go.Proofs.YtfnehkmhcmkhjaaGreat
