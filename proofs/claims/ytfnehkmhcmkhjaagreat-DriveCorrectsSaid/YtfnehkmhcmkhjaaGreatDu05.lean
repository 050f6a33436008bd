/- Parts -/
import Derived.Test.YtfnehkmhcmkhjaaGreatDu04
import Derived.Lib.ConvBytes
import Derived.Lib.AppendZerosOnto
import Derived.Laws.CopyOwn
import Derived.WalkSpells
import Derived.Test.YtfnehkmhcmkhjaaGreatDu02
import Derived.ProofKit
import Derived.OpenShut
import Derived.ShutString
import Derived.ChangeOld
import Derived.Below
import Derived.Maps.OwnOps
import Derived.Maps.OwnSet
import Derived.Maps.Views
import Derived.Maps.Range
import Derived.Lib.SlKeysI
set_option maxRecDepth 100000
set_option maxHeartbeats 8000000
set_option linter.unusedVariables false
namespace Go.Proofs.YtfnehkmhcmkhjaaGreat
open Tryz
section
open Go.RowKit
theorem Wj(x:Int)(a:UInt8)(w:World)(hx:x=a.toNat)(h0:a≠0):
 Calls prog 323 #[.int .u8 x] w λe w'=>e=.returned (.tuple #[B (G.inv a),.int .i64 0])/\Below w.heap.size w w':=by
 subst hx;refine(Wx a.toNat w (G.lt a)).mono λe w' ⟨h1,h2⟩=>⟨?_,h2⟩
 rw[h1,Wv (G.toNat_ne h0),B,G.vw]
theorem Vr(q:List UInt8)(h:G.ix q 0≠0):oD q=q:=by
 cases q with
 |nil=>rfl
 |cons c q=>simp[oD,G.ix]at h ⊢;simp[h]
theorem Vq(l:List UInt8)(h:oD l≠[]):G.ix (oD l) 0≠0:=by
 induction l with
 |nil=>exact(h rfl).elim
 | cons c l ih=>
   unfold oD at h ⊢;rw[List.dropWhile_cons]at h ⊢;split
   ·rename_i hc
    rw[zj hc]at h;exact ih h
   ·rename_i hc
    simpa[G.ix]using hc
theorem Nq(vp vq:Value)(p q0 q:List UInt8)(w:World)(hp:Rd w vp p)(hq:Rd w vq q0)(h0:oD q0=q)(hne:q≠[])(hps:p.length<=1073741824)(hqs:q.length<=1073741824):
 Calls prog 252 #[vp,vq] w λe w'=>∃v,e=.returned (.tuple #[v,.int .i64 0])/\w'.ownsRow w.heap.size 5 1 v (G.rem p q).length (bs (G.rem p q))/\Below w.heap.size w w':=by
 obtain⟨i0,hi,hz0,hz1,hz2⟩:=info_parts infoU8;have H0:=zH h0;clear h0;have hlq:0<q.length:=YM.2 hne;have hq1:((q.length:Int) == 0)=false:=by rw[Yc];omega
 go_enter func252,ntmps252;go_wp2_with fail;refine(ae5 vq q0 _ hq).mono ?_;rintro e w1 ⟨v,rfl,hv,rfl⟩;rw[H0.out]at hv;clear hq;obtain⟨hql,⟨a,cap,rfl,rfl⟩|⟨bq,oq,cq,rfl,hq0,hqc⟩⟩:=hv.cases
 ·exact(hne rfl).elim
 have HQ:=zH hqc;clear hqc;have hc0:=HQ.out 0 hlq;simp only[YO]at hc0;have hbq:bq<w.heap.size:=zc w _ hc0;have hn0:G.ix q 0≠0:=by rw[<-H0.out];exact Vq q0 (by rw[H0.out];exact hne)
 have Hn0:=zH hn0;clear hn0;have hp0:=hp;obtain⟨ap,cp,rfl⟩:=hp.form;go_wp2_with fail;refine(Wj _ (G.ix q 0) _ rfl Hn0.out).mono ?_;rintro e w1 ⟨rfl,hb1⟩;obtain⟨iv,hiv⟩:∃iv,iv=G.inv (G.ix q 0):=⟨_,rfl⟩;rw[<-hiv];have Hiv:=zH hiv;clear hiv;obtain⟨m,hm⟩:∃m:Nat,m=q.length-1:=⟨_,rfl⟩;have hm1:m+1<=q.length:=by omega
 have hm2:q.length<=m+1:=by omega
 have Hm:Hid ((q.length:Int)-1=m):=zH (by omega);have Hm':=zH hm;clear hm;have Cm:=hb1.size;go_wp2_with (first|(refine fM (base:=w.heap.size) rfl _ _ rfl underlying65 infoU8 m rfl rfl Hm.out Hm.out (by omega) Cm ?_;intro w2 hown2 al0;have hb2:Below w.heap.size w w2:=hb1.grown al0 Cm (by simp);have hp2:=hp0.keep hb2)|(refine pg rfl _ _ rfl underlying65 infoU8 hown2 rfl hp2 rfl (by omega) hb2.size ?_;intro v3 w3 hown3 lG hnil;obtain⟨g,cap,rfl,hg1,hg2,hcap⟩:=FI hown3 (λh=>by have:=hnil.1 h;simp at this);have hb3:Below w.heap.size w w3:=hb2.grown lG hb2.size (by simp[Value.ownBlock];exact Cm);clear lG hnil hown2 al0));rw[<-G.pad]at hown3;obtain⟨n,hn⟩:∃n:Nat,n=m+p.length:=⟨_,rfl⟩;rw[<-hn]at hown3 hcap ⊢;have hn1:n<=m+p.length:=by omega
 have hn2:m+p.length<=n:=by omega
 have hN:Hid ((m:Int)+(p.length:Int)-((q.length:Int)-1)=p.length):=zH (by omega);have hN2:Hid ((n:Int)-((q.length:Int)-1)=p.length):=zH (by omega);clear hn;rw[hN.out]
 go_loopw [37] (λvk wr=>∃k:Nat,k<=p.length/\vk=.int .i64 k/\wr.ownsRow w.heap.size 5 1 (.slice (some ⟨g,0,none⟩) n cap) n (bs (G.eQ q iv k (G.pad m p)))/\Below w.heap.size w wr) (λvk _=>p.length-(RowKit.intOf vk).toNat)
 case atStart=>exact⟨0,by omega,rfl,hown3,hb3⟩
 case round=>
  clear hown3 hb3 hg2;obtain⟨k,hk,rfl,hown,hb⟩:=hrel;obtain⟨wo,rfl⟩:∃wo:World,wo=wr:=⟨_,rfl⟩;have hcl:(G.eQ q iv k (G.pad m p)).length=n:=by rw[G.iK,G.nV];omega
  by_cases hlt:k<p.length
  ·have hcr:wo.cell? ⟨g,k,none⟩=some (B (G.ix (G.eQ q iv k (G.pad m p)) k)):=by rw[hown.cellAt _ (by omega),jh (by omega)]
   have Hcl:=zH hcl;clear hcl;go_wp2_with (go_at_call 324;refine(iZ _ _ (G.ix (G.eQ q iv k (G.pad m p)) k) iv _ rfl rfl).mono ?_;rintro e w' ⟨rfl,rfl⟩);obtain⟨f,hf⟩:∃f,f=G.mul (G.ix (G.eQ q iv k (G.pad m p)) k) iv:=⟨_,rfl⟩;rw[<-hf];have Hf:=zH hf;clear hf hcr
   go_loopw [48] (λvj wr=>∃j:Nat,j<=q.length/\vj=.int .i64 j/\wr.ownsRow w.heap.size 5 1 (.slice (some ⟨g,0,none⟩) n cap) n (bs (G.addRow k f q j (G.eQ q iv k (G.pad m p))))/\Below w.heap.size w wr) (λvj _=>q.length-(RowKit.intOf vj).toNat)
   case atStart=>exact⟨0,by omega,rfl,hown,hb⟩
   case round=>
    clear hown hb;obtain⟨j,hj,rfl,hown,hb⟩:=hrel;obtain⟨r,hr⟩:∃r,r=G.addRow k f q j (G.eQ q iv k (G.pad m p)):=⟨_,rfl⟩;rw[<-hr]at hown;have hrl:r.length=n:=by rw[hr,G.bI,Hcl.out]
    have Hr:=zH hr;clear hr;by_cases hlj:j<q.length
    ·have hcq:wr.cell? ⟨bq,oq+j,none⟩=some (B (G.ix q j)):=by rw[hb.cell hbq];exact HQ.out j hlj
     have hco:wr.cell? ⟨g,k+j,none⟩=some (B (G.ix r (k+j))):=by rw[hown.cellAt _ (by omega),jh (by omega)]
     have hfo:=hown.frozenAt (k+j);have Hrl:=zH hrl;clear hrl;go_wp2_with fail;have e1:IntKind.i64.wrap ((k:Int)+(j:Int))=(k:Int)+(j:Int):=IntWalk.i64_in _ (by omega);have e2:(0:Int)<=(k:Int)+(j:Int):=by omega
     have e3:(k:Int)+(j:Int)<(n:Int):=by omega
     have e4:((k:Int)+(j:Int)).toNat=k+j:=by omega
     go_still_tail 11,(by kernel_rfl)
     still_call (Jn (iZ _ _ f (G.ix q j) _ rfl rfl))
     repeat still_step
     refine wpStill_nil ?_;clear e1 e2 e3 e4;change wpList _ _ _ _ _ wr.drew;go_wp2_with fail;go_roundw;case rel=>
      refine⟨j+1,by omega,by go_num,?_,(hb.drew).setCell hg1 _⟩;have h:=hown.drew.stored (k+j) (B (G.ix r (k+j)^^^G.mul f (G.ix q j)));rw[Ac]at h;rw[GH,G.addRow,<-Hr.out];exact h.1
     case measure=>simp[RowKit.intOf];omega
    ·have Hrl:=zH hrl;clear hrl;go_wp2_with fail;go_roundw;case rel=>
      refine⟨k+1,by omega,by go_num,?_,hb⟩;obtain rfl:j=q.length:=by omega
      rw[G.eQ,<-Hf.out,<-Hr.out];exact hown
     case measure=>simp[RowKit.intOf];omega
  ·obtain rfl:k=p.length:=by omega
   obtain⟨r,hr⟩:∃r,r=G.eQ q iv p.length (G.pad m p):=⟨_,rfl⟩;rw[<-hr]at hown hcl;have hrr:Rd wo (.slice (some ⟨g,0,none⟩) n cap) r:=by rw[<-hcl]at hown ⊢;exact Rd.bg hown (by omega)
   have Hr:=zH hr;clear hr;obtain⟨vc,hvc,_,hcut,_⟩:=Y2 (P:=prog) underlying65 sizeU8 hrr p.length r.length (by omega) (zl _);rw[YD]at hvc;have hc1:=λw'=>hcut rfl ((n:Int)-((q.length:Int)-1)) w' hN2.out
   have hc2:=λw'=>hcut rfl (p.length:Int) w' rfl
   clear hcut hrr;have Hcl:=zH hcl;clear hcl;have hbs:=hb.size;have hoe:(wo.alloc (.cells #[] 5)).ownsRow w.heap.size 5 1 (.slice (some ⟨wo.heap.size,0,none⟩) 0 0) 0 (bs []):=Xc wo #[] 0 hbs (by simp) (by simp);have hve:Rd (wo.alloc (.cells #[] 5)) vc (r.drop p.length):=hvc.keep ((zB _ _).alloc (zl _) _);have hbe:Below w.heap.size w (wo.alloc (.cells #[] 5)):=hb.alloc hbs _;have hl:(r.drop p.length).length<=140737488351232:=hvc.1;clear hvc;go_wp2_with (refine pg rfl _ _ rfl underlying65 infoU8 hoe rfl hve rfl (by omega) hbe.size ?_;intro v4 w4 hown4 EM _);go_ret2;have e:r.drop p.length=G.rem p q:=by rw[Hr.out,Hiv.out,Hm'.out];rfl
   rw[YV,Yf,e]at hown4;exact⟨_,rfl,hown4,hbe.grown EM hbe.size (by simp[Value.ownBlock];exact hbs)⟩
theorem LK(n:Nat)(w:World)(hn:n<=32):
 Calls prog 251 #[.int .i64 n] w λe w'=>∃v,e=.returned (.tuple #[v,.int .i64 0])/\w'.ownsRow w.heap.size 5 1 v (n+1) (bs (G.gen n))/\Below w.heap.size w w':=by
 have hd1:decide ((n:Int)<0)=false:=by rw[Yv];omega
 have hd2:decide ((32:Int)<(n:Int))=false:=by rw[Yv];omega
 go_enter func251,ntmps251;go_wp2_with fail;have h1:(w.alloc (.cells #[B 1] 5)).ownsRow w.heap.size 5 1 (.slice (some ⟨w.heap.size,0,none⟩) 1 1) 1 (bs (G.gen 0)):=Xc w #[B 1] 1 (zl _) (by simp[maxLen]) (by simp);have hb1:Below w.heap.size w (w.alloc (.cells #[B 1] 5)):=(zB _ _).alloc (zl _) _
 go_loopw [4,14] (λvg vk wr=>∃k:Nat,k<=n/\vk=.int .i64 k/\wr.ownsRow w.heap.size 5 1 vg (G.gen k).length (bs (G.gen k))/\Below w.heap.size w wr) (λ_ vk _=>n-(RowKit.intOf vk).toNat)
 case atStart=>exact⟨0,by omega,rfl,h1,hb1⟩
 case round=>
  clear h1 hb1;obtain⟨k,hk,rfl,hown,hb⟩:=hrel;by_cases hlt:k<n
  ·have hbs:=hb.size;go_wp2_with fail;refine(TM _ (k:Int) _ rfl (by omega) (by omega)).mono ?_;rintro e w1 ⟨rfl,rfl⟩;have hE:(Gf.exp (ex (k:Int)):Nat)=(G.exp k).toNat:=by rw[G.kV];congr 1;unfold ex;omega
   rw[hE];clear hE;go_wp2_with fail;have hgl:=G.iM k;have ho2:(wr.alloc (.cells #[B 1,B (G.exp k)] 5)).ownsRow w.heap.size 5 1 (.slice (some ⟨wr.heap.size,0,none⟩) 2 2) [1,G.exp k].length (bs [1,G.exp k]):=Xc wr #[B 1,B (G.exp k)] 2 hbs (by simp[maxLen]) (by simp);have hb2:Below w.heap.size w (wr.alloc (.cells #[B 1,B (G.exp k)] 5)):=hb.alloc hbs _;refine(BJ _ _ (G.gen k) [1,G.exp k] _ ((Rd.bg hown (by omega)).keep ((zB _ _).alloc (zl _) _)) (Rd.bg ho2 (by simp))).mono ?_;rintro e w2 ⟨v,rfl,ho3,hb3⟩;have ho4:=iQ ho3 (hb2.size);have hb4:=hb2.trans (hb3.mono hb2.size);clear ho3 hb3 ho2 hb2 hown hgl;go_wp2_with fail;go_roundw;case rel=>exact⟨k+1,by omega,by go_num,ho4,hb4⟩
   case measure=>simp[RowKit.intOf];omega
  ·obtain rfl:k=n:=by omega
   rw[G.iM]at hown;go_wp2_with fail;go_ret2;exact⟨_,rfl,hown,hb⟩
def Row(w:World)(e g cap:Nat)(l:List UInt8):Prop:=
 ∃(cur:Array Value)(fz:Nat×Nat),w.heap[g]? = some (.cells cur e fz)/\(fz=(0,0)\/cur.size<=fz.1)/\l.length<=cap/\cur.size=cap/\cur.toList.take l.length=bs l
section
variable {w:World} {e g cap:Nat} {l:List UInt8}
theorem Row.lt(h:Row w e g cap l):g<w.heap.size:=by obtain⟨cur,fz,hg,_⟩:=h;exact(Yd.1 hg).1
theorem Row.le(h:Row w e g cap l):l.length<=cap:=by obtain⟨cur,fz,hg,_,hl,_⟩:=h;exact hl
theorem Row.cell(h:Row w e g cap l)(j:Nat)(hj:j<l.length):w.cell? ⟨g,j,none⟩=some (B (G.ix l j)):=by obtain⟨cur,fz,hg,_,hl,hs,ht⟩:=h;rw[Xd w g j cur e fz hg,<-jh hj,<-ht,Xz,zj hj];simp
theorem Row.frozen(h:Row w e g cap l)(j:Nat)(hj:j<cap):w.frozen? ⟨g,j,none⟩=false:=by
 obtain⟨cur,fz,hg,hf,hl,hs,ht⟩:=h;obtain⟨lo,hi⟩:=fz;simp only[World.frozen?,hg,Xy,Yv];rcases hf with hf|hf
 ·simp only[XX]at hf;right;omega
 ·simp only at hf;left;omega
theorem Row.store(h:Row w e g cap l)(j:Nat)(c:UInt8)(hj:j<l.length):Row (w.setCell ⟨g,j,none⟩ (B c)) e g cap (l.set j c):=by
 obtain⟨cur,fz,hg,hf,hl,hs,ht⟩:=h;refine⟨cur.setIfInBounds j (B c),fz,?_,by simpa using hf,by simpa using hl,by simpa using hs,?_⟩
 ·rw[setCell_eq_setRow w g j cur e fz (B c) hg];exact XP w g cur _ e fz hg
 ·rw[Array.toList_setIfInBounds,Yu,List.take_set,ht,Ac]
theorem Row.keep{w':World}(h:Row w e g cap l)(hk:w'.heap[g]? = w.heap[g]?):Row w' e g cap l:=by obtain⟨cur,fz,hg,r⟩:=h;exact⟨cur,fz,hk.trans hg,r⟩
theorem Row.below{w':World}(h:Row w e g cap l)(hb:Below w.heap.size w w'):Row w' e g cap l:=h.keep (hb.block g h.lt)
theorem Row.rd(h:Row w e g cap l)(hl:l.length<=140737488351232):Rd w (.slice (some ⟨g,0,none⟩) l.length cap) l:=
 ⟨hl,_,cap,g,0,rfl,h.le,λi hi=>⟨rfl,by rw[Yf];exact h.cell i hi⟩⟩
theorem Row.ML{base n:Nat}(h:w.ownsRow base e 1 (.slice (some ⟨g,0,none⟩) n cap) n (bs l)):Row w e g cap l/\n=l.length/\base<=g:=by
 have hl:l.length=n:=by have:=h.1;simpa[bf]using this
 rcases h.2 with ⟨h',_⟩|⟨g',cap',cur,h',hb,hg,hn,hm,hs,ht⟩
 ·simp at h'
 ·simp only[YT,YA,Addr.mk.injEq,and_true,true_and]at h';obtain⟨rfl,rfl⟩:=h';exact⟨⟨cur,(0,0),hg,.inl rfl,by omega,by simpa using hs,by rw[hl];simpa using ht⟩,hl.symm,hb⟩
end
theorem ou(P:Program)(g o:Nat)(t:TypeId)(fz:Nat×Nat):∀(vs:List Value)(i:Nat)(cur:Array Value)(w:World),w.heap[g]? = some (.cells cur t fz)->(fz=(0,0)\/cur.size<=fz.1)->o+i+vs.length<=cur.size->(∀v∈vs,v.oneCell'=true)->
 (storeCells ⟨g,o,none⟩ vs i).run P w=.ok () (w.setRow g (cur.toList.take (o+i)++vs++cur.toList.drop (o+i+vs.length)).toArray)
 | [],i,cur,w,hg,_,_,_=>by simp only[storeCells,List.append_nil,YC,YO,List.take_append_drop,Array.toArray_toList];rw[setRow_self w g cur t fz hg];rfl
 | v :: rest,i,cur,w,hg,hfz,hl,h1=>by
   have hi:o+i<cur.size:=by simp at hl;omega
   have hadd:(⟨g,o,none⟩:Addr).add i=⟨g,o+i,none⟩:=by unfold Addr.add;split <;> simp_all
   have hcell:w.cell? ⟨g,o+i,none⟩=some cur[o+i]:=by simp[World.cell?,hg,hi]
   have hfro:w.frozen? ⟨g,o+i,none⟩=false:=by
    obtain⟨lo,hi'⟩:=fz;simp only[World.frozen?,hg,Xy,Yv];rcases hfz with hf|hf
    ·simp only[XX]at hf;right;omega
    ·simp only at hf;left;omega
   have hst:(store ((⟨g,o,none⟩:Addr).add i) v).run P w=.ok () (w.setRow g (cur.setIfInBounds (o+i) v)):=by rw[hadd,run_store P w _ v _ (h1 v (by simp)),hcell];simp[hfro,setCell_eq_setRow w g (o+i) cur t fz v hg]
   have ih:=ou P g o t fz rest (i+1) (cur.setIfInBounds (o+i) v) (w.setRow g (cur.setIfInBounds (o+i) v)) (XP w g cur _ t _ hg) (by simpa using hfz) (by simp at hl ⊢;omega) (λx hx=>h1 x (by simp[hx]));simp only[storeCells,Sem.run_bind,hst,Result.andThen_ok,ih,setRow_setRow]
   congr 3
   have e:=list_seg_step cur.toList (o+i) v rest (by simp at hl ⊢;omega);simpa[Array.toList_setIfInBounds,XD]using e
section
variable {P:Program}
theorem sH(w:World)(e:TypeId)(s:ByteArray):(Lib.bytesCells w e s).size=grownCap w s.size 0 e:=by have:=grownCap_ge w s.size 0 e;have hs:s.data.size=s.size:=rfl;simp[Lib.bytesCells];omega
theorem gZ{w:World}{ops:Array Oper}{rest:List Oper}{o:Oper}{a:Act}{Q:Exit->Act->World->Prop}(hg:o.guard=none)(x:Operand){src dst e:TypeId}(hop:o.op=.convert src dst x)
 (hs:P.underlying src=some .string)(hd:P.underlying dst=some (.slice e))(he:P.underlying e=some (.int .u8)){s:ByteArray}(hx:a.eval x=.string s)
 (hK:∀w' cap,Row w' e w.heap.size cap s.data.toList->Below w.heap.size w w'->s.size<=cap->wpList P ops Q rest (a.put o.dst (.slice (some ⟨w.heap.size,0,none⟩) s.size cap)) w'):wpList P ops Q (o::rest) a w:=by
 refine wpList_plain hg λK hK'=>?_
 have hrun:=Lib.run_convert_string_bytes (P:=P) w src dst e s hs hd he;unfold Oper.wp;simp[execOp,hop,hx,hrun,Result.andThen];refine hK' _ _ (hK _ _ ?_ ?_ (grownCap_ge w s.size 0 e))
 ·refine⟨Lib.bytesCells w e s,_,Lib.bytesWorld_at_new w e s,.inr (zl _),?_,sH w e s,?_⟩
  ·have:=grownCap_ge w s.size 0 e;simpa using this
  ·unfold Lib.bytesCells;rw[Array.toList_append,Xw (by simp),YE (by simp)];simp[bs]
 ·exact⟨rfl,rfl,rfl,by rw[Lib.bytesWorld_size];omega,λk hk=>Lib.bytesWorld_at_old w e s k hk⟩
theorem zK(m:Nat):(Builtin.zeroCells (Value.int .u8 0).cells m).toList=bs (List.replicate m 0):=by
 rw[qQ];have hsz:(Builtin.zeroCells (Value.int .u8 0).cells m).size=m:=by rw[size_zeroCells];simp[Value.cells]
 apply YS;intro j;by_cases hj:j<m
 ·rw[Array.getElem?_toList,XK (by omega)];simp[Builtin.zeroCells,Value.cells,hj,Nat.mod_one]
 ·rw[Array.getElem?_toList,Array.getElem?_eq_none (by omega),Yh (by simp;omega)]
theorem aeE{t tn ty e:TypeId}(ht:P.underlying t=some (.slice e))(htn:P.underlying tn=some (.int .i64))(h2:(P.info? e).map (λi=>(i.zero,i.size,i.bytes))=some (some (.int .u8 0),1,1))
 {w:World}{g cap:Nat}{l:List UInt8}(h:Row w e g cap l)(m:Nat)(hb:l.length+m<=1099511627776):
 ∃g' cap' w',(Builtin.append_ #[t,tn] ty #[.slice (some ⟨g,0,none⟩) l.length cap,.int .i64 (m:Int)]).run P w=.ok (.slice (some ⟨g',0,none⟩) (l.length+m) cap') w'/\
   Row w' e g' cap' (l++List.replicate m 0)/\w.grownBy w' (some g)/\(g'=g\/g'=w.heap.size):=by
 obtain⟨i0,hi,hz0,hz1,hz2⟩:=info_parts h2;by_cases hroom:l.length+m<=cap
 ·obtain⟨cur,fz,hg,hf,hl,hs,ht'⟩:=id h;have hst:=ou P g l.length e fz (bs (List.replicate m 0)) 0 cur w hg hf (by simp[bf];omega) (SH _);obtain⟨C,hC⟩:∃C,C=(cur.toList.take l.length++bs (List.replicate m 0)++cur.toList.drop (l.length+(bs (List.replicate m 0)).length)).toArray:=⟨_,rfl⟩;simp only[YO]at hst;rw[<-hC]at hst;refine⟨g,cap,w.setRow g C,?_,⟨C,fz,XP w g cur C e fz hg,?_,by simpa using hroom,?_,?_⟩,⟨rfl,rfl,rfl,by simp,λk _ hk=>setRow_other w g k C (λe=>hk (by rw[e]))⟩,.inl rfl⟩
  ·have hw:IntKind.i64.wrap (m:Int)=m:=by rw[IntKind.wrap_i64];omega
   have hneg:¬ ((m:Int)<0):=by omega
   have h48i:¬ (281474976710656<(m:Int)):=by omega
   by_cases hm:m=0
   ·subst hm;simp only[List.replicate_zero,bs,Vg]at hst;simp[Builtin.append_,YH ht,YH htn,sizeOf,typeInfo,hi,hz1,hz2,asInt,asIntOf,hl,XF,IntKind.wrap_i64,hst]
   ·simp[Builtin.append_,YH ht,YH htn,sizeOf,typeInfo,zeroValue,hi,hz0,hz1,hz2,asInt,asIntOf,hw,hneg,h48i,hm,hroom,XF,zK,hst]
  ·rcases hf with hf|hf
   ·exact .inl hf
   ·right;rw[hC];simp[bf];omega
  ·rw[hC];simp[bf];omega
  ·rw[uI,hC];simp only[Yb,Yq];rw[ht',Xw (by simp[bf])];rw[YE (by simp[bf])]
 ·have hm:0<m:=by have:=h.le;omega
  have hold:(Builtin.firstCells i0.size l.length (.slice (some ⟨g,0,none⟩) l.length cap)).run P w.drew=.ok (bs l).toArray w.drew:=
   run_firstCells_some (P:=P) w.drew i0.size l.length ⟨g,0,none⟩ l.length cap (bs l) (by rw[bf,hz1,Yy]) (λj u hu=>by
    have hj:j<l.length:=by have:=(Yr.1 hu).1;rwa[bf]at this
    rw[jh hj]at hu;obtain rfl:=zs hu;rw[XF,Yf];exact h.cell j hj)
  have hfit:Builtin.nextslicecap (l.length+m) cap*i0.bytes<=281474976710656:=growslice_fits (by omega) (by rw[hz2];omega);have hr:=Lib.run_append_grow_zeros (P:=P) w t tn ty e i0 _ .i64 .i64 ht htn hi hz0 (some ⟨g,0,none⟩) l.length cap (bs l) hold m hm (by omega) (by omega) (by omega) (by rw[hz2];omega) hfit;refine⟨_,_,_,hr,⟨_,(0,0),Xl w.drew _,.inl rfl,?_,?_,?_⟩,⟨rfl,rfl,rfl,by simp,λk hk _=>Below.heap_alloc w.drew _ k hk⟩,.inr rfl⟩
  ·have:=grownCap_ge w (l.length+m) cap e;simpa using this
  ·have:=grownCap_ge w (l.length+m) cap e;simp only[Array.size_append,Xh,bf,size_zeroCells];simp[Value.cells];omega
  ·rw[Array.toList_append,Array.toList_append,zK,uI];simp only[Yb,Yq];rw[Xw (by simp[bf])];rw[YE (by simp[bf])]
theorem Rx{ops:Array Oper}{rest:List Oper}{o:Oper}{a:Act}{Q:Exit->Act->World->Prop}{w:World}(hg:o.guard=none)(s x:Operand){t tn:TypeId}
 (hop:o.op=.call {callee:=.builtin .append,args:=#[s,x],argTypes:=#[t,tn]}){e:TypeId}
 (ht:P.underlying t=some (.slice e))(htn:P.underlying tn=some (.int .i64))(h2:(P.info? e).map (λi=>(i.zero,i.size,i.bytes))=some (some (.int .u8 0),1,1))
 {g cap n:Nat}{l:List UInt8}(h:Row w e g cap l)(hn:n=l.length)(hv:a.eval s=.slice (some ⟨g,0,none⟩) n cap)(m:Nat)(hx:a.eval x=.int .i64 (m:Int))(hb:l.length+m<=1099511627776)
 (hK:∀g' cap' w',Row w' e g' cap' (l++List.replicate m 0)->w.grownBy w' (some g)->(g'=g\/g'=w.heap.size)->wpList P ops Q rest (a.put o.dst (.slice (some ⟨g',0,none⟩) (n+m) cap')) w'):wpList P ops Q (o::rest) a w:=by
 subst hn;refine wpList_plain hg λK hK'=>?_
 obtain⟨g',cap',w',hrun,r1,r2,r3⟩:=aeE (ty:=o.type) ht htn h2 h m hb;unfold Oper.wp;simp[execOp,hop,resolve,invoke,builtin,hv,hx,hrun,Result.andThen];exact hK' _ _ (hK g' cap' w' r1 r2 r3)
end
theorem F8(l:List UInt8)(n:Int)(w:World)(hl:l.length<=9223372036854775807):
 Calls prog 366 #[.string (str l),.int .i64 n] w λe w'=>e=.returned (.bool (G.cO l n))/\w=w':=by
 have hs:=au l;go_enter func366,ntmps366;go_wp2_with fail;all_goals go_ret
 all_goals refine⟨iT ?_,rfl⟩
 all_goals have hs:=au l
 all_goals first|(symm;rw[YZ];intro h;have:=(G.bU l n).1 h;omega)|(rw[YJ,G.bU,Yj];omega)
theorem adY(x:Int)(c:UInt8)(w:World)(hx:x=c.toNat):
 Calls prog 361 #[.int .u8 x] w λe w'=>e=.returned (.bool (!(c == 0)))/\w=w':=by
 subst hx;have h:=ZE c;go_enter func361,ntmps361;go_wp2_with fail;go_ret;refine⟨iT ?_,rfl⟩;by_cases h0:c=0
 ·subst h0;rfl
 ·simp[h0]
theorem PY(v:Value)(l:List UInt8)(w:World)(hv:Rd w v l):
 Calls prog 394 #[v,.func (.func 361) #[] #[]] w λe w'=>∃k:Int,e=.returned (.int .i64 k)/\(0<=k↔G.mr l=false)/\ -1<=k/\w=w':=by
 obtain⟨h0,a,cap,b,off,rfl,hcap,hcell⟩:=hv;have HC:=zH hcell;clear hcell;go_enter func394,ntmps394;go_wp2_with fail
 go_loop [5,8] (λ_ vk=>∃k:Nat,k<=l.length/\vk=.int .i64 k/\Hid (∀i,i<k->G.ix l i=0)) (λ_ vk=>l.length-(RowKit.intOf vk).toNat)
 case atStart=>exact⟨0,by omega,rfl,zH (λi h=>by omega)⟩
 case round=>
  obtain⟨k,hk,rfl,hz⟩:=hrel;by_cases hlt:k<l.length
  ·obtain⟨ha,hcp⟩:=HC.out k hlt;have hix:=bJ (P:=prog) underlying65 sizeU8 (cap:=cap) ha hlt _ rfl w;have Ha:=zH ha;clear ha;by_cases hc:G.ix l k=0
   ·have hb:(!(G.ix l k == 0))=false:=by rw[hc];rfl
    have Hc:=zH hc;clear hc;have Hb:=zH hb;clear hb;go_wp2_with (go_at_call 361;refine(adY _ (G.ix l k) _ rfl).mono ?_;rintro e w' ⟨rfl,rfl⟩;rw[Hb.out]);go_round;case rel=>
     refine⟨k+1,by omega,by go_num,zH λi hi=>?_⟩;by_cases e:i=k
     ·rw[e];exact Hc.out
     ·exact hz.out i (by omega)
    case measure=>simp[RowKit.intOf];omega
   ·have hb:(!(G.ix l k == 0))=true:=by simp[hc]
    have Hc:=zH hc;clear hc;have Hb:=zH hb;clear hb;go_wp2_with (go_at_call 361;refine(adY _ (G.ix l k) _ rfl).mono ?_;rintro e w' ⟨rfl,rfl⟩;rw[Hb.out]);go_ret;refine⟨_,rfl,⟨λ_=>?_,λ_=>by omega⟩,by omega,rfl⟩;rw[YZ];intro h;apply Hc.out;have:=(Xa.1 h) (l[k]) (List.getElem_mem hlt);simpa[G.ix,hlt]using this
  ·go_wp2_with fail;go_ret;refine⟨_,rfl,⟨λh=>by omega,λh=>?_⟩,by omega,rfl⟩;exfalso;rw[YZ]at h;apply h;unfold G.mr;rw[Xa];intro x hx;obtain⟨i,hi,rfl⟩:=YL hx;have:=hz.out i (by omega);simpa[G.ix,hi]using this
theorem Ec(v:Value)(l:List UInt8)(w:World)(hv:Rd w v l):
 Calls prog 360 #[v,.func (.func 361) #[] #[]] w λe w'=>e=.returned (.bool (!G.mr l))/\w=w':=by
 go_enter func360,ntmps360;go_wp2_with fail;refine(PY v l _ hv).mono ?_;rintro e w' ⟨k,rfl,hk,hk1,rfl⟩;cases hz:G.mr l with
 | true=>
   have hk2:¬ 0<=k:=by intro h;rw[hk.1 h]at hz;cases hz
   have hd:decide (0<=k)=false:=by simpa using hk2
   clear hk;go_wp2_with fail;go_ret;exact⟨iT (by rw[hz];rfl),rfl⟩
 | false=>
   have hk2:0<=k:=hk.2 hz;have hd:decide (0<=k)=true:=by simpa using hk2
   clear hk;go_wp2_with fail;go_ret;exact⟨iT (by rw[hz];rfl),rfl⟩
theorem GZ(v:Value)(l:List UInt8)(w:World)(hv:Rd w v l):
 Calls prog 296 #[v] w λe w'=>e=.returned (.bool (G.mr l))/\w=w':=by
 go_enter func296,ntmps296;go_wp2_with fail;refine(Ec v l _ hv).mono ?_;rintro e w' ⟨rfl,rfl⟩;go_wp2_with fail;go_ret;exact⟨iT (by simp),rfl⟩
theorem SV(ad:Addr)(cap:Nat)(l:List UInt8)(w:World)(hv:Rd w (.slice (some ad) l.length cap) l):
 Calls prog 368 #[.slice (some ad) l.length cap] w λe w'=>∃v,e=.returned v/\w'.ownsRow w.heap.size 5 1 v l.length (bs l)/\Below w.heap.size w w':=by
 have hq:=λwx=>Lib.run_eql_slice_nil (P:=prog) wx 65 5 (some ad) l.length cap 0 0 underlying65
 have hl:=hv.1;have hoe:(w.alloc (.cells #[] 5)).ownsRow w.heap.size 5 1 (.slice (some ⟨w.heap.size,0,none⟩) 0 0) 0 (bs []):=Xc w #[] 0 (zl _) (by simp) (by simp);have hve:Rd (w.alloc (.cells #[] 5)) (.slice (some ad) l.length cap) l:=hv.keep ((zB _ _).alloc (zl _) _);have hbe:Below w.heap.size w (w.alloc (.cells #[] 5)):=(zB _ _).alloc (zl _) _;go_enter func368,ntmps368;go_wp2_with (refine pg rfl _ _ rfl underlying65 infoU8 hoe rfl hve rfl (by omega) hbe.size ?_;intro v4 w4 hown4 EM _);go_ret;rw[YV,Yf]at hown4;exact⟨_,rfl,hown4,hbe.grown EM hbe.size (by simp[Value.ownBlock])⟩
def z16:Array Value:=(bs (List.replicate 16 0)).toArray
theorem ah9:∀w,(zeroValue 416).run prog w=.ok (.agg z16) w:=λ_=>by kernel_rfl
theorem vV(l:List UInt8)(n:Int)(w:World)(hl:l.length<=9223372036854775807)(h:G.cO l n=false):
 Calls prog 303 #[.string (str l),.int .i64 n] w λe w'=>e=.returned (.tuple #[.slice none 0 0,.int .i64 1])/\w=w':=by
 have H:=zH h;clear h;go_enter func303,ntmps303;go_wp2_with fail;refine(F8 l n _ hl).mono ?_;rintro e w' ⟨rfl,rfl⟩;rw[H.out];go_wp2_with fail;go_ret2;exact⟨rfl,rfl⟩
theorem mQ(l:List UInt8)(n:Nat)(w:World)(h:G.cO l n=true):
 Calls prog 303 #[.string (str l),.int .i64 n] w λe w'=>∃v,e=.returned (.tuple #[v,.int .i64 0])/\w'.ownsRow w.heap.size 5 1 v n (bs (G.dP l n))/\Below w.heap.size w w':=by
 obtain⟨h1,h2,h3,h4,h5⟩:=(G.bU l n).1 h;have H:=zH h;clear h;have hz:=ah9;go_enter func303,ntmps303;go_wp2_with fail;refine(F8 l n _ (by omega)).mono ?_;rintro e w' ⟨rfl,rfl⟩;rw[H.out];go_wp2_with fail;have r0:Row (w.alloc (.cells z16 416)) 416 w.heap.size 16 (List.replicate 16 0):=⟨z16,(0,0),Xl w _,.inl rfl,by simp,by simp[z16,bf],by rw[z16,YE (by simp[bf])]⟩;have hb0:Below w.heap.size w (w.alloc (.cells z16 416)):=(zB _ _).alloc (zl _) _;clear hz;generalize w.alloc (.cells z16 416)=w1 at r0 hb0 ⊢
 go_loopw [7,14] (λvx vk wr=>∃(k:Nat)(S:List UInt8),k<=n/\vk=.int .i64 k/\vx=B (G.exp k)/\Row wr 416 w.heap.size 16 S/\Hid (S.length=16)/\Hid (∀i,i<k->G.ix S i=G.eval l (G.exp i))/\Below w.heap.size w wr) (λ_ vk _=>n-(RowKit.intOf vk).toNat)
 case atStart=>exact⟨0,List.replicate 16 0,by omega,rfl,by rw[G.qi];rfl,r0,zH (by simp),zH (λi hi=>by omega),hb0⟩
 case round=>
  clear r0 hb0;obtain⟨k,S,hk,rfl,rfl,hr,HS,HI,hb⟩:=hrel;by_cases hlt:k<n
  ·have al3:k<16:=by omega
   go_wp2_with (refine gZ rfl _ rfl underlying9 underlying65 underlying5 rfl ?_;intro w2 cap hr2 hb2 hcap);have hr2':Row w2 5 wr.heap.size cap l:=hr2;have hrd:Rd w2 (.slice (some ⟨wr.heap.size,0,none⟩) (str l).size cap) l:=by rw[au];exact hr2'.rd (by omega)
   have hb':=hb.trans (hb2.mono hb.size);have hr':=hr.below hb2;clear hr2 hr2';refine(eval_any _ l (G.exp k) _ hrd).mono ?_;rintro e w3 ⟨rfl,hb3⟩;have hb':=hb'.trans (hb3.mono hb'.size);have hr':=hr'.below hb3;have hS:=HS.out;have hcs:=hr'.cell k (by omega);have hfs:=hr'.frozen k al3;have Hst:Hid (Row (w3.setCell ⟨w.heap.size,k,none⟩ (B (G.eval l (G.exp k)))) 416 w.heap.size 16 (S.set k (G.eval l (G.exp k)))):=zH (hr'.store k _ (by omega));clear hS;have HE:Hid (G.mul (G.exp k) 2=G.exp (k+1)):=zH (by rw[G.gX,G.Lu]);go_wp2_with (go_at_call 324;refine(iZ _ _ (G.exp k) 2 _ rfl rfl).mono ?_;rintro e w' ⟨rfl,rfl⟩);go_roundw;case rel=>
    refine⟨k+1,S.set k (G.eval l (G.exp k)),by omega,by go_num,by rw[HE.out],Hst.out,zH (by rw[Yu,HS.out]),zH λi hi=>?_,hb'.setCell (zl _) _⟩;have hS:=HS.out;by_cases e:i=k
    ·subst e;simp[G.ix,(by omega:i<S.length)]
    ·have:=HI.out i (by omega);unfold G.ix at this ⊢;rw[Ya,XO (by omega),<-Ya];exact this
   case measure=>simp[RowKit.intOf];omega
  ·obtain rfl:k=n:=by omega
   have hS:=HS.out;have hT:(S.take k).length=k:=by rw[Yk];omega
   have hrd:Rd wr (.slice (some ⟨w.heap.size,0,none⟩) (S.take k).length 16) (S.take k):=by refine⟨by omega,_,16,w.heap.size,0,rfl,by omega,λi hi=>⟨rfl,?_⟩⟩;rw[uS (by omega),Yf];exact hr.cell i (by omega)
   have al3:k<=16:=by omega
   have HT:Hid (S.take k=G.dP l k):=zH (by
    apply G.jR
    ·rw[hT,G.dC]
    ·intro i hi;rw[hT]at hi;rw[uS hi,HI.out i hi,G.Dn l k i hi])
   have HT2:=zH hT;clear hT hS;go_wp2_with fail;rw[HT.out,G.dC]at hrd;have aoy:Rd wr (.slice (some ⟨w.heap.size,0,none⟩) (G.dP l k).length 16) (G.dP l k):=by rw[G.dC];exact hrd
   have hc:=SV ⟨w.heap.size,0,none⟩ 16 (G.dP l k) wr aoy;rw[G.dC]at hc;refine hc.mono ?_;rintro e w5 ⟨v,rfl,ho,hb5⟩;go_wp2_with fail;go_ret2;exact⟨_,rfl,iQ ho hb.size,hb.trans (hb5.mono hb.size)⟩
theorem J7(l:List UInt8)(n:Int)(w:World)(hl:l.length<=9223372036854775807):
 Calls prog 233 #[.string (str l),.int .i64 n] w λe w'=>e=.returned (.bool (G.az l n))/\Below w.heap.size w w':=by
 cases h:G.cO l n with
 | false=>
   have hv:G.az l n=false:=by simp[G.az,h]
   have HV:=zH hv;clear hv;have H:=zH h;clear h;go_enter func233,ntmps233;go_wp2_with fail;refine(vV l n _ hl H.out).mono ?_;rintro e w' ⟨rfl,rfl⟩;go_wp2_with fail;go_ret;exact⟨iT HV.out.symm,zB _ _⟩
 | true=>
   obtain⟨h1,h2,h3,h4,h5⟩:=(G.bU l n).1 h;obtain⟨m,rfl⟩:∃m:Nat,n=m:=⟨n.toNat,by omega⟩;have HV:Hid (G.az l m=G.mr (G.dP l m)):=zH (by simp[G.az,h]);have H:=zH h;clear h;go_enter func233,ntmps233;go_wp2_with fail;refine(mQ l m _ H.out).mono ?_;rintro e w1 ⟨v,rfl,ho,hb⟩;have hrd:=Rd.nU ho (by omega);go_wp2_with fail;refine(GZ v _ _ hrd).mono ?_;rintro e w2 ⟨rfl,rfl⟩;go_wp2_with fail;go_ret;exact⟨iT (by rw[HV.out]),hb⟩
theorem ajy(n:Nat):G.gen n≠[]:=by have:=G.iM n;intro e;rw[e]at this;simp at this
theorem ae6(n:Nat):oD (G.gen n)=G.gen n:=Vr _ (by rw[G.PI];decide)
theorem TF(l:List UInt8)(n:Int)(w:World)(hl:l.length<=9223372036854775000)(h1:-9223372036854775808<=n)(h2:n<=9223372036854775807)(h:G.En l n=false):
 Calls prog 169 #[.string (str l),.int .i64 n] w λe w'=>e=.returned (.tuple #[.string (str []),.int .i64 1])/\w=w':=by
 have hs:=au l;have hx:=rU l;have Hx:=zH hx;clear hx;have hcase:n<1\/(1<=n/\16<n)\/(1<=n/\n<=16/\l = [])\/(1<=n/\n<=16/\l≠[]/\255<(l.length:Int)+n):=by
  by_cases e1:n<1
  ·exact .inl e1
  by_cases e2:16<n
  ·exact .inr (.inl ⟨by omega,e2⟩)
  by_cases e:l = []
  ·exact .inr (.inr (.inl ⟨by omega,by omega,e⟩))
  ·refine .inr (.inr (.inr ⟨by omega,by omega,e,?_⟩));have e1':(1:Int)<=n:=by omega
   have e2':n<=16:=by omega
   simp[G.En,e,e1',e2']at h;omega
 clear h;rcases hcase with h|⟨g1,h⟩|⟨g1,g2,h⟩|⟨g1,g2,g3,h⟩
 ·go_enter func169,ntmps169;go_wp2_with fail;go_ret2;exact⟨rfl,rfl⟩
 ·go_enter func169,ntmps169;go_wp2_with fail;go_ret2;exact⟨rfl,rfl⟩
 ·have he:(str l).toList = []:=by rw[Hx.out,h]
  have H:=zH h;clear h;go_enter func169,ntmps169;go_wp2_with fail;go_ret2;exact⟨rfl,rfl⟩
 ·have he:(str l).toList.isEmpty=false:=by rw[Hx.out];simpa using g3
  have H:=zH g3;clear g3;go_enter func169,ntmps169;go_wp2_with fail;go_ret2;exact⟨rfl,rfl⟩
theorem Vm(l m:List UInt8):str l++str m=str (l++m):=by apply ByteArray.ext;simp[str]
theorem Jh(l:List UInt8)(n:Nat)(w:World)(hl:l≠[])(h1:1<=n)(h2:n<=16)(h3:l.length+n<=255):
 Calls prog 169 #[.string (str l),.int .i64 n] w λe w'=>e=.returned (.tuple #[.string (str (G.enc l n)),.int .i64 0])/\Below w.heap.size w w':=by
 have hs:=au l;have he:(str l).toList.isEmpty=false:=by rw[rU];simpa using hl
 have h3':(l.length:Int)+n<=255:=by omega
 have hd1:decide ((n:Int)<1)=false:=by simp;omega
 have hd2:decide (16<(n:Int))=false:=by simp;omega
 have hd3:decide (255<(l.length:Int)+n)=false:=by simp;omega
 have H:=zH hl;clear hl;go_enter func169,ntmps169;go_wp2_with fail;refine(LK n _ (by omega)).mono ?_;rintro e w1 ⟨vg,rfl,hg,hb1⟩;have hrg:=Rd.nU hg (by omega);clear hg;have Cm:=hb1.size;have hsz:(str l).data.toList.length=l.length:=rfl;go_wp2_with (first|(refine gZ rfl _ rfl underlying9 underlying65 underlying5 rfl ?_;intro w2 cap hr2 hb2 hcap;have hr2':Row w2 5 w1.heap.size cap l:=hr2;have hB2:=hb1.trans (hb2.mono Cm);have aod:=hB2.size;clear hr2)|(refine Rx rfl _ _ rfl underlying65 underlying3 infoU8 hr2' rfl rfl n rfl (by omega) ?_;intro g3 cap3 w3 hr3 lG hg3;have hB3:Below w.heap.size w w3:=hB2.grown lG aod (λk hk=>by obtain rfl:=zs hk;exact Cm);have hrg3:Rd w3 vg (G.gen n):=hrg.keepW (λk hk=>(lG.block k (zL hk hb2.size) (by intro e;have:=zs e;omega)).trans (hb2.block k hk))));have aai:=hr3.rd (by rw[Yb,Yq];omega);rw[Yb,Yq]at aai;have aob:=hB3.size;clear hr3 lG hg3 hB2 hr2' hb2 hrg hb1;have hlen:=G.iM n;refine(Nq _ vg _ (G.gen n) (G.gen n) _ aai hrg3 (ae6 n) (ajy n) (by rw[Yb,Yq];omega) (by omega)).mono ?_;rintro e w4 ⟨v4,rfl,hown4,hb4⟩;clear aai hrg3;have hrl:(G.rem (l++List.replicate n 0) (G.gen n)).length=n:=by rw[G.xe,hlen];omega
 have hx4:Rd w4 v4 (G.rem (l++List.replicate n 0) (G.gen n)):=Rd.nU hown4 (by omega);have hcx:=eX (P:=prog) underlying65 underlying5 underlying9 hx4;have hB4:=hB3.trans (hb4.mono aob);have hss:(str (G.rem (l++List.replicate n 0) (G.gen n))).size=n:=by rw[au];exact hrl
 clear hrl hown4 hb4;go_wp2_with fail;go_ret2;refine⟨?_,hB4⟩;rw[Vm];rfl
end
section
open Go.ChangeShapes Go.WideShapes Go.ChangeAt Go.RowKit
section
variable {H:Type} {enc:TypeId×Value->H} {P:Program} {w:World} {base b0:Nat} {held:Bool}
end
theorem ali{a:Int}(h:(Lit.int .u8 a).wf=true):0<=a/\a<=255:=by simpa[Lit.wf,IntKind.min,IntKind.max,IntKind.signed,IntKind.bits]using h
theorem aka{a:Int}(h:(Lit.int .u8 a).wf=true):∃n:Nat,a=n/\n<256:=by have:=ali h;exact⟨a.toNat,by omega,by omega⟩
end
namespace Mp
open Go.RowKit Go.Maps Go.MapKept
section
variable {H:Type} {R:Value->Option (DataW H×List MemPlace)} {w:World} {b n:Nat} {D:DataW H}
theorem adG:Keyed prog 3:=int_keyed underlying3
theorem FN(hown:w.ownsMap prog 3 R b n D){K:List Int}(hK:K.Nodup)(hm:∀x,x∈K↔Maps.has D (.int .i64 x)=true):K.Perm (intKeys D):=by
 obtain⟨es,hD,hpw,_⟩:=hown.entries adG;obtain⟨es',hD',hko⟩:=hown.keysOf;obtain rfl:es=es':=by rw[hD]at hD';simpa using hD'
 subst hD;exact perm_intKeys hpw (λp hp=>by obtain⟨v,hv⟩:=hko p hp;obtain⟨x,_,hx,_⟩:=Maps.keyOf_i64 underlying3 hv;exact⟨x,hx⟩) hK hm
def keysB(D:DataW H)(N:Nat):List Int:=((List.range N).filter λk=>Maps.has D (.int .i64 (k:Nat))).map Int.ofNat
theorem Ak{N:Nat}(hk:∀x:Int,Maps.has D (.int .i64 x)=true->0<=x/\x<N)(x:Int):x∈keysB D N↔Maps.has D (.int .i64 x)=true:=by
 unfold keysB;simp only[YW,YI,Yx];constructor
 ·rintro⟨k,⟨_,h⟩,rfl⟩;exact h
 ·intro h;obtain⟨h1,h2⟩:=hk x h;obtain⟨y,rfl⟩:∃y:Nat,x=y:=⟨x.toNat,by omega⟩;exact⟨y,⟨by omega,h⟩,rfl⟩
theorem yC(D:DataW H)(N:Nat):(keysB D N).Pairwise (· < ·):=by unfold keysB;rw[XH];exact(XN _ List.pairwise_lt_range).imp λh=>by simpa using h
theorem MH(D:DataW H)(N:Nat):(keysB D N).length<=N:=by unfold keysB;rw[YQ];exact zT (YN _ _) (by simp)
theorem tight{N:Nat}(hown:w.ownsMap prog 3 R b n D)(hk:∀x:Int,Maps.has D (.int .i64 x)=true->0<=x/\x<N):w.ownsMap prog 3 R b N D:=by
 have hnd:(keysB D N).Nodup:=(yC D N).imp λh e=>by omega
 have hp:=FN hown hnd (Ak hk);have hl:=hp.length_eq;have hb:=MH D N;obtain⟨es0,hD,_,_⟩:=hown.entries adG;subst hD;have e:(intKeys (DataW.map es0)).length=Maps.size (DataW.map es0):=by simp[intKeys,Maps.size]
 obtain⟨es,clock,hb0,F,hs,hD⟩:=hown;refine⟨es,clock,hb0,F,?_,hD⟩;have e2:Maps.size (DataW.map es0)=es.size:=by rw[hD];simp[Maps.size,length_sorted]
 omega
end
def CO(v:Value):Option (DataW Value×List MemPlace):=some (.held v,[])
end Mp
namespace T7
open Go Go.RowKit Go.Maps Go.MapKept
def MF(k:TypeId)(w:World)(b n:Nat)(f:Int->Option Value):Prop:=
 ∃D:DataW Value,w.ownsMap prog k Mp.CO b n D/\(∀x:Int,Maps.has D (.int .i64 x)=(f x).isSome)/\∀x v,f x=some v->∀z,D.atKey (.int .i64 x) z=.held v
def qG(f:Int->Option Value)(x:Int)(v:Value):Int->Option Value:=λy=>if y=x then some v else f y
theorem akv{x:Int}(h1:-9223372036854775808<=x)(h2:x<=9223372036854775807):(Lit.int .i64 x).wf=true:=by simp[Lit.wf,IntKind.min,IntKind.max,IntKind.signed,IntKind.bits];omega
section
variable {k:TypeId} {w w':World} {b n:Nat} {f:Int->Option Value}
theorem MF.made(k:TypeId)(w:World):MF k (w.alloc (.map #[] 0)) w.heap.size 0 (λ_=>none):=
 ⟨.map [],World.ownsMap_made _ _ _ _,λx=>rfl,λx v h=>by cases h⟩
theorem MF.lt(h:MF k w b n f):b<w.heap.size:=by obtain⟨D,⟨es,clock,hb,_⟩,_⟩:=h;exact(Yd.1 hb).1
theorem MF.kept(h:MF k w b n f)(hk:w'.heap[b]? = w.heap[b]?):MF k w' b n f:=by obtain⟨D,⟨es,clock,hb,r⟩,r2⟩:=h;exact⟨D,⟨es,clock,hk.trans hb,r⟩,r2⟩
theorem MF.below(h:MF k w b n f)(hb:Below w.heap.size w w'):MF k w' b n f:=h.kept (hb.block b h.lt)
theorem MF.ins(hk:prog.underlying k=some (.int .i64)){t e:TypeId}(ht:prog.underlying t=some (.map k e))(h:MF k w b n f)(hn:n<1000)(x:Int)(h1:-9223372036854775808<=x)(h2:x<=9223372036854775807)(v:Value):
 ∃w',(Instr.mapUpdate t (.map (some b)) (.int .i64 x) v).run prog w=.ok () w'/\MF k w' b (n+1) (qG f x v)/\w.grownBy w' (some b):=by
 obtain⟨D,hown,hf,hv⟩:=h;obtain⟨w',hrun,ho,ht'⟩:=hown.store (int_keyed hk) ht (by unfold maxLen;omega) (keyOf_int_mk hk (akv h1 h2)) (show Mp.CO v=some (.held v,[]) from rfl);refine⟨w',hrun,⟨_,ho,λy=>?_,λy u hu z=>?_⟩,ht'.grown⟩
 ·unfold qG;by_cases e:y=x
  ·subst e;rw[zj rfl,has_put_same hown.isMap (show WideAt.IsKeyLit (.int .i64 y) from trivial)];rfl
  ·rw[zi e,has_put_other (by simpa using e),hf y]
 ·unfold qG at hu;by_cases e:y=x
  ·subst e;rw[zj rfl]at hu;rw[atKey_put_same hown.isMap (show WideAt.IsKeyLit (.int .i64 y) from trivial),zs hu]
  ·rw[zi e]at hu;rw[atKey_put_other (by simpa using e),hv y u hu z]
theorem MF.look(hk:prog.underlying k=some (.int .i64)){t e:TypeId}(ht:prog.underlying t=some (.map k e))(h:MF k w b n f){z:Value}(hz:(zeroValue e).run prog w=.ok z w)(x:Int)(h1:-9223372036854775808<=x)(h2:x<=9223372036854775807):
 (Instr.lookup t (.map (some b)) (.int .i64 x) true).run prog w=.ok (.tuple #[(f x).getD z,.bool (f x).isSome]) w:=by
 obtain⟨D,hown,hf,hv⟩:=h;obtain⟨v,ps,hrun,hat⟩:=hown.look_ok (int_keyed hk) ht hz (show Mp.CO z=some (.held z,[]) from rfl) (keyOf_int_mk hk (akv h1 h2));rw[hrun,hf x];have hat:some ((.held v:DataW Value),([]:List MemPlace))=some (D.atKey (.int .i64 x) (.held z),ps):=hat;simp only[YA,XX]at hat;cases hx:f x with
 | some u=>
   have h3:=hv x u hx (.held z);rw[h3]at hat;have:v=u:=by simpa using hat.1
   rw[this];rfl
 | none=>
   have h3:Maps.has D (.int .i64 x)=false:=by rw[hf x,hx];rfl
   rw[atKey_of_not_has h3]at hat;have:v=z:=by simpa using hat.1
   rw[this];rfl
theorem MF.look1(hk:prog.underlying k=some (.int .i64)){t e:TypeId}(ht:prog.underlying t=some (.map k e))(h:MF k w b n f){z:Value}(hz:(zeroValue e).run prog w=.ok z w)(x:Int)(h1:-9223372036854775808<=x)(h2:x<=9223372036854775807){v:Value}(hv:f x=some v):
 (Instr.lookup t (.map (some b)) (.int .i64 x) false).run prog w=.ok v w:=by
 obtain⟨D,hown,hf,hvv⟩:=h;obtain⟨u,ps,hrun,hat⟩:=hown.lookup (int_keyed hk) ht hz (show Mp.CO z=some (.held z,[]) from rfl) (keyOf_int_mk hk (akv h1 h2));have hat:some ((.held u:DataW Value),([]:List MemPlace))=some (D.atKey (.int .i64 x) (.held z),ps):=hat;simp only[YA,XX]at hat;rw[hvv x v hv (.held z)]at hat;have:u=v:=by simpa using hat.1
 rw[hrun,this]
end
def KY:Int->Option Value:=qG (qG (qG (qG (qG (qG (qG (qG (qG (λ_=>none) 0 (.func (.func 76) #[] #[])) 1 (.func (.func 77) #[] #[])) 2 (.func (.func 78) #[] #[])) 3 (.func (.func 79) #[] #[])) 4 (.func (.func 80) #[] #[])) 5 (.func (.func 81) #[] #[])) 6 (.func (.func 82) #[] #[])) 7 (.func (.func 83) #[] #[])) 8 (.func (.func 84) #[] #[])
theorem Jb(w:World):Calls prog 32 #[] w λe w'=>e=.returned (.map (some w.heap.size))/\MF 3 w' w.heap.size 9 KY/\Below w.heap.size w w':=by have hmm:=@run_makeMap prog;have m0:=MF.made 3 w;have hb0:=(zB w.heap.size w).alloc (zl _) (.map #[] 0);obtain⟨w1,r1,m1,g1⟩:=m0.ins underlying3 underlying105 (by omega) 0 (by omega) (by omega) (.func (.func 76) #[] #[]);have hb1:=hb0.grown g1 hb0.size (λq hq=>YF (zs hq));clear hb0 g1 m0;obtain⟨w2,r2,m2,g2⟩:=m1.ins underlying3 underlying105 (by omega) 1 (by omega) (by omega) (.func (.func 77) #[] #[]);have hb2:=hb1.grown g2 hb1.size (λq hq=>YF (zs hq));clear hb1 g2 m1;obtain⟨w3,r3,m3,g3⟩:=m2.ins underlying3 underlying105 (by omega) 2 (by omega) (by omega) (.func (.func 78) #[] #[]);have hb3:=hb2.grown g3 hb2.size (λq hq=>YF (zs hq));clear hb2 g3 m2;obtain⟨w4,r4,m4,g4⟩:=m3.ins underlying3 underlying105 (by omega) 3 (by omega) (by omega) (.func (.func 79) #[] #[]);have hb4:=hb3.grown g4 hb3.size (λq hq=>YF (zs hq));clear hb3 g4 m3;obtain⟨w5,r5,m5,g5⟩:=m4.ins underlying3 underlying105 (by omega) 4 (by omega) (by omega) (.func (.func 80) #[] #[]);have hb5:=hb4.grown g5 hb4.size (λq hq=>YF (zs hq));clear hb4 g5 m4;obtain⟨w6,r6,m6,g6⟩:=m5.ins underlying3 underlying105 (by omega) 5 (by omega) (by omega) (.func (.func 81) #[] #[]);have hb6:=hb5.grown g6 hb5.size (λq hq=>YF (zs hq));clear hb5 g6 m5;obtain⟨w7,r7,m7,g7⟩:=m6.ins underlying3 underlying105 (by omega) 6 (by omega) (by omega) (.func (.func 82) #[] #[]);have hb7:=hb6.grown g7 hb6.size (λq hq=>YF (zs hq));clear hb6 g7 m6;obtain⟨w8,r8,m8,g8⟩:=m7.ins underlying3 underlying105 (by omega) 7 (by omega) (by omega) (.func (.func 83) #[] #[]);have hb8:=hb7.grown g8 hb7.size (λq hq=>YF (zs hq));clear hb7 g8 m7;obtain⟨w9,r9,m9,g9⟩:=m8.ins underlying3 underlying105 (by omega) 8 (by omega) (by omega) (.func (.func 84) #[] #[]);have xB:=hb8.grown g9 hb8.size (λq hq=>YF (zs hq));clear hb8 g9 m8;have HM:=zH m9;have HB:=zH xB;clear m9 xB;go_enter func32,ntmps32;go_wp2_with fail;go_ret;exact⟨rfl,HM.out,HB.out⟩
end T7
end Go.Proofs.YtfnehkmhcmkhjaaGreat
