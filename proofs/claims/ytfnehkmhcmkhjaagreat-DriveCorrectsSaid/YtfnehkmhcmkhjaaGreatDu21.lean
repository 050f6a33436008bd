/- Parts -/
import Derived.Test.YtfnehkmhcmkhjaaGreatDu20
import Derived.Test.YtfnehkmhcmkhjaaGreatDu19
import Derived.Test.YtfnehkmhcmkhjaaGreatDu15
import Derived.Test.YtfnehkmhcmkhjaaGreatDu18
set_option maxRecDepth 100000
set_option maxHeartbeats 8000000
set_option linter.unusedVariables false
namespace Go.Proofs.YtfnehkmhcmkhjaaGreat
open Tryz
namespace W8
open Go.RowKit Go.Maps
def Es(f:Int)(l:List Int)(k:Nat):Bool:=!(decide (aI l k<f) || decide (2352<=aI l k) || (decide (0<k) && decide (aI l k<=aI l (k-1))))
def tN(f:Int)(l:List Int):Nat->Bool
 |0=>true
 |k+1=>tN f l k && Es f l k
def Ep(f:Int)(l:List Int):Bool:=tN f l l.length
theorem Jk(f:Int)(l:List Int):∀(m k:Nat),k<=m->tN f l m=true->tN f l k=true
 | 0,k,h,hp=>by obtain rfl:k=0:=by omega
                exact hp
 | m+1,k,h,hp=>by
   by_cases e:k=m+1
   ·rw[e];exact hp
   ·unfold tN at hp;rw[Yt]at hp;exact Jk f l m k (by omega) hp.1
theorem V5{f:Int}{l:List Int}{m k:Nat}(h:k<m)(hp:tN f l m=true):f<=aI l k/\aI l k<2352/\(0<k->aI l (k-1)<aI l k):=by have:=Jk f l m (k+1) (by omega) hp;unfold tN Es at this;simp only[Yt,Bool.not_eq_true',Bool.or_eq_false_iff,Yv,Xy]at this;omega
theorem V6{f:Int}{l:List Int}{m:Nat}(hp:tN f l m=true):∀(k j:Nat),j<k->k<m->aI l j<aI l k
 |0,j,hj,_=>by omega
 | k+1,j,hj,hk=>by
   have h1:=(V5 hk hp).2.2 (by omega);rw[XM]at h1;by_cases e:j=k
   ·subst e;exact h1
   ·have:=V6 hp k j (by omega) (by omega);omega
theorem oz(l:List Int)(k:Nat)(h:k<l.length):l.take (k+1)=l.take k++[aI l k]:=by rw[Yo h,bT h]
theorem agi{f:Int}{l:List Int}{k:Nat}(hk:k<l.length)(hp:tN f l (k+1)=true):aI l k ∉ l.take k:=by
 intro h;obtain⟨j,hj,e⟩:=YL h;have hj2:j<k:=by rw[Yk]at hj;omega
 have:=V6 hp k j hj2 (by omega);rw[List.getElem_take,<-bT (by omega)]at e;omega
theorem Et{f:Int}{l:List Int}{k:Nat}(h:Es f l k=false):∀n,k<n->tN f l n=false
 |0,hk=>by omega
 | n+1,hk=>by
   unfold tN;by_cases e:k=n
   ·subst e;rw[h,Bool.and_false]
   ·rw[Et h n (by omega),Bool.false_and]
def an3(f:Int)(l:List Int)(w:World)(e:Ending)(w':World):Prop:=
 (Ep f l=false/\e=.returned (.tuple #[.map none,.bool false])/\Below w.heap.size w w')\/
 (Ep f l=true/\e=.returned (.tuple #[.map (some w.heap.size),.bool true])/\MS w' w.heap.size l.length l/\Below w.heap.size w w')
theorem set_any(f:Int)(ev:Value)(l:List Int)(w:World)(hv:lu w ev l)(hl:l.length<=100000):
 Calls prog 143 #[.int .i64 f,ev] w (an3 f l w):=by
 obtain⟨hw0,⟨wa,wc,wb,wo,rfl,hwc,nP⟩,hwr⟩:=hv;have HW:=zH nP;have HWR:=zH hwr;clear nP hwr;have hmm:=@run_makeMap prog;go_enter func143,ntmps143;go_wp2_with fail;have hb0:=(zB w.heap.size w).alloc (zl _) (.map #[] 0);have hm0:=MS.made w;clear hmm
 go_loopw [12] (λvk wr=>∃k:Nat,k<=l.length/\vk=.int .i64 k/\Hid (tN f l k=true)/\MS wr w.heap.size k (l.take k)/\Below w.heap.size w wr) (λvk _=>l.length-(RowKit.intOf vk).toNat)
 case atStart=>exact⟨0,by omega,rfl,zH rfl,hm0,hb0⟩
 case round=>
  clear hm0 hb0;obtain⟨k,hk,rfl,HE,hm,hb⟩:=hrel;by_cases hlt:k<l.length
  ·obtain⟨ha,hcw⟩:=HW.out k hlt;obtain⟨hx1,hx2⟩:=HWR.out k hlt;have alV:wr.cell? ⟨wb,wo+k,none⟩=some (.int .i64 (aI l k)):=(hb.cell (p:=⟨wb,wo+k,none⟩) (zc w _ hcw)).trans hcw;have hix:=bJ (P:=prog) underlying31 sizeInt (cap:=wc) ha hlt _ rfl wr;have hbad:Es f l k=false->Hid (Ep f l=false):=λh=>zH (Et h _ hlt)
   have hgood:Es f l k=true->Hid (tN f l (k+1)=true/\aI l k ∉ l.take k):=λh=>by
    have h2:tN f l (k+1)=true:=by unfold tN;rw[HE.out,h];rfl
    exact zH ⟨h2,agi hlt h2⟩
   have HT:=zH (oz l k hlt);have hB1:Es f l k = !(decide (aI l k<f) || decide (2352<=aI l k) || (decide (0<k) && decide (aI l k<=aI l (k-1)))):=rfl;by_cases c1:aI l k<f
   ·have HX:=hbad (by rw[hB1];simp[c1]);have hd1:decide (aI l k<f)=true:=by simpa using c1
    generalize aI l k=x at *;clear hbad hgood hB1 ha hcw hm HT;go_wp2_with fail;go_ret2;exact .inl ⟨HX.out,rfl,hb⟩
   ·have hd1:decide (aI l k<f)=false:=by simpa using c1
    by_cases c2:2352<=aI l k
    ·have HX:=hbad (by rw[hB1];simp[c2]);have hd2:decide (2352<=aI l k)=true:=by simpa using c2
     generalize aI l k=x at *;clear hbad hgood hB1 ha hcw hm HT c1;go_wp2_with fail;go_ret2;exact .inl ⟨HX.out,rfl,hb⟩
    ·have hd2:decide (2352<=aI l k)=false:=by simpa using c2
     by_cases c3:k=0
     ·have HG:=hgood (by rw[hB1,hd1,hd2,c3];rfl);have hd3:decide (0<(k:Int))=false:=by simp;omega
      have hd4:decide (0<k)=false:=by simp;omega
      have H3:=zH c3;generalize hxe:aI l k=x at *;have HXE:=zH hxe;clear hbad hgood hB1 ha hcw c1 c2 c3 hxe;go_wp2_with (refine vY rfl _ _ _ rfl hm rfl rfl rfl hx1 hx2 (by omega) HG.out.2 ?_;intro w2 hm2 hg2);have hb2:=hb.grown hg2 hb.size (λj e=>by cases e;exact zl _);have Dk:MS w2 w.heap.size (k+1) (l.take (k+1)):=by rw[HT.out];exact hm2
      clear hm hb hg2 hm2;go_roundw;case rel=>exact⟨k+1,by omega,by go_num,zH HG.out.1,Dk,hb2⟩
      case measure=>simp[RowKit.intOf];omega
     ·have hd3:decide (0<(k:Int))=true:=by simp;omega
      have hd4:decide (0<k)=true:=by simp;omega
      obtain⟨ha3,hcw3⟩:=HW.out (k-1) (by omega);have ajL:wr.cell? ⟨wb,wo+(k-1),none⟩=some (.int .i64 (aI l (k-1))):=(hb.cell (p:=⟨wb,wo+(k-1),none⟩) (zc w _ hcw3)).trans hcw3;have hix3:=bJ (P:=prog) underlying31 sizeInt (cap:=wc) ha3 (show k-1<l.length by omega) ((k:Int)-1) (by omega) wr;by_cases c4:aI l k<=aI l (k-1)
      ·have HX:=hbad (by rw[hB1,hd4];simp[c4]);have hd5:decide (aI l k<=aI l (k-1))=true:=by simpa using c4
       generalize aI l (k-1)=y at *;generalize aI l k=x at *;clear hbad hgood hB1 ha hcw hm HT c1 c2 ha3 hcw3;go_wp2_with fail;go_ret2;exact .inl ⟨HX.out,rfl,hb⟩
      ·have hd5:decide (aI l k<=aI l (k-1))=false:=by simpa using c4
       have HG:=hgood (by rw[hB1,hd1,hd2,hd4,hd5];rfl);generalize aI l (k-1)=y at *;generalize hxe:aI l k=x at *;have HXE:=zH hxe;clear hbad hgood hB1 ha hcw c1 c2 ha3 hcw3 hxe c4;go_wp2_with (refine vY rfl _ _ _ rfl hm rfl rfl rfl hx1 hx2 (by omega) HG.out.2 ?_;intro w2 hm2 hg2);have hb2:=hb.grown hg2 hb.size (λj e=>by cases e;exact zl _);have Dk:MS w2 w.heap.size (k+1) (l.take (k+1)):=by rw[HT.out];exact hm2
       clear hm hb hg2 hm2;go_roundw;case rel=>exact⟨k+1,by omega,by go_num,zH HG.out.1,Dk,hb2⟩
       case measure=>simp[RowKit.intOf];omega
  ·obtain rfl:k=l.length:=by omega
   rw[YD]at hm;go_wp2_with fail;go_ret2;exact .inr ⟨HE.out,rfl,hm,hb⟩
end W8
namespace Ih
open Go.RowKit
def aih(q:Q.Fr):List UInt8:=[by8 (q.ctl*16+1),by8 (num q.bP),by8 (num q.pt)]++CY q.rm q.rs q.rf++[0]++CY q.am q.as q.af
def ao0(q:Q.Fr):List UInt8:=aih q++chk (aih q)
theorem DC(l m:List UInt8):str l++str m=str (l++m):=by unfold str;apply ByteArray.ext;rw[ByteArray.data_append];simp
theorem Rd.amD{W:World}{g:Nat}{t:TypeId}{l:List UInt8}(h:Bx W g t (bs l))(hl:l.length<=140737488351232):Rd W (.slice (some ⟨g,0,none⟩) l.length l.length) l:=
 ⟨hl,some ⟨g,0,none⟩,l.length,g,0,rfl,zl _,λi hi=>⟨rfl,by rw[Yf];exact h.cell (jh hi)⟩⟩
structure Good (q:Q.Fr):Prop where
 c0:0<=q.ctl
 c1:q.ctl<=15
 t:(0<=q.bP/\q.bP<=99)\/isSp q.bP=true
 p:(0<=q.pt/\q.pt<=99)\/isSp q.pt=true
 r:okA q.rm q.rs q.rf
 a:okA q.am q.as q.af
end Ih
namespace W8
open Go.RowKit Go.Shelf
attribute [local go_sem] Oper.semAt_some
def V3(g cap n g1 c1:Nat)(f:Int)(v2:Value)(S:ByteArray)(i:Nat)(v:Value)(W:World):Prop:=match i with
 |0=>v=.slice (some ⟨g,0,none⟩) 2352 cap
 |1=>v=.slice (some ⟨g1,0,none⟩) n c1
 |2=>v=.slice (some ⟨g1,0,none⟩) n c1
 |3=>v=.int .i64 (n:Int)
 |4=>v=.int .i64 ((n:Int)-2)
 |5=>v=v2
 |6=>v=.int .i64 f
 |7=>v=.string S
 |8=>v=.string S
 |_=>True
theorem TD(g cap n g1 c1:Nat)(f:Int)(v2:Value)(S:ByteArray)(i:Nat)(v:Value)(W W':World)(hR:(λw W=>Below w.heap.size w W) W W')(h:V3 g cap n g1 c1 f v2 S i v W):V3 g cap n g1 c1 f v2 S i v W':=by unfold V3 at h ⊢;split at h <;> first|exact h
theorem TE(raw:List UInt8)(m:Int)(w:World)(h:EH m=true)(hl:raw.length=2352):
 Calls prog 88 #[.string (str raw),.int .i64 m] w λe w'=>e=.returned (.tuple #[.string (str (jA raw (pF m) 138)),.int .i64 0])/\Below w.heap.size w w':=by
 have HF:=zH (λW=>first_any m W);rw[h]at HF;have aog:pF m<=16:=by unfold pF;split <;> (try split) <;> omega
 have hs:(str raw).size=2352:=by rw[au,hl]
 have HL:=zH hl;have HS:=zH hs;have hd:((2352:Int) != 2352)=false:=by decide
 generalize pF m=f at *;clear h hl;refine(callsIn_wide (n:=5)).1 ?_;refine callsIn_of_wp_marks func88 rfl trivial ?_ rfl;simp only[ntmps88,Xh,Yn,YC,Nat.reduceAdd,Nat.reduceSub,Xi,Xj,Xv,Xn,YV,Xr]
 gi_wp2_with (refine⟨trivial,?_⟩;gi_at_call 142;refine(callsIn_wide.2 (HF.out _)).mono ?_;rintro e w' ⟨rfl,rfl⟩)
 have hb1:Below w.heap.size w (w.alloc (.cells #[.int .i64 f] 3)):=(zB _ w).alloc (zl _) _;have X6:=Bx.new w 3 [.int .i64 f];have hg1:(w.alloc (.cells #[.int .i64 f] 3)).heap.size=w.heap.size+1:=by simp
 obtain⟨w2,cap,hrun,hr2,hb2,hcap⟩:=aa6 (P:=prog) (w.alloc (.cells #[.int .i64 f] 3)) underlying9 underlying65 underlying5 raw 2352 HL.out;rw[hg1]at hrun hr2 hb2;rw[hrun];simp only[Result.andThen];rw[Oper.uponIn_value];have hb2':=hb1.trans (hb2.mono (by omega));have X6:=X6.jm hb2 (by omega);have hlt2:=hr2.lt;clear hb1 hb2 hrun hg1
 gi_wp2_with (refine⟨trivial,?_⟩;gi_at_call 167;refine(Gy 4 _).mono ?_;rintro e w' ⟨rfl,rfl⟩)
 obtain⟨b6,hb6⟩:∃b,b=w.heap.size:=⟨_,rfl⟩;obtain⟨b8,hb8⟩:∃b,b=w2.heap.size:=⟨_,rfl⟩;obtain⟨g,hg⟩:∃b,b=w.heap.size+1:=⟨_,rfl⟩;rw[<-hg]at hr2 hlt2 ⊢;rw[<-hb6]at X6;have X8:=Bx.new w2 65 [.slice (some ⟨g,0,none⟩) 2352 cap];have hR:=hr2.below ((zB w2.heap.size w2).alloc (zl _) (.cells #[.slice (some ⟨g,0,none⟩) 2352 cap] 65));have X6':=X6.alloc (.cells #[.slice (some ⟨g,0,none⟩) 2352 cap] 65);have hB0:=hb2'.alloc hb2'.size (.cells #[.slice (some ⟨g,0,none⟩) 2352 cap] 65);rw[<-hb8]at X8;obtain⟨W0,hW0⟩:∃W0,W0=w2.alloc (.cells #[.slice (some ⟨g,0,none⟩) 2352 cap] 65):=⟨_,rfl⟩;have hs0:W0.heap.size=b8+1:=by rw[hW0,hb8];simp
 have hord:b6<g/\g<b8:=by omega
 rw[<-hW0]at hR X6' X8 hB0;simp only[<-hb6,<-hb8,<-hW0];have xC:=zH hord;have aoD:w.heap.size<=W0.heap.size:=hB0.size;have hbg:w.heap.size<=g/\w.heap.size<=b8:=by omega
 have vH:=zH hs0;clear X6 hr2 hb2' hlt2 hcap hord hb6 hb8 hg hW0 hs0;have hseq:=uD 4 (by omega) W0;refine oW (n:=5) rfl (by omega) (gf:=248) (lb:=#[]) rfl trivial (enters_of func248 (by kernel_rfl) rfl) hseq rfl
  (λk W=>(Row W 5 g cap (jA raw f k)/\Bx W b6 3 [.int .i64 f]/\Bx W b8 65 [.slice (some ⟨g,0,none⟩) 2352 cap])/\Below w.heap.size w W)
  (λ_ _=>False)
  (λv=>{tmps:=#[.string (str raw),.int .i64 m,undef,undef,.string ⟨#[]⟩,.int .i64 0,.pointer (some ⟨b6,0,none⟩),.bool true,.pointer (some ⟨b8,0,none⟩),v,undef,undef,undef,.tuple #[.int .i64 f,.bool true],.int .i64 m,.tuple #[.int .i64 f,.bool true],.int .i64 f,.bool true,.bool true,.bool false,.bool false,.string (str raw),.int .i64 2352,.bool false,.bool false,.string (str raw),.slice (some ⟨g,0,none⟩) 2352 cap,.func (.func 248) #[] #[],v,undef,undef,undef,undef,undef,undef,undef,undef,undef,undef,undef,undef,undef,undef,undef,undef,undef,undef,undef,undef],defers:=[]})
  (λk=>((A7 _ _ _ _ _).and ((dh _ _ _ _).and (dh _ _ _ _))).and (iU (zl _) aoD))
  (λc=>bD.const _ _)
  (λk v=>GW.stays _ _ _ _) ⟨⟨hR,X6',X8⟩,hB0⟩ ?assign ?body ?done ?stop
 case assign=>
  intro l v W K _ hK;gi_wp2;exact hK
 case body=>
  rintro l k v W1 hk ⟨⟨hr,x6,x8⟩,hb⟩ hg;clear hR X6' X8 hB0 hseq;have hwb:=Rw hk;have hwl:=dR k;have hlen:(wd k).length<=45:=by rw[hwl];split <;> omega
  have hlen2:26<=(wd k).length:=by rw[hwl];split <;> omega
  have hel:=gI raw f k;rw[HL.out]at hel;have hep:=acG raw f k hk aog;obtain⟨g1,c1,rfl,_⟩:=aha hg (by omega);have hri:=lh (w:=W1) hg rfl (by omega) (λx hx=>by have:=hwb x hx;omega);have hs0:=vH.out;have hoff:=yJ (g:=g) (w:=W1) hg (by have:=xC.out;omega) rfl (by omega) (λx hx=>by have:=hwb x hx;omega);obtain⟨v2,hv2,hcut⟩:=aeG (P:=prog) underlying31 sizeInt hri ((wd k).length-2) (by omega);have hrd:=hr.rd (by omega);rw[hel]at hrd;obtain⟨n,hn⟩:∃n,n=(wd k).length:=⟨_,rfl⟩;have HT:Hid (∀W,Below W1.heap.size W1 W->Calls prog 168 #[.slice (some ⟨g,0,none⟩) 2352 cap,v2,.int .i64 f] W λe W'=>e=.returned (.string (str (bu (jA raw f k) ((wd k).take ((wd k).length-2)) f)))/\Below W.heap.size W W'):=zH λW hW=>
   take_any _ (jA raw f k) v2 _ f W (hrd.keep hW) (hv2 W (hri.keep hW)) (by rw[Yk];omega) (λx hx=>by have:=hwb x (List.mem_of_mem_take hx);rw[hel];omega)
  have HE:Hid (∀W,Calls prog 169 #[.string (str (bu (jA raw f k) ((wd k).take ((wd k).length-2)) f)),.int .i64 2] W λe W'=>e=.returned (.tuple #[.string (str (cwd (jA raw f k) (wd k) f)),.int .i64 0])/\Below W.heap.size W W'):=zH λW=>
   Jh _ 2 W (λe=>by have:=Yp List.length e;rw[aO,Yk]at this;simp at this;omega) (by omega) (by omega) (by rw[aO,Yk];omega)
  have HP:Hid (∀W,Below W1.heap.size W1 W->Calls prog 170 #[.slice (some ⟨g,0,none⟩) 2352 cap,.slice (some ⟨g1,0,none⟩) (wd k).length c1,.int .i64 f,.string (str (cwd (jA raw f k) (wd k) f))] W (ai3 5 g cap (jA raw f k) (wd k) f (cwd (jA raw f k) (wd k) f) W)):=zH λW hW=>
   put_any g 2352 cap (jA raw f k) _ (wd k) f _ W hel.symm (hr.below hW) (λW' hW'=>hoff W' λj hj hjg=>(hW' j (zL hj hW.size) hjg).trans (hW.block j hj)) (by omega) (λx hx=>by have:=hwb x hx;rw[hel];omega) (by rw[Ee _ _ _ (by omega)];exact zl _)
  have Zt:Hid (∀e W W',ai3 5 g cap (jA raw f k) (wd k) f (cwd (jA raw f k) (wd k) f) W e W'->(∃b,e=.returned (.bool b))/\Row W' 5 g cap (jA raw f (k+1))/\W.grownBy W' (some g)):=zH λe W W' ⟨h1,h2,h3⟩=>⟨⟨_,h1⟩,by rw[<-hep];exact h2,h3⟩
  have HX:=zH (And.intro hr (And.intro x6 x8));have HB:=zH hb;rw[<-hn]at HT HE HP hcut;have hcut':∀w',(Instr.slice 31 (.slice (some ⟨g1,0,none⟩) n c1) none (some (.int .i64 ((n:Int)-2))) none).run prog w'=.ok v2 w':=λw'=>hcut _ w' (by omega)
  have anj:=zH hcut';have aoo:(26:Int)<=n/\(n:Int)<=45:=by omega
  generalize str (bu (jA raw f k) ((wd k).take (n-2)) f)=S at HT HE;generalize str (cwd (jA raw f k) (wd k) f)=S2 at HE HP;have HN:=zH hn;rw[<-hn];clear hn hs0 hcut hcut' hri hoff hrd hv2 hg hr x6 x8 hb hel hep hwb hwl hlen hlen2;gi_wp2;refine CS (by rintro⟨_,_,h⟩;exact h) (by kernel_rfl) (by kernel_rfl) (λw W=>Below w.heap.size w W) (λW=>Below W1.heap.size W1 W) (V3 g cap n g1 c1 f v2 S) (λ_=>false) (by kernel_rfl) (λW W' hb h=>h.trans (hb.mono h.size)) (TD g cap n g1 c1 f v2 S) ((zB _ _).drew) ⟨?s0,?_,?_,?s3,?s4,?s5,?s6,?s7,?_,trivial⟩ ?_;all_goals first
   | (intro a W hc hsz hold ah
      have o9:a.tmps.getD 9 undef=.slice (some ⟨g1,0,none⟩) n c1:=hold 9 (by kernel_rfl);try have d7:=zV 36 (.string S) (ah 7 rfl rfl _ rfl)
      clear hsz hold ah;refine ai rfl (ag rfl) ?_;refine ak (zB _ _) rfl λK hK=>?_
      go_simp;exact hK)
   |skip
  try case s0=>
   intro a W hc hsz hold ah;have o8:a.tmps.getD 8 undef=.pointer (some ⟨b8,0,none⟩):=hold 8 (by kernel_rfl);have q:=(HX.out.2.2.call hc).cell (i:=0) rfl;clear hsz hold ah;refine ai rfl (ag rfl) ?_;refine ak (v:=.slice (some ⟨g,0,none⟩) 2352 cap) (zB _ _) rfl λK hK=>?_
   go_simp;exact hK
  try case s3=>
   intro a W hc hsz hold ah;have d2:=zV 31 (.slice (some ⟨g1,0,none⟩) n c1) (ah 2 rfl rfl _ rfl);have e2:=zq d2;clear hsz hold ah;refine ai rfl (ag rfl) ?_;refine ak (v:=.int .i64 (n:Int)) (zB _ _) rfl λK hK=>?_
   go_simp;exact hK
  try case s4=>
   intro a W hc hsz hold ah;have d3:=zV 32 (.int .i64 (n:Int)) (ah 3 rfl rfl _ rfl);have hn2:=aoo;have hw2:IntKind.i64.wrap ((n:Int)-2)=(n:Int)-2:=IntWalk.i64_in _ (by omega);clear hsz hold ah;refine ai rfl (ag rfl) ?_;refine ak (v:=.int .i64 ((n:Int)-2)) (zB _ _) rfl λK hK=>?_
   go_simp;exact hK
  try case s5=>
   intro a W hc hsz hold ah;have d1:=zV 30 (.slice (some ⟨g1,0,none⟩) n c1) (ah 1 rfl rfl _ rfl);have d4:=zV 33 (.int .i64 ((n:Int)-2)) (ah 4 rfl rfl _ rfl);have hcut:=anj.out;clear hsz hold ah;refine ai rfl (ag rfl) ?_;refine ak (v:=v2) (zB _ _) rfl λK hK=>?_
   go_simp;exact hK
  try case s6=>
   intro a W hc hsz hold ah;have o6:a.tmps.getD 6 undef=.pointer (some ⟨b6,0,none⟩):=hold 6 (by kernel_rfl);have q:=(HX.out.2.1.call hc).cell (i:=0) rfl;clear hsz hold ah;refine ai rfl (ag rfl) ?_;refine ak (v:=.int .i64 f) (zB _ _) rfl λK hK=>?_
   go_simp;exact hK
  try case s7=>
   intro a W hc hsz hold ah;have d0:=zV 29 (.slice (some ⟨g,0,none⟩) 2352 cap) (ah 0 rfl rfl _ rfl);have e0:=zq d0;have d5:=zV 34 v2 (ah 5 rfl rfl _ rfl);have e5:=zq d5;have d6:=zV 35 (.int .i64 f) (ah 6 rfl rfl _ rfl);have e6:=zq d6;clear hsz hold ah;refine ai rfl (ag rfl) ?_;refine eG (v:=.string S) (λW' hb=>hb) (λ_=>rfl) λK hK=>?_
   go_simp;refine(HT.out W hc).mono ?_;rintro e w' ⟨rfl,hb'⟩;exact hK _ hb'
  ·intro a W hC hd hsz hold hval;have d10:a.tmps.getD 10 undef=.string S:=hval 8 _ rfl rfl;obtain⟨G,hG,ha⟩:=dK [10,29,30,31,32,33,34,35,36] (by kernel_rfl) hd hsz hold;simp only[hG]at d10;rw[ha];clear ha hG hd hsz hold;simp only[cZ,Ym,List.set,d10];clear d10
   gi_wp2_with (first|(refine⟨trivial,?_⟩;gi_at_call 169;refine(CallsIn.inRound l (callsIn_wide.2 (HE.out _))).mono ?_;rintro e W2 ⟨rfl,hb2⟩;have hc2:=hC.trans (hb2.mono hC.size);have q6:=(HX.out.2.1.call hc2).cell (i:=0) rfl;have q8:=(HX.out.2.2.call hc2).cell (i:=0) rfl)|(refine⟨trivial,?_⟩;gi_at_call 170;refine(CallsIn.inRound l (callsIn_wide.2 (HP.out _ hc2))).mono ?_;rintro e W3 hp;obtain⟨⟨bb,rfl⟩,hr3,hg3⟩:=Zt.out _ _ _ hp;clear hp))
   have hB2:=HB.out.trans (hc2.mono HB.out.size);refine⟨(lJ hc2).trans (KeepsFrom.of_grownBy hg3 (λj e=>by cases e;have:=xC.out;have:=vH.out;omega)),⟨hr3,?_,?_⟩,hB2.grown hg3 hB2.size (λj e=>by cases e;exact hbg.1)⟩
   ·exact(hg3.block _ (HX.out.2.1.call hc2).lt (λe=>by have:=xC.out;cases e;omega)).trans (HX.out.2.1.call hc2)
   ·exact(hg3.block _ (HX.out.2.2.call hc2).lt (λe=>by have:=xC.out;cases e;omega)).trans (HX.out.2.2.call hc2)
 case done=>
  rintro D W hD ⟨⟨hr,_,x8⟩,hb⟩ hK;clear hR X6' X8 hB0 hseq;have hel:=gI raw f 138;rw[HL.out]at hel;have q8:=x8.cell (i:=0) rfl;have hrd:=hr.rd (by omega);rw[hel]at hrd;have hcx:=eX (P:=prog) underlying65 underlying5 underlying9 hrd;clear hrd hel hr x8;gi_wp2;refine⟨by simp,.inl ⟨_,_,rfl,run_takeDeferred hK,?_⟩⟩;exact⟨_,results_tmp2 rfl _ _ _,rfl,hb.trans (belowK_b (w:=w) (zl _) _ D _ _ (by omega) hK rfl rfl)⟩
 case stop=>
  rintro D c W _ h _;exact h.elim
theorem aaz{w:World}{b b' e e' sz sz' n n':Nat}{v v':Value}{xs xs':List Value}(h:w.ownsRow b e sz v n xs)(h':w.ownsRow b' e' sz' v' n' xs')(hne:e≠e'):∀k,v.ownBlock=some k->some k≠v'.ownBlock:=by
 intro k hk hk';rcases h.2 with ⟨rfl,_⟩|⟨g,cap,cur,rfl,_,hg,_⟩
 ·simp[Value.ownBlock]at hk
 rcases h'.2 with ⟨rfl,_⟩|⟨g',cap',cur',rfl,_,hg',_⟩
 ·simp[Value.ownBlock]at hk'
 have e1:g=k:=by simpa[Value.ownBlock]using hk
 have e2:k=g':=by simpa[Value.ownBlock]using hk'
 subst e1 e2;rw[hg]at hg';simp only[YA,Obj.cells.injEq]at hg';exact hne hg'.2.1
theorem Ar{w w':World}{b e sz n:Nat}{v:Value}{xs:List Value}{r:Option Nat}(h:w.ownsRow b e sz v n xs)(hg:w.grownBy w' r)(hr:∀k,v.ownBlock=some k->some k≠r):w'.ownsRow b e sz v n xs:=by
 refine⟨h.1,?_⟩;rcases h.2 with h|⟨g,cap,cur,rfl,hb,hh,rest⟩
 ·exact .inl h
 ·exact .inr ⟨g,cap,cur,rfl,hb,(hg.block g (Yd.1 hh).1 (hr g rfl)).trans hh,rest⟩
def jJ(raw:List UInt8)(m:Int):Bool:=decide (raw.length=2352) && EH m
theorem neLI:3≠31:=by decide
def Lst(B:Nat)(W:World)(vs:List Value)(k:Nat):Prop:=vs.length=k/\∀j v,vs[j]? = some v->W.ownsRow B 3 1 v (wd j).length (is (wd j))
theorem Lst.keep{B:Nat}{W W':World}{vs:List Value}{k:Nat}(h:Lst B W vs k)(hb:Below W.heap.size W W'):Lst B W' vs k:=⟨h.1,λj v hv=>ja (h.2 j v hv) hb⟩
theorem Lst.grown{B b n:Nat}{W W':World}{vs xs:List Value}{k:Nat}{v:Value}(h:Lst B W vs k)(ho:W.ownsRow b 31 1 v n xs)(hg:W.grownBy W' v.ownBlock):Lst B W' vs k:=
 ⟨h.1,λj u hu=>Ar (h.2 j u hu) hg (aaz (h.2 j u hu) ho neLI)⟩
def Po(raw:List UInt8)(m:Int):List UInt8×Int:=if jJ raw m=true then(jA raw (pF m) 138,0) else([],1)
end W8
namespace wu
open Go.ChangeShapes Go.WideShapes Go.RowKit Go.Deep Go.Joins C9
open W8 (is)
def zS(w:World)(v:Value)(l:List Int):Prop:=dU w 1 v l.length (λi=>[.int .i64 (aI l i)])/\l.length<=9223372036854775807/\∀i,i<l.length->In64 (aI l i)
theorem zS.rd{w:World}{v:Value}{l:List Int}(h:zS w v l)(hl:l.length<=17592186044416):lu w v l:=by obtain⟨⟨a,c,b,off,hv,hc,hcell⟩,_,hw⟩:=h;refine⟨hl,⟨a,c,b,off,hv,hc,λi hi=>⟨(hcell i hi).1,?_⟩⟩,hw⟩;have:=(hcell i hi).2 0 _ rfl;rwa[Yy,YO]at this
theorem zS.keep{w w':World}{v:Value}{l:List Int}(h:zS w v l)(hb:Below w.heap.size w w'):zS w' v l:=⟨h.1.keep hb,h.2⟩
def Kr(w:World)(v:Value)(l:List (Int×Int)):Prop:=alb w v l/\l.length<=9223372036854775807/\∀i,i<l.length->In64 (OJ l i).1/\In64 (OJ l i).2
theorem Kr.keep{w w':World}{v:Value}{l:List (Int×Int)}(h:Kr w v l)(hb:Below w.heap.size w w'):Kr w' v l:=⟨dB.keep h.1 hb,h.2⟩
structure DF (w:World) (vE vC:Value) (d:Ia):Prop where
 er:zS w vE d.er
 ch:Kr w vC d.ch
 aj:In64 d.aj
theorem DF.keep{w w':World}{vE vC:Value}{d:Ia}(h:DF w vE vC d)(hb:Below w.heap.size w w'):DF w' vE vC d:=⟨h.er.keep hb,h.ch.keep hb,h.aj⟩
theorem DF.dam{w:World}{vE vC:Value}{d:Ia}(h:DF w vE vC d)(h1:d.er.length<=200)(h2:d.ch.length<=200):RJ w vE vC d:=⟨h.er.rd (by omega),h.ch.1,h.aj,by omega,h.ch.2.2⟩
structure DV where
 d:Ia
 vE:Value
 vC:Value
structure AV where
 a:AC
 vs:Value
 vE:Value
 vC:Value
def avz:AV:=⟨⟨0,0,0,false,[],⟨0,[],[]⟩⟩,.slice none 0 0,.slice none 0 0,.slice none 0 0⟩
def avD(x:AV):List Value:=[.int .i64 x.a.kind,.int .i64 x.a.at_,.int .i64 x.a.byte,.bool x.a.short,x.vs,.int .i64 x.a.dam.aj,x.vE,x.vC]
structure J9 (w:World) (x:AV):Prop where
 k:In64 x.a.kind
 a:In64 x.a.at_
 b:In64 x.a.byte
 s:jw w x.vs x.a.scr
 d:DF w x.vE x.vC x.a.dam
theorem J9.keep{w w':World}{x:AV}(h:J9 w x)(hb:Below w.heap.size w w'):J9 w' x:=⟨h.k,h.a,h.b,h.s.keep hb,h.d.keep hb⟩
def DD(w:World)(v:Value)(l:List AV):Prop:=dB avz avD 8 w v l/\l.length<=9223372036854775807/\∀i,i<l.length->J9 w (aJ avz l i)
theorem DD.keep{w w':World}{v:Value}{l:List AV}(h:DD w v l)(hb:Below w.heap.size w w'):DD w' v l:=⟨dB.keep h.1 hb,h.2.1,λi hi=>(h.2.2 i hi).keep hb⟩
section
variable {H:Type} {enc:TypeId×Value->H} {w:World} {base b0:Nat} {sp:Nat->Bool} {held:Bool}
end
end wu
section
theorem EC{l:List T.ax}{aj:Int}:∀(n i:Nat),lF l aj n=some i->i<n/\(T.tr l i).dZ≠2/\(T.tr l i).nx=aj
 |0,i,h=>by simp[lF]at h
 | n+1,i,h=>by
   unfold lF at h;split at h
   ·obtain rfl:=zs h;exact⟨by omega,by assumption⟩
   ·have:=EC n i h;exact⟨by omega,this.2⟩
structure Does (cap cl:Int) (fin:Bool) (l:List T.ax) (kind a b:Int) (R:je):Prop where
 ok:R.code=0->T.Step cap cl fin l R.cl R.fin R.l
 bad:R.code≠0->R=je.bad R.code
 app:R.code=0->kind=1->∃i,i<l.length/\(T.tr l i).dZ≠2/\(T.tr l i).nx=a/\1<=b/\b<=(T.tr l i).st+(T.tr l i).len-(T.tr l i).nx/\R.l=l.set i (T.grown (T.tr l i) b)
 same:R.code=0->kind≠1->∀k,T.Done R.l k↔T.Done l k
theorem Does.sG{cap cl:Int}{fin:Bool}{l:List T.ax}{kind a b:Int}(c:Int)(hc:c≠0):Does cap cl fin l kind a b (je.bad c):=
 ⟨λh=>absurd h hc,λ_=>rfl,λh=>absurd h hc,λh=>absurd h hc⟩
theorem lD{cap cl:Int}{fin:Bool}{l:List T.ax}(hv:T.aK cap cl fin l)(kind a b:Int)(fz:Bool):Does cap cl fin l kind a b (doR cap cl fin l kind a b fz):=by
 have hV:=T.bz.2 hv;have hVn:¬ T.az cap cl fin l=false:=by rw[hV];simp
 unfold doR;by_cases k0:kind=0
 ·rw[zj k0];unfold bZ;rw[zi hVn];by_cases hf:fin=true
  ·rw[zj hf];exact Does.sG _ (by decide)
  rw[zi hf];by_cases hp:T.um a b
  ·rw[zi (XE hp)];by_cases hn:l.length=99\/cl=16
   ·rw[zj hn];exact Does.sG _ (by decide)
   rw[zi hn];by_cases hx:cap-T.AY cl l<a
   ·rw[zj hx];exact Does.sG _ (by decide)
   rw[zi hx];refine⟨λ_=>.inl ⟨by simpa using hf,rfl,rfl,a,b,hp,?_,?_,by omega,rfl⟩,λh=>absurd rfl h,λ_ h=>by omega,λ_ _ k=>?_⟩
   ·have:=hv.2.2.1;omega
   ·have:=hv.2.2.2.2.1;omega
   ·exact T.acx _ rfl k
  ·rw[zj hp];exact Does.sG _ (by decide)
 rw[zi k0];by_cases k1:kind=1
 ·rw[zj k1];unfold aW;rw[zi hVn];split
  ·exact Does.sG _ (by decide)
  ·rename_i i hi
   obtain⟨h1,h2,h3⟩:=EC _ _ hi;by_cases hp:T.um b (T.tr l i).pk
   ·rw[zi (XE hp)];by_cases hx:(T.tr l i).st+(T.tr l i).len-(T.tr l i).nx<b
    ·rw[zj hx];exact Does.sG _ (by decide)
    rw[zi hx];exact⟨λ_=>.inr (.inl ⟨rfl,rfl,i,b,h1,h2,hp,by omega,rfl⟩),λh=>absurd rfl h,λ_ _=>⟨i,h1,h2,h3,hp.1,by omega,rfl⟩,λ_ h=>absurd k1 h⟩
   ·rw[zj hp];exact Does.sG _ (by decide)
 rw[zi k1];by_cases k2:kind=2
 ·rw[zj k2];unfold iJ;rw[zi hVn];by_cases hn:a<1\/(l.length:Int)<a
  ·rw[zj hn];exact Does.sG _ (by decide)
  rw[zi hn];by_cases hs:Y6 l (a.toNat-1)=false
  ·rw[zj hs];exact Does.sG _ (by decide)
  rw[zi hs];have hs':Y6 l (a.toNat-1)=true:=by simpa using hs
  unfold Y6 at hs';obtain⟨s1,s2⟩:=YU hs';have hlt:a.toNat-1<l.length:=by omega
  exact⟨λ_=>.inr (.inr (.inl ⟨rfl,rfl,a.toNat-1,by omega,s1,λh=>by omega,rfl⟩)),λh=>absurd rfl h,λ_ h=>absurd h k1,λ_ _ k=>T.acy hlt (T.JV (T.tr l (a.toNat-1))) rfl rfl k⟩
 rw[zi k2];unfold jy;rw[zi hVn];by_cases hf:fin=true
 ·rw[zj hf];exact Does.sG _ (by decide)
 rw[zi hf];by_cases hu:OA (NL l) l.length=true
 ·rw[zj hu];exact Does.sG _ (by decide)
 rw[zi hu];have hu':∀i,i<l.length->(T.tr l i).dZ=2:=λi hi=>by have:=DY.1 (by simpa using hu) i hi;unfold NL at this;simpa using this
 by_cases hl:OA (Uw cl l) l.length=true
 ·rw[zj hl];obtain⟨m,hm,h2⟩:=Zw.1 hl;exact⟨λ_=>.inr (.inr (.inr (.inl ⟨by simpa using hf,rfl,rfl,hu',m,hm,YU h2⟩))),λh=>absurd rfl h,λ_ h=>absurd h k1,λ_ _ k=>Iff.rfl⟩
 rw[zi hl];by_cases hz:fz=false\/cl=0
 ·rw[zj hz];exact Does.sG _ (by decide)
 rw[zi hz];refine⟨λ_=>.inr (.inr (.inr (.inr ⟨by simpa using hf,rfl,rfl,rfl,λh=>hz (.inr h),hu',λi hi=>?_⟩))),λh=>absurd rfl h,λ_ h=>absurd h k1,λ_ _ k=>Iff.rfl⟩;have:=DY.1 (by simpa using hl) i hi;unfold Uw at this;simpa using this
end
namespace T7
open Go.ChangeShapes Go.WideShapes Go.RowKit Go.Deep Go.Joins Go C9 wu
def Kt(w:World)(v:Value)(l:List (List UInt8)):Prop:=fQ w v l/\l.length<=9223372036854775807/\∀i,i<l.length->(aJ [] l i).length<=9223372036854775807
theorem Kt.keep{w w':World}{v:Value}{l:List (List UInt8)}(h:Kt w v l)(hb:Below w.heap.size w w'):Kt w' v l:=⟨dB.keep h.1 hb,h.2⟩
structure AX where
 kind:Int
 k:Int
 aj:Int
 cnt:Int
 bP:Int
 pk:Int
 L:List (List UInt8)
 vb:Value
 scr:List Sc
 vs:Value
 d:Ia
 vE:Value
 vC:Value
def axz:AX:=⟨0,0,0,0,0,0,[],.slice none 0 0,[],.slice none 0 0,⟨0,[],[]⟩,.slice none 0 0,.slice none 0 0⟩
def axD(x:AX):List Value:=[.int .i64 x.kind,.int .i64 x.k,.int .i64 x.aj,.int .i64 x.cnt,.int .i64 x.bP,.int .i64 x.pk,x.vb,x.vs,.int .i64 x.d.aj,x.vE,x.vC]
structure Ko (w:World) (x:AX):Prop where
 kind:In64 x.kind
 k:In64 x.k
 aj:In64 x.aj
 cnt:In64 x.cnt
 bP:In64 x.bP
 pk:In64 x.pk
 L:Kt w x.vb x.L
 s:jw w x.vs x.scr
 d:DF w x.vE x.vC x.d
theorem Ko.keep{w w':World}{x:AX}(h:Ko w x)(hb:Below w.heap.size w w'):Ko w' x:=⟨h.kind,h.k,h.aj,h.cnt,h.bP,h.pk,h.L.keep hb,h.s.keep hb,h.d.keep hb⟩
def Kq(w:World)(v:Value)(l:List AX):Prop:=dB axz axD 11 w v l/\l.length<=9223372036854775807/\∀i,i<l.length->Ko w (aJ axz l i)
theorem Kq.keep{w w':World}{v:Value}{l:List AX}(h:Kq w v l)(hb:Below w.heap.size w w'):Kq w' v l:=⟨dB.keep h.1 hb,h.2.1,λi hi=>(h.2.2 i hi).keep hb⟩
section
variable {H:Type} {enc:TypeId×Value->H} {w:World} {base b0:Nat} {sp:Nat->Bool} {held:Bool}
end
end T7
end Go.Proofs.YtfnehkmhcmkhjaaGreat
