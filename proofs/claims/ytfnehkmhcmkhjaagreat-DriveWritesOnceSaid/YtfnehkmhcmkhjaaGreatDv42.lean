/- Parts:XLc XKl XLd -/
import Derived.Test.YtfnehkmhcmkhjaaGreatDvAl
import Derived.Test.YtfnehkmhcmkhjaaGreatDv40
import Derived.Test.YtfnehkmhcmkhjaaGreatDv41
set_option maxRecDepth 100000
set_option maxHeartbeats 8000000
set_option linter.unusedVariables false
namespace Go.Proofs.YtfnehkmhcmkhjaaGreat
open Tryz
namespace T7
open Go Go.RowKit C9 oH
structure gY (D:PD) (N:Nat):Prop where
 ok:D.Ok N
 md:fF D.M
 n:D.M.n=D.n
 fin:D.fin=true->D.ca = []
structure Nx (D D':PD):Prop where
 mono:jU D.M D'.M
 n:D'.n=D.n
 fin:D.fin=true->D'.M=D.M
theorem Nx.refl(D:PD):Nx D D:=⟨jU.refl _,rfl,fun _=>rfl⟩
theorem gY.up{D:PD}{N K:Nat}(h:gY D N)(hk:N<=K):gY D K:=⟨⟨h.ok.kind,h.ok.md.mono hk,h.ok.v,h.ok.a,h.ok.b,h.ok.ca,h.ok.n64⟩,h.md,h.n,h.fin⟩
theorem SX{M:aP}{N:Nat}(h:M.Ok N)(l:List (Int×List UInt8)):(jm M l).1.Ok (N+l.length):=by
 have key:∀(l:List (Int×List UInt8))(q:aP×Int×Bool)(N:Nat),q.1.Ok N->(l.foldl (JC qX) q).1.Ok (N+l.length):=by
  intro l
  induction l with
  | nil=>intro q N h1; exact h1
  | cons x l ih=>
    intro q N h1;rw[List.foldl_cons,List.length_cons];have e:(JC qX q x).1=(T7.pO q.1 x).2:=by unfold JC qX; split <;> rfl
    have:=ih (JC qX q x) (N+1) (by rw[e]; exact h1.record _ _);rwa[show N+1+l.length=N+(l.length+1) by omega]at this
 exact key l _ N h
theorem MG(M:aP):(jm M []).1=M:=rfl
theorem gY.ca8{D:PD}{N:Nat}(h:gY D N):∀x ∈ D.ca,x.2.length=2048:=fun x hx=>(h.ok.ca x hx).2.2
theorem gY.flush{D:PD}{N:Nat}(h:gY D N):gY { D with M:=(jm D.M D.ca).1,ca:=[] } (N+64)/\Nx D { D with M:=(jm D.M D.ca).1,ca:=[] }:=by obtain⟨h1,h2⟩:=h.md.jm D.ca h.ca8;refine⟨⟨h.ok.flush ((SX h.ok.md D.ca).mono (by have:=h.ok.n64; omega)),h1,h2.1.trans h.n,fun _=>rfl⟩,⟨h2,rfl,fun hf=>?_⟩⟩;show(jm D.M D.ca).1=D.M;rw[h.fin hf,MG]
theorem gY.VO{D:PD}{N:Nat}(h:gY D N):gY (mX D) N/\Nx D (mX D):=⟨⟨h.ok.VO,h.md,h.n,h.fin⟩,⟨jU.refl _,rfl,fun _=>rfl⟩⟩
theorem Nx.trans{a b c:PD}(h:Nx a b)(g:Nx b c)(hf:a.fin=true->b.fin=true):Nx a c:=⟨h.mono.trans g.mono,g.n.trans h.n,fun e=>(g.fin (hf e)).trans (h.fin e)⟩
theorem gY.syn{D:PD}{N:Nat}(h:gY D N):gY (vV D) (N+64)/\Nx D (vV D):=by obtain⟨h1,h2⟩:=h.flush;obtain⟨h3,h4⟩:=h1.VO;exact⟨h3,h2.trans h4 fun e=>e⟩
theorem gY.chg{D:PD}{N:Nat}(h:gY D N){cl:Int}{fin:Bool}{l:List T.az}(hv:T.aQ D.n cl fin l):gY (RN D cl fin l) (N+64)/\Nx D (RN D cl fin l):=by obtain⟨h1,h2⟩:=h.syn;have h3:gY ((vV D).sU cl fin l) (N+64):=⟨h1.ok.sU hv,h1.md,h1.n,fun _=>rfl⟩;exact⟨h3.VO.1,⟨h2.mono,h2.n,h2.fin⟩⟩
theorem yX{D:PD}{N:Nat}(h:gY D N)(K:Int->Int)(r:eY)(hs:r.code=0->T.Step D.n D.cl D.fin D.tr r.cl r.fin r.l):gY (xn K r D).2 (N+64)/\Nx D (xn K r D).2:=by
 unfold xn;by_cases h0:r.code=0
 ·rw[zj h0]; exact h.chg ((hs h0).valid h.ok.v)
 ·rw[zi h0]; exact⟨h.up (by omega),Nx.refl D⟩
def XC(c:Int):Int:=if c=15 then 5 else if c=1 then 4 else 7
def kCt(c:Int):Int:=if c=6 then 4 else 1
def kCs(c:Int):Int:=if c=15 then 5 else 1
theorem H9{D:PD}{N:Nat}(h:gY D N)(cnt pk:Int):(bZ D.n D.cl D.fin D.tr cnt pk).code=0->T.Step D.n D.cl D.fin D.tr (bZ D.n D.cl D.fin D.tr cnt pk).cl (bZ D.n D.cl D.fin D.tr cnt pk).fin (bZ D.n D.cl D.fin D.tr cnt pk).l:=(jG h.ok.v 0 cnt pk false).ok
theorem NI{D:PD}{N:Nat}(h:gY D N)(k:Int):(aY D.n D.cl D.fin D.tr k).code=0->T.Step D.n D.cl D.fin D.tr (aY D.n D.cl D.fin D.tr k).cl (aY D.n D.cl D.fin D.tr k).fin (aY D.n D.cl D.fin D.tr k).l:=(jG h.ok.v 2 k 0 false).ok
theorem NH{D:PD}{N:Nat}(h:gY D N)(fz:Bool):(bH D.n D.cl D.fin D.tr fz).code=0->T.Step D.n D.cl D.fin D.tr (bH D.n D.cl D.fin D.tr fz).cl (bH D.n D.cl D.fin D.tr fz).fin (bH D.n D.cl D.fin D.tr fz).l:=(jG h.ok.v 3 0 0 fz).ok
theorem XN{D:PD}{N:Nat}(h:gY D N)(cnt pk:Int):OpG D (bZ D.n D.cl D.fin D.tr cnt pk) XC (ja (ja (ja (ja (fun _=>none) 15 (.int .i64 5)) 1 (.int .i64 4)) 7 (.int .i64 7)) 12 (.int .i64 7)):=by
 have hs:=H9 h cnt pk;have hc:(bZ D.n D.cl D.fin D.tr cnt pk).code=0\/(bZ D.n D.cl D.fin D.tr cnt pk).code=1\/(bZ D.n D.cl D.fin D.tr cnt pk).code=7\/(bZ D.n D.cl D.fin D.tr cnt pk).code=12\/(bZ D.n D.cl D.fin D.tr cnt pk).code=15:=by
  unfold bZ;repeat (split; · simp[eY.bad])
  simp
 generalize bZ D.n D.cl D.fin D.tr cnt pk=r at *;refine⟨hs,fun h0=>?_,by omega,by omega⟩;rcases hc with e | e | e | e | e
 ·exact absurd e h0
 all_goals (rw[e]; rfl)
theorem abw{D:PD}{N:Nat}(h:gY D N)(k:Int):OpG D (aY D.n D.cl D.fin D.tr k) kCt (ja (ja (fun _=>none) 6 (.int .i64 4)) 8 (.int .i64 1)):=by
 have hs:=NI h k;have hV:=T.ay.2 h.ok.v;have hc:(aY D.n D.cl D.fin D.tr k).code=0\/(aY D.n D.cl D.fin D.tr k).code=6\/(aY D.n D.cl D.fin D.tr k).code=8:=by
  unfold aY;rw[zi (by rw[hV]; decide)];repeat (split; · simp[eY.bad])
  simp
 generalize aY D.n D.cl D.fin D.tr k=r at *;refine⟨hs,fun h0=>?_,by omega,by omega⟩;rcases hc with e | e | e
 ·exact absurd e h0
 all_goals (rw[e]; rfl)
theorem abv{D:PD}{N:Nat}(h:gY D N)(fz:Bool):OpG D (bH D.n D.cl D.fin D.tr fz) kCs (ja (ja (fun _=>none) 15 (.int .i64 5)) 8 (.int .i64 1)):=by
 have hs:=NH h fz;have hV:=T.ay.2 h.ok.v;have hc:(bH D.n D.cl D.fin D.tr fz).code=0\/(bH D.n D.cl D.fin D.tr fz).code=15\/(bH D.n D.cl D.fin D.tr fz).code=8:=by
  unfold bH;rw[zi (by rw[hV]; decide)];repeat (split; · simp[eY.bad])
  simp
 generalize bH D.n D.cl D.fin D.tr fz=r at *;refine⟨hs,fun h0=>?_,by omega,by omega⟩;rcases hc with e | e | e
 ·exact absurd e h0
 all_goals (rw[e]; rfl)
theorem YD{D:PD}{N:Nat}(h:gY D N){aj:Int}{L:List (List UInt8)}(hg:Lp L)(h0:(aZ D.n D.cl D.fin D.tr aj L.length).code=0):∀x ∈ lI aj L L.length,NQ x:=by
 obtain⟨k,hk,h1,h2,h3,h4,_⟩:=(jG h.ok.v 1 aj L.length false).app h0 rfl;have ha:=T.aQ.at h.ok.v hk;have hn:=h.ok.v.2.1;intro x hx;unfold lI at hx;rw[List.mem_map]at hx;obtain⟨i,hi,rfl⟩:=hx;rw[List.mem_range]at hi;refine⟨by dsimp only; omega,by dsimp only; omega,?_⟩;dsimp only;cases hp:Ar 2048 (bF [] L i) with
 | true=>have:=LJ hi hp; rw[hg.2.2]at this; cases this
 | false=>simpa[Ar]using hp
theorem Wi{cap cl:Int}{fin:Bool}{l:List T.az}{aj n:Int}(h0:(aZ cap cl fin l aj n).code=0):(aZ cap cl fin l aj n).fin=fin:=by
 revert h0;unfold aZ;split
 ·intro h; exact absurd h (by simp[eY.bad])
 ·split
  ·intro h; exact absurd h (by simp[eY.bad])
  ·split
   ·intro h; exact absurd h (by simp[eY.bad])
   ·split
    ·intro h; exact absurd h (by simp[eY.bad])
    ·intro _; rfl
theorem Vp{D:PD}{N:Nat}(h:gY D N){n:Nat}(hn:n<=64):gY (Aa n D).2 (N+64)/\Nx D (Aa n D).2/\(Aa n D).2.ca.length+n<=64/\(Aa n D).2.fin=D.fin/\(Aa n D).2.n=D.n:=by
 unfold Aa;by_cases h6:64<D.ca.length+n
 ·rw[zj h6];obtain⟨h1,h2⟩:=h.flush;exact⟨h1,h2,by simpa using hn,rfl,rfl⟩
 ·rw[zi h6];exact⟨h.up (by omega),Nx.refl D,by dsimp only; omega,rfl,rfl⟩
theorem Vq{D:PD}{N:Nat}(h:gY D N)(aj:Int)(L:List (List UInt8)):gY (IE aj L (aZ D.n D.cl D.fin D.tr aj L.length) D).2 (N+64)/\Nx D (IE aj L (aZ D.n D.cl D.fin D.tr aj L.length) D).2:=by
 have hb:gY D (N+64)/\Nx D D:=⟨h.up (by omega),Nx.refl D⟩;by_cases hg:Lp L;case neg=>rw[Zz hg]; exact hb
 cases hf:D.fin with
 | true=>rw[Zy hg hf]; exact hb
 | false=>
   have hw:=YD h (aj:=aj) hg;have ha:=Wi (cap:=D.n) (cl:=D.cl) (fin:=D.fin) (l:=D.tr) (aj:=aj) (n:=L.length);have hst:=(jG h.ok.v 1 aj L.length false).ok;rw[show doR D.n D.cl D.fin D.tr 1 aj L.length false=aZ D.n D.cl D.fin D.tr aj L.length from rfl]at hst;rw[hf]at hw ha hst;generalize aZ D.n D.cl false D.tr aj L.length=r at *;rw[NM hg hf];by_cases h0:r.code=0
   ·rw[zj h0];obtain⟨m1,m2,m3,m4,m5⟩:=Vp h hg.2.1;have hv:=(hst h0).valid (by rw[<-hf]; exact h.ok.v);refine⟨⟨⟨m1.ok.kind,m1.ok.md,?_,m1.ok.a,m1.ok.b,?_,?_⟩,m1.md,m1.n,fun e=>?_⟩,⟨m2.mono,m2.n,m2.fin⟩⟩
    ·show T.aQ (Aa L.length D).2.n r.cl r.fin r.l;rw[m5]; exact hv
    ·intro x hx;rcases List.mem_append.1 (show x ∈ (Aa L.length D).2.ca++lI aj L L.length from hx) with h1 | h1
     ·exact m1.ok.ca x h1
     ·exact hw h0 x h1
    ·show((Aa L.length D).2.ca++lI aj L L.length).length<=64;rw[List.length_append,Ih]; exact m3
    ·have e':r.fin=true:=e;rw[ha h0]at e'; cases e'
   ·rw[zi h0];split
    ·exact hb
    ·split <;> exact hb
def Be(a:Int)(l:List (Int×List UInt8)):Option (List UInt8):=l.foldl (fun o x=>if x.1=a then some x.2 else o) none
noncomputable def rdB(D:PD)(a:Int):List UInt8:=match Be a D.ca with
 | some d=>d
 | none=>lW D.M a.toNat
noncomputable def KC(D:PD)(aj:Int):Nat->Nat->List (List UInt8)->Rp
 | _,0,out=>⟨0,0,out,0,false,[]⟩
 | i,k+1,out=>if rdB D (aj+(i:Nat)) = [] then Rp.sense 6 (aj+(i:Nat)) else if rdB D (aj+(i:Nat)) = [33] then Rp.sense 2 (aj+(i:Nat)) else KC D aj (i+1) k (out++[rdB D (aj+(i:Nat))])
noncomputable def rdZ(aj cnt:Int)(D:PD):Rp:=if aj<0\/cnt<1\/(D.n:Int)<cnt\/(D.n:Int) - cnt<aj then Rp.sense 4 0 else KC D aj 0 cnt.toNat []
noncomputable def wP(k:Nat)(D:PD):aP:=if k<D.ca.length then((jm D.M (D.ca.take k)).1.pV (bF Ai D.ca k).1).2 else(jm D.M (D.ca.take k)).1
noncomputable def pwP(k:Nat)(D:PD):PD:=({ D with M:=wP k D,ca:=[] }:PD).sU (E1.jP D.n D.sA D.sB).1.cl (E1.jP D.n D.sA D.sB).1.fin (um (wP k D) (E1.jP D.n D.sA D.sB).1.l)
noncomputable def Zr(k:Nat)(D:PD):PD:=mX (pwP k D)
noncomputable def Kw(cnt:Int)(D:PD):Rp×PD:=if cnt<0 then(Rp.sense 4 0,D) else(Rp.ok,Zr (min cnt.toNat D.ca.length) D)
theorem zC{D:PD}{N:Nat}(h:gY D N)(k:Nat):fF (wP k D)/\jU D.M (wP k D)/\(wP k D).Ok (N+65)/\(D.fin=true->wP k D=D.M):=by
 have h8:∀x ∈ D.ca.take k,x.2.length=2048:=fun x hx=>h.ca8 x (List.mem_of_mem_take hx)
 obtain⟨h1,h2⟩:=h.md.jm (D.ca.take k) h8;have hok:=SX h.ok.md (D.ca.take k);have hle:(D.ca.take k).length<=64:=zT (by simp; omega) h.ok.n64;unfold wP;by_cases hk:k<D.ca.length
 ·rw[zj hk];obtain⟨h3,h4⟩:=h1.pV (bF Ai D.ca k).1;exact⟨h3,h2.trans h4,(hok.pV _).mono (by omega),fun hf=>by rw[h.fin hf]at hk; simp at hk⟩
 ·rw[zi hk];exact⟨h1,h2,hok.mono (by omega),fun hf=>by rw[h.fin hf,List.take_nil,MG]⟩
theorem Ut{D:PD}{N:Nat}(h:gY D N)(k:Nat):gY (pwP k D) (N+65):=by obtain⟨h1,h2,h3,h4⟩:=zC h k;have hv:=yT h.ok.v.1 h.ok.v.2.1 D.sA D.sB;exact⟨⟨h.ok.kind,h3,KH hv,h.ok.a,h.ok.b,fun x hx=>(by cases hx),Nat.zero_le _⟩,h1,h2.1.trans h.n,fun _=>rfl⟩
theorem G6{D:PD}{N:Nat}(h:gY D N)(k:Nat):gY (Zr k D) (N+65)/\Nx D (Zr k D):=by obtain⟨h1,h2,h3,h4⟩:=zC h k;exact⟨(Ut h k).VO.1,⟨h2,rfl,h4⟩⟩
noncomputable def iQ(k aj cnt aN pk:Int)(L:List (List UInt8))(D:PD):Rp×PD:=
 if k=0 then(rdZ aj cnt D,D) else if k=1 then IE aj L (aZ D.n D.cl D.fin D.tr aj L.length) D else if k=2 then(uC D,vV D)
 else if k=3 then xn XC (bZ D.n D.cl D.fin D.tr cnt pk) D else if k=4 then xn kCt (aY D.n D.cl D.fin D.tr aN) D else if k=5 then xn kCs (bH D.n D.cl D.fin D.tr (decide (cnt=1))) D
 else if k=6 then(Rp.sense 5 0,D) else if k=7 then(⟨0,0,[],D.cl,D.fin,D.tr⟩,D) else if k=8 then Kw cnt D else(Rp.sense 4 0,D)
theorem oW{D:PD}{N:Nat}(h:gY D N)(k aj cnt aN pk:Int)(L:List (List UInt8)):gY (iQ k aj cnt aN pk L D).2 (N+65)/\Nx D (iQ k aj cnt aN pk L D).2:=by
 have hb:gY D (N+65)/\Nx D D:=⟨h.up (by omega),Nx.refl D⟩;have up:∀{D':PD},gY D' (N+64)/\Nx D D'->gY D' (N+65)/\Nx D D':=fun h=>⟨h.1.up (by omega),h.2⟩
 unfold iQ;split
 ·exact hb
 split
 ·exact up (Vq h aj L)
 split
 ·exact up h.syn
 split
 ·exact up (yX h _ _ (H9 h cnt pk))
 split
 ·exact up (yX h _ _ (NI h aN))
 split
 ·exact up (yX h _ _ (NH h _))
 split
 ·exact hb
 split
 ·exact hb
 split
 ·unfold Kw;split
  ·exact hb
  ·exact G6 h _
 ·exact hb
theorem Fa{X R X2 R2:Nat->Prop}{w w':World}{B:Nat}(h:Ch X R X2 R2 w w')(hB:B<=w.heap.size)(hx:∀b,X b->B<=b):Below B w w':=
 { os:=h.os,tape:=h.tape,output:=h.output,size:=h.size,block:=fun b hb=>h.block b (zL hb hB) fun h1=>absurd (hx b h1) (Nat.not_le.2 hb) }
def BB(n:Nat):PD:=⟨1,n,dO 1 n 1,0,false,[],[],[],[]⟩
noncomputable def Aw(n:Nat):PD:=mX (BB n)
theorem Gw{n:Nat}(h1:1<=n)(h2:n<=4096):(BB n).Ok 0:=
 ⟨rfl,O3 (by decide) ⟨by decide,by decide⟩ ⟨h1,h2⟩,pW (by show(1:Int)<=(n:Nat); omega) (by show((n:Nat):Int)<=449849; omega),Nat.zero_le _,Nat.zero_le _,fun x hx=>(by cases hx),Nat.zero_le _⟩
theorem ZA{n:Nat}(h:n<=4096):wrap64 ((n:Int)+0)=n:=by unfold wrap64; omega
def Q8(n:Nat)(w:World)(e:Ending)(w':World):Prop:=∃p pm vt vc X R,e=.returned (.tuple #[.pointer (some ⟨p,0,none⟩),.int .i64 0])/\fH w' p (Aw n) pm none vt vc (fun _=>True) (fun _=>False) X R/\Below w.heap.size w w'/\∀b,DX p vc (fun _=>False) X b\/DR vt R b->w.heap.size<=b
theorem RY(n:Nat)(h1:1<=n)(h2:n<=4096)(w:World):Calls prog 16 #[.int .i64 1,.int .i64 (n:Nat),.int .i64 0,.int .i64 1] w (Q8 n w):=by
 have HN:Hid (Calls prog 34 #[.int .i64 1,.int .i64 (n:Nat),.int .i64 1] w (aag 1 n 1 w)):=zH (by
  have:=adz 1 (n:Nat) 1 ⟨.inl rfl,⟨by omega,by omega⟩,by decide,by decide⟩ w;rw[Int.toNat_natCast]at this;exact this)
 have ni:=zH (Gw h1 h2);have hw0:=ZA h2;have a1:¬ (n:Int)<1:=by omega
 have a2:¬ (4096:Int)<(n:Int):=by omega
 clear h1 h2;go_enter func16,ntmps16;go_wp2_with fail;refine HN.out.mono ?_;rintro e w1 ⟨g,X,R,rfl,hm,hb,hx⟩;have HM:=zH hm;have HB:=zH hb;have HX:=zH hx;clear hm hb hx a1 a2 hw0;go_upto_region 9 with (fail)
 obtain⟨w2,hw2⟩:∃w2,w2=w1.alloc (.cells (kS 1 n g none 0 false (.slice none 0 0) (str []) (str []) (.slice none 0 0)).toArray 101):=⟨_,rfl⟩;obtain⟨p,hp⟩:∃p,p=w1.heap.size:=⟨_,rfl⟩;have hA:=(zB w1.heap.size w1).alloc (zl _) (.cells (kS 1 n g none 0 false (.slice none 0 0) (str []) (str []) (.slice none 0 0)).toArray 101);have hbx:=Bx.new w1 101 (kS 1 n g none 0 false (.slice none 0 0) (str []) (str []) (.slice none 0 0));rw[<-hw2]at hA hbx;rw[<-hp]at hbx;obtain⟨L,hmc⟩:=HM.out;have hnx:¬ X p:=fun h=>by have:=hmc.lt p (.inl h); omega
 have hnr:¬ R p:=fun h=>by have:=hmc.lt p (.inr h); omega
 have hd:fH w2 p (BB n) g none (.slice none 0 0) (.slice none 0 0) (fun _=>True) (fun _=>False) X R:=
  ⟨hbx,HM.out.below hA,aW.nil w2,fun k hk=>(by cases hk),⟨rfl,.inl ⟨rfl,rfl⟩⟩,fun _ _=>trivial,fun b hb=>hb.elim,
   ⟨hnx,hnr,fun h=>h,fun b h=>h.elim,fun b h=>h.elim,fun k h=>(by cases h),fun k h=>(by cases h),fun k h=>(by cases h),fun k h=>(by cases h),fun k h=>(by cases h),fun k h=>(by cases h),fun k h=>(by cases h),fun k h=>(by cases h)⟩⟩
 have wC:=zH (En hd ni.out.fit.sU (Ch.refl (X:=DX p (.slice none 0 0) (fun _=>False) X) (R:=DR (.slice none 0 0) R)));have HB2:=zH (HB.out.trans (hA.mono HB.out.size));have VS:Hid (∀b,DX p (.slice none 0 0) (fun _=>False) X b\/DR (.slice none 0 0) R b->w.heap.size<=b):=zH fun b hb=>by
  rcases hb with (h1 | h1 | h1 | h1) | h1 | h1
  ·rw[h1,hp]; exact HB.out.size
  ·exact HX.out b (.inl h1)
  ·exact h1.elim
  ·cases h1
  ·exact HX.out b (.inr h1)
  ·cases h1
 have HW2:Hid (w1.alloc (.cells #[.int .i64 1,.int .i64 (n:Nat),.pointer (some ⟨g,0,none⟩),.pointer none,.int .i64 0,.bool false,.slice none 0 0,.string ⟨#[]⟩,.string ⟨#[]⟩,.slice none 0 0] 101)=w2):=zH hw2.symm;have HP:=zH hp;clear hw2 hp hA hbx hmc hnx hnr hd L;rw[HW2.out,<-HP.out];go_wp2_with fail;refine wC.out.mono ?_;rintro e w3 ⟨rfl,hd3,hc3⟩;have HD3:=zH hd3;have HC3:=zH (Fa hc3 HB2.out.size fun b hb=>VS.out b (.inl hb));clear hd3 hc3;go_wp2_with fail;go_ret2;exact⟨p,g,_,_,X,R,rfl,HD3.out,HB2.out.trans HC3.out,VS.out⟩
def bC(c:UInt8):List UInt8:=List.replicate 2048 c
theorem gp(c:UInt8):(bC c).length=2048:=List.length_replicate
def Sv(D:PD)(q:Nat)(cl:Int)(fin:Bool)(l:List T.az):Prop:=E1.EL D.n D.sA D.sB q cl fin l\/E1.EL D.n D.sB D.sA q cl fin l
theorem Sv.VO{D:PD}{q:Nat}{cl:Int}{fin:Bool}{l:List T.az}(h:Sv D q cl fin l)(hv:T.aQ D.n D.cl D.fin D.tr)(hq:q<1000):Sv (mX D) (q+1) D.cl D.fin D.tr:=by
 rcases h with h | h
 ·obtain⟨h1,_,h3,_⟩:=h.save hv hq;have e:qW D=(D.sA,E1.dA ((q+1:Nat):Int) D.cl D.fin D.tr):=by unfold qW; rw[h1]; rfl
  right;unfold mX;rw[e];exact h3
 ·obtain⟨_,h2,h3,_⟩:=h.save hv hq;have e:qW D=(E1.dA ((q+1:Nat):Int) D.cl D.fin D.tr,D.sB):=by unfold qW; rw[h2]; rfl
  left;unfold mX;rw[e];exact h3
theorem Sv.afm{D:PD}{q:Nat}{cl cl':Int}{fin fin':Bool}{l l':List T.az}(h:Sv D q cl fin l)(hv:T.aQ D.n D.cl D.fin D.tr)(hq:q<1000)(e1:D.cl=cl')(e2:D.fin=fin')(e3:D.tr=l'):Sv (mX D) (q+1) cl' fin' l':=by subst e1 e2 e3;exact h.VO hv hq
theorem Sv.load{D:PD}{q:Nat}{cl:Int}{fin:Bool}{l:List T.az}(h:Sv D q cl fin l):(E1.jP D.n D.sA D.sB).1=⟨cl,fin,l,0⟩:=by
 rcases h with h | h
 ·rw[h.load.1]
 ·rw[h.load.2]
structure QC (D:PD) (N q:Nat) (l ls:List T.az) (M:aP) (ca:List (Int×List UInt8)):Prop where
 ok:gY D N
 n:D.n=100
 cl:D.cl=0
 fin:D.fin=false
 tr:D.tr=l
 sv:Sv D q 0 false ls
 m:D.M=M
 ca:D.ca=ca
theorem QC.v{D:PD}{N q:Nat}{l ls:List T.az}{M:aP}{ca:List (Int×List UInt8)}(h:QC D N q l ls M ca):T.aQ 100 0 false l:=by have:=h.ok.ok.v;rw[h.n,h.cl,h.fin,h.tr]at this;exact this
def ta0:T.az:=⟨1,1,0,50,0,0,0⟩
def ta1:T.az:=⟨1,1,0,50,2,1,0⟩
def ta2:T.az:=⟨1,1,0,50,4,1,0⟩
theorem Nb{n:Nat}(h1:1<=n)(h2:n<=4096):gY (Aw n) 0:=by
 have hs:∀i,aak i (dO 1 n 1 |>.sec i):=fun i=>by rw[sF];exact⟨by decide,fun _=>rfl,fun h=>absurd h (by decide),fun _=>rfl,fun _=>rfl⟩
 have h0:gY (BB n) 0:=⟨Gw h1 h2,⟨rfl,rfl,rfl,fun i _=>hs i⟩,by simp[BB,dO,aP.n],fun h=>by cases h⟩;exact h0.VO.1
theorem aas:QC (Aw 100) 0 0 [] [] (dO 1 100 1) []:=by
 refine⟨Nb (by decide) (by decide),rfl,rfl,rfl,rfl,?_,rfl,rfl⟩;obtain⟨h1,h2⟩:=E1.KO (cap:=100) (by decide) (by decide);have e:qW (BB 100)=(E1.dA ((0:Nat):Int) 0 false [],[]):=by unfold qW;show(if (E1.jR 100 [] [] 0 false []).2=0 then(E1.jR 100 [] [] 0 false []).1 else _)=_;rw[h1]; rfl
 left;unfold Aw mX;rw[e];exact h2
theorem aat{D:PD}{N q:Nat}{M:aP}(h:QC D N q [] [] M [])(hq:q+2<1000):(iQ 3 0 50 0 0 [] D).1=Rp.ok/\QC (iQ 3 0 50 0 0 [] D).2 (N+65) (q+2) [ta0] [ta0] M []:=by
 have hn:=(oW h.ok 3 0 50 0 0 []).1;have hr:bZ D.n D.cl D.fin D.tr 50 0=⟨0,false,[ta0],0⟩:=by rw[h.n,h.cl,h.fin,h.tr];unfold bZ;have hv:T.aF 100 0 false []=true:=T.ay.2 h.v;rw[zi (by show ¬ T.aF 100 0 false []=false; rw[hv]; decide),zi (by decide),zi (not_not_intro ⟨by decide,by decide,by decide,fun h=>absurd h (by decide)⟩),zi (by simp),zi (by simp[T.qN])];rfl
 have e:iQ 3 0 50 0 0 [] D=(uC D,RN D 0 false [ta0]):=by unfold iQ;rw[zi (by decide),zi (by decide),zi (by decide),zj rfl,hr];unfold xn;rw[zj rfl]
 rw[e]at hn ⊢;have hfl:jm D.M D.ca=(D.M,0,true):=by rw[h.ca]; rfl
 refine⟨by show uC D=Rp.ok; unfold uC; rw[hfl]; rfl,hn,h.n,rfl,rfl,rfl,?_,?_,rfl⟩
 ·have s1:Sv (vV D) (q+1) D.cl D.fin D.tr:=by have:Sv { D with M:=(jm D.M D.ca).1,ca:=[] } q 0 false []:=h.sv;exact this.VO h.ok.ok.v (by omega)
  have s2:Sv ((vV D).sU 0 false [ta0]) (q+1) D.cl D.fin D.tr:=s1;exact s2.VO (hn.ok.v) (by omega)
 ·show(jm D.M D.ca).1=M;rw[hfl,h.m]
theorem Ro{D:PD}{N q:Nat}{M:aP}{t:T.az}{ls:List T.az}(h:QC D N q [t] ls M [])(aj:Int)(L:List (List UInt8))(hst:t.cZ≠2)(hnx:t.nx=aj)(hpk:t.pk=0)(hL:L.length=2)(h8:∀i,i<L.length->(bF [] L i).length=2048)(hrm:t.nx+2<=t.st+t.len):
 (iQ 1 aj 0 0 0 L D).1=Rp.ok/\QC (iQ 1 aj 0 0 0 L D).2 (N+65) q [T.grown t 2] ls M [(aj,bF [] L 0),(aj+1,bF [] L 1)]:=by
 have hn:=(oW h.ok 1 aj 0 0 0 L).1;have hv:T.aF 100 0 false [t]=true:=T.ay.2 h.v;have hr:aZ D.n D.cl D.fin D.tr aj L.length=⟨0,false,[T.grown t 2],0⟩:=by
  rw[h.n,h.cl,h.fin,h.tr,hL];have hf:jI [t] aj [t].length=some 0:=by show(if (T.tr [t] 0).cZ≠2/\(T.tr [t] 0).nx=aj then some 0 else none)=some 0;rw[zj ⟨hst,hnx⟩]
  show aZ 100 0 false [t] aj 2=_;rw[sZ hv hf];have e0:T.tr [t] 0=t:=rfl;rw[e0,zi (not_not_intro ⟨by decide,by rw[hpk]; decide,by rw[hpk]; decide,fun h=>by rw[hpk]at h; exact absurd h (by decide)⟩),zi (by omega)];rfl
 have hg:Lp L:=⟨by omega,by omega,CU fun i hi=>by simp[Ar,h8 i hi]⟩;have e:iQ 1 aj 0 0 0 L D=((Aa L.length D).1,({ (Aa L.length D).2 with ca:=(Aa L.length D).2.ca++lI aj L L.length }:PD).sU 0 false [T.grown t 2]):=by unfold iQ;rw[zi (by decide),zj rfl,hr,NM hg h.fin,zj rfl]
 have em:Aa L.length D=(Rp.ok,D):=by unfold Aa; rw[h.ca,hL,zi (by simp)]
 rw[em]at e;rw[e]at hn ⊢;refine⟨rfl,hn,h.n,rfl,rfl,rfl,h.sv,h.m,?_⟩;show D.ca++lI aj L L.length=_;rw[h.ca,hL];simp[lI,List.range_succ]
theorem aar{D:PD}{N q:Nat}{M:aP}{t:T.az}{ls:List T.az}{ca:List (Int×List UInt8)}(h:QC D N q [t] ls M ca)(aj:Int)(L:List (List UInt8))(hnx:t.nx≠aj)(h1:1<=L.length)(h2:L.length<=64)(h8:∀i,i<L.length->(bF [] L i).length=2048):iQ 1 aj 0 0 0 L D=(Rp.sense 6 aj,D):=by
 have hv:T.aF 100 0 false [t]=true:=T.ay.2 h.v;have hr:aZ D.n D.cl D.fin D.tr aj L.length=eY.bad 2:=by rw[h.n,h.cl,h.fin,h.tr];refine sW hv ?_;show(if (T.tr [t] 0).cZ≠2/\(T.tr [t] 0).nx=aj then some 0 else none)=none;rw[zi fun hh=>hnx hh.2]
 have hg:Lp L:=⟨h1,h2,CU fun i hi=>by simp[Ar,h8 i hi]⟩;unfold iQ;rw[zi (by decide),zj rfl,hr,NM hg h.fin,zi (by simp[eY.bad]),zj (show(eY.bad 2).code=2 from rfl)]
theorem Nu{M:aP}(h:fF M){i:Nat}(hi:i<M.n)(h0:(M.sec i).st=0)(d:List UInt8):qX M ((i:Nat),d)=(M.put i { M.sec i with st:=1,cnt:=(M.sec i).cnt+1,raw:=T7.rec (i:Nat) d,ch:=fun _=>0 },true):=by
 have e:T7.pO M ((i:Nat),d)=(0,M.put i { M.sec i with st:=1,cnt:=(M.sec i).cnt+1,raw:=T7.rec (i:Nat) d,ch:=fun _=>0 }):=by unfold T7.pO aP.record;dsimp only;rw[zj (by omega),zj (Ec _ _),Int.toNat_natCast,h.write 1 _ hi,zi (not_not_intro h0)]
 unfold qX;rw[e];rfl
structure ES (M:aP) (k:Nat) (b:Nat->List UInt8):Prop where
 wo:fF M
 n:M.n=100
 r:∀i,i<k->(M.sec i).st=1/\(M.sec i).raw=T7.rec (i:Nat) (b i)
 z:∀i,k<=i->(M.sec i).st=0
theorem ES.next{M:aP}{k:Nat}{b:Nat->List UInt8}(h:ES M k b)(hk:k<100)(hb:(b k).length=2048):(qX M ((k:Nat),b k)).2=true/\ES (qX M ((k:Nat),b k)).1 (k+1) b:=by
 have hkn:k<M.n:=by rw[h.n]; exact hk
 rw[Nu h.wo hkn (h.z k (zl _))];refine⟨rfl,?_⟩;have hw:=h.wo.pO ((k:Nat),b k) hb;have e:(T7.pO M ((k:Nat),b k)).2=M.put k { M.sec k with st:=1,cnt:=(M.sec k).cnt+1,raw:=T7.rec (k:Nat) (b k),ch:=fun _=>0 }:=by show(qX M ((k:Nat),b k)).1=_;rw[Nu h.wo hkn (h.z k (zl _))]
 rw[e]at hw;refine⟨hw.1,hw.2.1.trans h.n,fun i hi=>?_,fun i hi=>?_⟩
 ·by_cases e2:i=k
  ·subst e2;rw[aP.qH _ _ hkn];dsimp only;exact⟨rfl,rfl⟩
  ·rw[aP.kJ _ _ e2];exact h.r i (by omega)
 ·rw[aP.kJ _ _ (by omega)];exact h.z i (by omega)
theorem Xf{M:aP}{x y:Int×List UInt8}(h1:(qX M x).2=true)(h2:(qX (qX M x).1 y).2=true):jm M [x,y]=((qX (qX M x).1 y).1,0,true):=by
 unfold jm JB;rw[List.foldl_cons,List.foldl_cons,List.foldl_nil];have e1:JC qX (M,0,true) x=((qX M x).1,0,true):=by unfold JC; rw[zj h1]
 rw[e1];unfold JC;rw[zj h2]
theorem Xe{M:aP}{x:Int×List UInt8}(h1:(qX M x).2=true):jm M [x]=((qX M x).1,0,true):=by unfold jm JB;rw[List.foldl_cons,List.foldl_nil];unfold JC;rw[zj h1]
theorem Wl{D:PD}{N q:Nat}{M:aP}{l ls:List T.az}{x y:Int×List UInt8}(h:QC D N q l ls M [x,y])(h1:(qX M x).2=true)(h2:(qX (qX M x).1 y).2=true)(hq:q+1<1000):
 (iQ 2 0 0 0 0 [] D).1=Rp.ok/\QC (iQ 2 0 0 0 0 [] D).2 (N+65) (q+1) l l (qX (qX M x).1 y).1 []:=by
 have hn:=(oW h.ok 2 0 0 0 0 []).1;have e:iQ 2 0 0 0 0 [] D=(uC D,vV D):=by unfold iQ;rw[zi (by decide),zi (by decide),zj rfl]
 rw[e]at hn ⊢;have hfl:jm D.M D.ca=((qX (qX M x).1 y).1,0,true):=by rw[h.m,h.ca]; exact Xf h1 h2
 refine⟨by show uC D=Rp.ok; unfold uC; rw[hfl]; rfl,hn,h.n,h.cl,h.fin,h.tr,?_,?_,rfl⟩
 ·have:Sv { D with M:=(jm D.M D.ca).1,ca:=[] } q 0 false ls:=h.sv;exact this.afm h.ok.ok.v (by omega) h.cl h.fin h.tr
 ·show(jm D.M D.ca).1=_;rw[hfl]
theorem Gu{M:aP}{a:Nat}(ha:(M.eu ((0:Int)+(a:Nat))).1≠0):∀k,a+1<=k->(∀j,a+1<=j->j<k->(M.eu ((0:Int)+(j:Nat))).1=0)->iE M 0 k=a+1
 | 0,h,_=>by omega
 | k+1,h,hz=>by
   show(if (M.eu ((0:Int)+(k:Nat))).1=0 then iE M 0 k else k+1)=a+1;by_cases e:k=a
   ·subst e; rw[zi ha]
   ·rw[zj (hz k (by omega) (by omega))];exact Gu ha k (by omega) fun j h1 h2=>hz j h1 (by omega)
def bA(i:Nat):List UInt8:=if i=0 then bC 97 else if i=1 then bC 98 else bC 99
theorem Rq{D:PD}{N q:Nat}{M:aP}{l:List T.az}{d:List UInt8}(h:QC D N q l [ta1] M [(2,bA 2),(3,d)])(hs:ES M 2 bA)(hq:q+1<1000):
 (iQ 8 0 1 0 0 [] D).1=Rp.ok/\gY (iQ 8 0 1 0 0 [] D).2 (N+65)/\(iQ 8 0 1 0 0 [] D).2.n=100/\(iQ 8 0 1 0 0 [] D).2.tr = [ta2]/\
  ∀i,i<100->lW (iQ 8 0 1 0 0 [] D).2.M i=if i<3 then bA i else if i=3 then [33] else []:=by
 have hn:=(oW h.ok 8 0 1 0 0 []).1;have hmin:min (1:Int).toNat D.ca.length=1:=by rw[h.ca]; rfl
 have e:iQ 8 0 1 0 0 [] D=(Rp.ok,Zr 1 D):=by unfold iQ;rw[zi (by decide),zi (by decide),zi (by decide),zi (by decide),zi (by decide),zi (by decide),zi (by decide),zi (by decide),zj rfl];unfold Kw;rw[zi (by decide),hmin]
 rw[e]at hn ⊢;obtain⟨r1,r2⟩:=hs.next (k:=2) (by decide) (gp _);obtain⟨M2,hM2⟩:∃M2,M2=(qX M (((2:Nat):Int),bA 2)).1:=⟨_,rfl⟩;rw[<-hM2]at r2;have ht:M2.pV 3=(0,M2.put 3 { M2.sec 3 with st:=2,cnt:=(M2.sec 3).cnt+1,raw:=[],ch:=fun _=>0 }):=by
  unfold aP.pV;have hn3:(3:Nat)<M2.n:=by rw[r2.n]; decide
  rw[zj (by rw[r2.n]; decide)];show M2.write 3 2 []=_;rw[r2.wo.write 2 [] hn3,zi (not_not_intro (r2.z 3 (zl _)))]
 have hpm:wP 1 D=M2.put 3 { M2.sec 3 with st:=2,cnt:=(M2.sec 3).cnt+1,raw:=[],ch:=fun _=>0 }:=by unfold wP;rw[h.ca,h.m,zj (by simp)];have e1:jm M [((2:Int),bA 2)]=((qX M (((2:Nat):Int),bA 2)).1,0,true):=Xe r1;show((jm M [((2:Int),bA 2)]).1.pV 3).2=_;rw[e1,<-hM2,ht]
 have h3n:3<M2.n:=by rw[r2.n]; decide
 have hst:∀i,i<100->(wP 1 D).eu ((0:Int)+(i:Nat))=((((wP 1 D).sec i).st:Int),0):=fun i hi=>by unfold aP.eu;rw[zj (by rw[hpm,aP.zA,r2.n]; omega)];simp
 have hs3:((wP 1 D).sec 3).st=2:=by rw[hpm,aP.qH _ _ h3n]
 have hso:∀i,i≠3->(wP 1 D).sec i=M2.sec i:=fun i hi=>by rw[hpm,aP.kJ _ _ hi]
 have hrl:(E1.jP D.n D.sA D.sB).1=⟨0,false,[ta1],0⟩:=h.sv.load;refine⟨rfl,hn,h.n,?_,fun i hi=>?_⟩
 ·show um (wP 1 D) (E1.jP D.n D.sA D.sB).1.l = [ta2];rw[hrl];show [jL (wP 1 D) ta1] = [ta2];have hl:iE (wP 1 D) 0 50=4:=Gu (a:=3) (by rw[hst 3 (by decide),hs3]; decide) 50 (by decide) fun j h1 h2=>by rw[hst j (by omega),hso j (by omega)];show(((M2.sec j).st:Nat):Int)=0;rw[r2.z j (by omega)]; rfl
  have hx:jQ (wP 1 D) ta1=4:=by unfold jQ;rw[zi (by decide)];show(0:Int)+(iE (wP 1 D) 0 50:Nat)=4;rw[hl]; rfl
  unfold jL;rw[zi (by decide),hx];rfl
 ·show lW (wP 1 D) i=_;unfold lW imS;by_cases h3:i=3
  ·subst h3;rw[zi (by rw[hs3]; decide),zi (by rw[hs3]; decide),zi (by decide),zj rfl]
  ·rw[hso i h3];by_cases hlt:i<3
   ·obtain⟨a1,a2⟩:=r2.r i hlt;rw[zi (by rw[a1]; decide),zj a1,a2,zj hlt];exact Ns (by omega) (by omega) (by unfold bA; split <;> first | exact gp _ | (split <;> exact gp _))
   ·rw[zj (r2.z i (by omega)),zi hlt,zi h3]
structure abR (s0 s1 s2 s3 s5 s6:PD):Prop where
 e0:s0=Aw 100
 o0:gY s0 1000
 r1:iQ 3 0 50 0 0 [] s0=(Rp.ok,s1)
 o1:gY s1 1000
 r2:iQ 1 0 0 0 0 [bC 97,bC 98] s1=(Rp.ok,s2)
 o2:gY s2 1000
 r3:iQ 2 0 0 0 0 [] s2=(Rp.ok,s3)
 o3:gY s3 1000
 r4:iQ 1 1 0 0 0 [bC 99] s3=(Rp.sense 6 1,s3)
 r5:iQ 1 2 0 0 0 [bC 99,bC 100] s3=(Rp.ok,s5)
 o5:gY s5 1000
 r6:iQ 8 0 1 0 0 [] s5=(Rp.ok,s6)
 o6:gY s6 1000
 n:s6.n=100
 tr:s6.tr = [ta2]
 im:∀i,i<100->lW s6.M i=if i<3 then bA i else if i=3 then [33] else []
theorem ui{α β:Type}{x:α×β}{a:α}(h:x.1=a):x=(a,x.2):=by rw[<-h]
theorem aaq:∃s0 s1 s2 s3 s5 s6,abR s0 s1 s2 s3 s5 s6:=by
 have a0:=aas;obtain⟨p1,a1⟩:=aat a0 (by decide);have hL1:∀i,i < [bC 97,bC 98].length->(bF [] [bC 97,bC 98] i).length=2048:=fun i hi=>by
  match i,hi with
  | 0,_=>exact gp _
  | 1,_=>exact gp _
 have hL3:∀i,i < [bC 99,bC 100].length->(bF [] [bC 99,bC 100] i).length=2048:=fun i hi=>by
  match i,hi with
  | 0,_=>exact gp _
  | 1,_=>exact gp _
 have hL2:∀i,i < [bC 99].length->(bF [] [bC 99] i).length=2048:=fun i hi=>by
  match i,hi with
  | 0,_=>exact gp _
 obtain⟨p2,a2⟩:=Ro a1 0 [bC 97,bC 98] (by decide) rfl rfl rfl hL1 (by decide);have hs0:ES (dO 1 100 1) 0 bA:=⟨a0.m ▸ a0.ok.md,by simp[dO,aP.n],fun i hi=>by omega,fun i _=>by rw[sF]; rfl⟩;obtain⟨q1,hs1⟩:=hs0.next (by decide) (gp _);obtain⟨q2,hs2⟩:=hs1.next (by decide) (gp _);obtain⟨p3,a3⟩:=Wl a2 q1 q2 (by decide);have a3':QC (iQ 2 0 0 0 0 [] (iQ 1 0 0 0 0 [bC 97,bC 98] (iQ 3 0 50 0 0 [] (Aw 100)).2).2).2 _ _ [ta1] [ta1] _ []:=a3;have p4:=aar a3' 1 [bC 99] (by decide) (by simp) (by simp) hL2;obtain⟨p5,a5⟩:=Ro a3' 2 [bC 99,bC 100] (by decide) rfl rfl rfl hL3 (by decide);obtain⟨p6,a6,n6,t6,i6⟩:=Rq (d:=bC 100) a5 hs2 (by decide);exact⟨_,_,_,_,_,_,rfl,a0.ok.up (by omega),ui p1,a1.ok.up (by omega),ui p2,a2.ok.up (by omega),ui p3,a3.ok.up (by omega),p4,ui p5,a5.ok.up (by omega),ui p6,a6.up (by omega),n6,t6,i6⟩
end T7
end Go.Proofs.YtfnehkmhcmkhjaaGreat
