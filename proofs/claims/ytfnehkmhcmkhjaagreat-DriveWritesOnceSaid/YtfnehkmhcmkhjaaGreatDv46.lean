/- Parts:XLe XLf XLh -/
import Derived.Test.YtfnehkmhcmkhjaaGreatDvAl
import Derived.Test.YtfnehkmhcmkhjaaGreatDv45
import Derived.Test.YtfnehkmhcmkhjaaGreatDv44
set_option maxRecDepth 100000
set_option maxHeartbeats 8000000
set_option linter.unusedVariables false
set_option linter.unusedSimpArgs false
namespace Go.Proofs.YtfnehkmhcmkhjaaGreat
open Tryz
namespace T7
open Go Go.RowKit C9 oH
theorem JQ(n i k:Nat):Bv n [] i k=false:=by
 have e:∀m,yU [] m = []:=fun m=>nM (fun f=>by
  have:Dl [] f 28 = []:=by simp[Dl,gon]
  rw[ers,this]; decide) m
 simp[Bv,MZ,e]
theorem fF.gone{M:aP}(h:fF M){i:Nat}(hi:i<M.n):M.gone i = []:=by
 have hz:M.rq i=fun _=>false:=by funext k;unfold aP.rq;rw[(h.sec i hi).er k,h.scr,JQ]; rfl
 unfold aP.gone;rw[hz];simp
theorem aav{w:World}{p pm N:Nat}{M:aP}{X R:Nat->Prop}(hm:gZ w pm M X R)(ho:M.Ok N)(hw:fF M)(c2:w.cell? ⟨p,2,none⟩=some (.pointer (some ⟨pm,0,none⟩)))(c3:w.cell? ⟨p,3,none⟩=some (.pointer none)){i:Nat}(hi:i<M.n):
 Calls prog 31 #[.pointer (some ⟨p,0,none⟩),.int .i64 (i:Nat)] w fun e w'=>e=.returned (.string (str (lW M i)))/\Below w.heap.size w w':=by
 have hP:Calls prog 43 #[.pointer (some ⟨p,0,none⟩),.int .i64 (i:Nat)] w fun e w'=>e=.returned (.int .i64 (i:Nat))/\Below w.heap.size w w':=(sG c3 (i:Nat)).mono fun e w' h=>⟨h.1,by rw[<-h.2]; exact zB _ _⟩
 have h4:=ho.n.2;by_cases h0:(M.sec i).st=0
 ·have e:lW M i = []:=by unfold lW imS; rw[zj h0]
  rw[e];exact Oa hm ho c2 hP hi h0
 ·by_cases h1:(M.sec i).st=1
  ·obtain⟨d,hd,hr⟩:=(hw.sec i hi).r h1;have e:lW M i=d:=by unfold lW imS; rw[zi h0,zj h1,hr]; exact Ns (by omega) (by omega) hd
   rw[e];exact Ob hm ho c2 hP ⟨hi,hd,by omega,by omega,h1,hr,fun k _=>(hw.sec i hi).ch k,hw.gone hi⟩
  ·have e:lW M i = [33]:=by unfold lW imS; rw[zi h0,zi h1]
   rw[e];exact RD hm ho c2 hP hi (by omega)
section
variable {w w0:World} {p pm N:Nat} {D:PD} {vt vc:Value} {E:World->Prop} {EX Xm Rm X0 R0:Nat->Prop}
theorem fH.blk(h:fH w p D pm none vt vc E EX Xm Rm)(ho:gY D N){a:Nat}(ha:a<D.n):Calls prog 31 #[.pointer (some ⟨p,0,none⟩),.int .i64 (a:Nat)] w fun e w'=>e=.returned (.string (str (lW D.M a)))/\Below w.heap.size w w':=
 aav h.med ho.ok.md ho.md (h.cells).2.2.1 (h.cells).2.2.2.1 (by rw[ho.n]; exact ha)
theorem Xv(h:fH w p D pm none vt vc E EX Xm Rm)(ho:gY D N):
 Calls prog 12 #[.pointer (some ⟨p,0,none⟩)] w fun e w'=>∃g,e=.returned (.slice (some ⟨g,0,none⟩) D.n D.n)/\w'.ownsRow w.heap.size 9 1 (.slice (some ⟨g,0,none⟩) D.n D.n) D.n (fK wU (qV (lW D.M) D.n))/\Below w.heap.size w w':=
 aa9 (lW D.M) (by have:=ho.ok.md.n.2; rw[ho.n]at this; exact this) (h.cells).2.1 fun i hi W hW=>(h.below hW).blk ho hi
theorem CG.up{N K:Nat}{r:Rp}{D:PD}{df:Option Addr}{e:Ending}{w':World}(h:CG w0 X0 R0 p pm df E EX N r D e w')(hk:N<=K):CG w0 X0 R0 p pm df E EX K r D e w':=by obtain⟨v,vt,vc,X2,R2,he,hv,hd,hc,ho⟩:=h;exact⟨v,vt,vc,X2,R2,he,hv,hd,hc,ho.mono hk⟩
theorem Vr(aj:Int)(L:List (List UInt8))(r:eY):(IE aj L r D).1.bl = []/\(IE aj L r D).1.tr = []:=by
 unfold IE;repeat (first | (split; · exact⟨rfl,rfl⟩) | (split; · unfold Aa nJ; split <;> (try split) <;> exact⟨rfl,rfl⟩))
 exact⟨rfl,rfl⟩
theorem Dt(aj:Int)(b:Bool):(nJ aj b).bl = []/\(nJ aj b).tr = []:=by unfold nJ; split <;> exact⟨rfl,rfl⟩
theorem vG(K:Int->Int)(r:eY):(xn K r D).1.bl = []/\(xn K r D).1.tr = []:=by
 unfold xn;split
 ·exact Dt _ _
 ·exact⟨rfl,rfl⟩
theorem D9(cnt:Int):(Kw cnt D).1.bl = []/\(Kw cnt D).1.tr = []:=by unfold Kw; split <;> exact⟨rfl,rfl⟩
theorem aeZ(h:fH w p D pm none vt vc E EX Xm Rm)(hc:Ch X0 R0 (DX p vc EX Xm) (DR vt Rm) w0 w)(ho:gY D N)(hN:N<=4611686018427380000)
 (k aj cnt aN pk:Int)(ik:In64 k)(il:In64 aj)(ic:In64 cnt)(a5:Option Addr)(c5:Nat)(L:List (List UInt8))(hL:gU w (.slice a5 L.length c5) L)(hLx:1<=L.length->∀b,(Value.slice a5 L.length c5).ownBlock=some b->b<w.heap.size/\¬ DX p vc EX Xm b)(hn:L.length<=9223372036854775807)(hz:∀x ∈ L,x.length<=9223372036854775807):
 Calls prog 13 #[.pointer (some ⟨p,0,none⟩),dR k aj cnt aN pk (.slice a5 L.length c5)] w (CG w0 X0 R0 p pm none E EX (N+65) (iQ k aj cnt aN pk L D).1 (iQ k aj cnt aN pk L D).2):=by
 have hk:-9223372036854775808<=k/\k<=9223372036854775807:=ik;have hR:=fun W=>Ch.refl (w:=W) (X:=DX p vc EX Xm) (R:=DR vt Rm)
 by_cases k0:k=0
 ·subst k0;have e:iQ 0 aj cnt aN pk L D=(rdZ aj cnt D,D):=by unfold iQ; rw[zj rfl]
  rw[e];refine nI h hc 0 aj cnt aN pk hk a5 L.length c5 76 (fun _ _=>by kernel_rfl) rfl fun W hW hd=>?_
  by_cases hb:aj<0\/cnt<1\/(D.n:Int)<cnt\/(D.n:Int) - cnt<aj
  ·have e2:rdZ aj cnt D=Rp.sense 4 0:=by unfold rdZ; rw[zj hb]
   rw[e2];exact(UC hd (hR W) ho 0 aj cnt aN pk il ic a5 L.length c5 hb).mono fun e w' hf=>(hf.QR rfl rfl).up (by omega)
  ·obtain⟨lb,hlb⟩:∃n:Nat,aj=n:=⟨aj.toNat,by omega⟩;obtain⟨m,hm⟩:∃n:Nat,cnt=n:=⟨cnt.toNat,by omega⟩;have e2:rdZ aj cnt D=KC D aj 0 m []:=by unfold rdZ; rw[zi hb,hm,Int.toNat_natCast]
   rw[e2];exact(Yd hd (hR W) ho 0 aj cnt aN pk il ic a5 L.length c5 lb m hlb hm (by omega) (by omega) (by omega) (fun W2 h2 a ha=>(hd.below h2).blk ho ha)).mono fun e w' hf=>hf.up (by omega)
 by_cases k1:k=1
 ·subst k1;have e:iQ 1 aj cnt aN pk L D=IE aj L (aZ D.n D.cl D.fin D.tr aj L.length) D:=by unfold iQ; rw[zi (by decide),zj rfl]
  rw[e];refine nI h hc 1 aj cnt aN pk hk a5 L.length c5 77 (fun _ _=>by kernel_rfl) rfl fun W hW hd=>?_
  exact(YI hd (hR W) ho.ok hN 1 aj cnt aN pk il a5 c5 L (dX.keep hL hW) (fun h1 b hb=>⟨zL (hLx h1 b hb).1 hW.size,(hLx h1 b hb).2⟩) hn hz _ rfl).mono fun e w' hf=>(hf.QR (Vr _ _ _).1 (Vr _ _ _).2).up (by omega)
 by_cases k2:k=2
 ·subst k2;have e:iQ 2 aj cnt aN pk L D=(uC D,vV D):=by unfold iQ; rw[zi (by decide),zi (by decide),zj rfl]
  rw[e];refine nI h hc 2 aj cnt aN pk hk a5 L.length c5 78 (fun _ _=>by kernel_rfl) rfl fun W hW hd=>?_
  refine(U8 hd (hR W) ho.ok.kind ho.ok.fit hN 2 aj cnt aN pk a5 L.length c5).mono fun e w' hf=>?_
  obtain⟨X2,R2,he,hd2,hc2,ho2⟩:=hf;exact(oK.QR ⟨vt,_,X2,R2,he,hd2,hc2,ho2.mono (by omega)⟩ (Dt _ _).1 (Dt _ _).2)
 by_cases k3:k=3
 ·subst k3;have e:iQ 3 aj cnt aN pk L D=xn XC (bZ D.n D.cl D.fin D.tr cnt pk) D:=by unfold iQ; rw[zi (by decide),zi (by decide),zi (by decide),zj rfl]
  rw[e];refine nI h hc 3 aj cnt aN pk hk a5 L.length c5 79 (fun _ _=>by kernel_rfl) rfl fun W hW hd=>?_
  exact(aaA hd (hR W) ho.ok hN 3 aj cnt aN pk ic a5 L.length c5 XC _ rfl (XN ho cnt pk)).mono fun e w' hf=>(hf.QR (vG _ _).1 (vG _ _).2).up (by omega)
 by_cases k4:k=4
 ·subst k4;have e:iQ 4 aj cnt aN pk L D=xn kCt (aY D.n D.cl D.fin D.tr aN) D:=by unfold iQ; rw[zi (by decide),zi (by decide),zi (by decide),zi (by decide),zj rfl]
  rw[e];refine nI h hc 4 aj cnt aN pk hk a5 L.length c5 80 (fun _ _=>by kernel_rfl) rfl fun W hW hd=>?_
  exact(acM hd (hR W) ho.ok hN 4 aj cnt aN pk a5 L.length c5 kCt _ rfl (abw ho aN)).mono fun e w' hf=>(hf.QR (vG _ _).1 (vG _ _).2).up (by omega)
 by_cases k5:k=5
 ·subst k5;have e:iQ 5 aj cnt aN pk L D=xn kCs (bH D.n D.cl D.fin D.tr (decide (cnt=1))) D:=by unfold iQ; rw[zi (by decide),zi (by decide),zi (by decide),zi (by decide),zi (by decide),zj rfl]
  rw[e];refine nI h hc 5 aj cnt aN pk hk a5 L.length c5 81 (fun _ _=>by kernel_rfl) rfl fun W hW hd=>?_
  exact(acL hd (hR W) ho.ok hN 5 aj cnt aN pk a5 L.length c5 kCs _ rfl (abv ho _)).mono fun e w' hf=>(hf.QR (vG _ _).1 (vG _ _).2).up (by omega)
 by_cases k6:k=6
 ·subst k6;have e:iQ 6 aj cnt aN pk L D=(Rp.sense 5 0,D):=by unfold iQ; rw[zi (by decide),zi (by decide),zi (by decide),zi (by decide),zi (by decide),zi (by decide),zj rfl]
  rw[e];refine nI h hc 6 aj cnt aN pk hk a5 L.length c5 82 (fun _ _=>by kernel_rfl) rfl fun W hW hd=>?_
  exact(WW hd (hR W) ho.ok.md 6 aj cnt aN pk a5 L.length c5).mono fun e w' hf=>(hf.QR rfl rfl).up (by omega)
 by_cases k7:k=7
 ·subst k7;have e:iQ 7 aj cnt aN pk L D=(⟨0,0,[],D.cl,D.fin,D.tr⟩,D):=by unfold iQ; rw[zi (by decide),zi (by decide),zi (by decide),zi (by decide),zi (by decide),zi (by decide),zi (by decide),zj rfl]
  rw[e];refine nI h hc 7 aj cnt aN pk hk a5 L.length c5 83 (fun _ _=>by kernel_rfl) rfl fun W hW hd=>?_
  exact(Jc hd (hR W) ho.ok.md (by have:=ho.ok.v.2.2.1; omega) 7 aj cnt aN pk a5 L.length c5).mono fun e w' hf=>hf.up (by omega)
 by_cases k8:k=8
 ·subst k8;have e:iQ 8 aj cnt aN pk L D=Kw cnt D:=by unfold iQ; rw[zi (by decide),zi (by decide),zi (by decide),zi (by decide),zi (by decide),zi (by decide),zi (by decide),zi (by decide),zj rfl]
  rw[e];refine nI h hc 8 aj cnt aN pk hk a5 L.length c5 84 (fun _ _=>by kernel_rfl) rfl fun W hW hd=>?_
  by_cases hb:cnt<0
  ·exact(Pn hd (hR W) ho hN 8 aj cnt aN pk ic a5 L.length c5 hb).mono fun e w' hf=>hf.QR (D9 _).1 (D9 _).2
  ·exact(Ur hd (hR W) ho hN 8 aj cnt aN pk ic a5 L.length c5 (by omega)).mono fun e w' hf=>hf.QR (D9 _).1 (D9 _).2
 have e:iQ k aj cnt aN pk L D=(Rp.sense 4 0,D):=by unfold iQ; rw[zi k0,zi k1,zi k2,zi k3,zi k4,zi k5,zi k6,zi k7,zi k8]
 rw[e];have hf:tH k=none:=by unfold tH ja;rw[zi k8,zi k7,zi k6,zi k5,zi k4,zi k3,zi k2,zi k1,zi k0]
 exact(WN h hc k aj cnt aN pk hk a5 L.length c5 ho.ok.md hf).mono fun e w' hf=>(hf.QR rfl rfl).up (by omega)
end
theorem BP(k l cl:Int)(fin:Bool)(ab at_:Option Addr)(n cb m ct:Nat)(W:World):(Instr.field 58 (.agg #[.int .i64 k,.int .i64 l,.slice ab n cb,.int .i64 cl,.bool fin,.slice at_ m ct]) 0).run prog W=.ok (.agg #[.int .i64 k,.int .i64 l]) W:=by kernel_rfl
theorem Nw(k l cl:Int)(fin:Bool)(ab at_:Option Addr)(n cb m ct:Nat)(W:World):(Instr.field 58 (.agg #[.int .i64 k,.int .i64 l,.slice ab n cb,.int .i64 cl,.bool fin,.slice at_ m ct]) 2).run prog W=.ok (.agg #[.int .i64 cl,.bool fin,.slice at_ m ct]) W:=by kernel_rfl
theorem Yw(cl:Int)(fin:Bool)(at_:Option Addr)(m ct:Nat)(W:World):(Instr.field 37 (.agg #[.int .i64 cl,.bool fin,.slice at_ m ct]) 1).run prog W=.ok (.bool fin) W:=by kernel_rfl
structure qP (w:World) (p pm:Nat) (D:PD) (Q:Nat->Prop) (W:World):Prop where
 ex:∃vt vc X R,fH W p D pm none vt vc (fun _=>True) (fun _=>False) X R/\∀b,DX p vc (fun _=>False) X b\/DR vt R b->w.heap.size<=b/\¬ Q b
 bl:Below w.heap.size w W
 q:∀b,Q b->b<W.heap.size
section
variable {w W W':World} {p pm N:Nat} {D:PD} {Q:Nat->Prop}
theorem qP.push(h:qP w p pm D Q W)(hb:Below W.heap.size W W'):qP w p pm D (fun b=>Q b\/(W.heap.size<=b/\b<W'.heap.size)) W':=by obtain⟨⟨vt,vc,X,R,hd,ha⟩,hbl,hq⟩:=h;have hlo:=hd.lo;exact⟨⟨vt,vc,X,R,hd.below hb,fun b hb'=>⟨(ha b hb').1,fun hh=>hh.elim (ha b hb').2 (fun h2=>by have:=hlo b hb'; omega)⟩⟩,hbl.trans (hb.mono hbl.size),fun b hb'=>hb'.elim (fun h=>zL (hq b h) hb.size) And.right⟩
theorem qP.sub{Q2:Nat->Prop}(h:qP w p pm D Q W)(hq:∀b,Q2 b->Q b):qP w p pm D Q2 W:=by obtain⟨⟨vt,vc,X,R,hd,ha⟩,hbl,hq'⟩:=h;exact⟨⟨vt,vc,X,R,hd,fun b hb=>⟨(ha b hb).1,fun h2=>(ha b hb).2 (hq b h2)⟩⟩,hbl,fun b hb=>hq' b (hq b hb)⟩
theorem qP.below(h:qP w p pm D Q W)(hb:Below W.heap.size W W'):qP w p pm D Q W':=(h.push hb).sub fun b hq=>.inl hq
theorem Q8.dra{n:Nat}{e:Ending}(h:Q8 n w e W):∃p pm,e=.returned (.tuple #[.pointer (some ⟨p,0,none⟩),.int .i64 0])/\qP w p pm (Aw n) (fun _=>False) W:=by obtain⟨p,pm,vt,vc,X,R,he,hd,hb,ha⟩:=h;exact⟨p,pm,he,⟨⟨vt,vc,X,R,hd,fun b hb=>⟨ha b hb,fun h=>h⟩⟩,hb,fun b h=>h.elim⟩⟩
structure DoP (w:World) (p pm:Nat) (D:PD) (Q:Nat->Prop) (r:Rp) (W:World) (e:Ending) (W':World):Prop where
 v:∃vb vt,e=.returned (dL r vb vt)/\gU W' vb r.bl/\aW W' vt r.tr/\(∀k,vt.ownBlock=some k->W.heap.size<=k)
 d:qP w p pm D Q W'
 k:∀b,Q b->W'.heap[b]? = W.heap[b]?
 s:W.heap.size<=W'.heap.size
theorem LW(h:qP w p pm D Q W)(ho:gY D N)(hN:N<=4611686018427380000)(k aj cnt aN pk:Int)(ik:In64 k)(il:In64 aj)(ic:In64 cnt)(a5:Option Addr)(c5:Nat)(L:List (List UInt8))(hL:gU W (.slice a5 L.length c5) L)(hLx:1<=L.length->∀b,(Value.slice a5 L.length c5).ownBlock=some b->b<W.heap.size/\(Q b\/b<w.heap.size))(hn:L.length<=9223372036854775807)(hz:∀x ∈ L,x.length<=9223372036854775807):
 Calls prog 13 #[.pointer (some ⟨p,0,none⟩),dR k aj cnt aN pk (.slice a5 L.length c5)] W (DoP w p pm (iQ k aj cnt aN pk L D).2 Q (iQ k aj cnt aN pk L D).1 W):=by
 obtain⟨⟨vt,vc,X,R,hd,ha⟩,hbl,hq⟩:=h;refine(aeZ hd (Ch.refl (X:=DX p vc (fun _=>False) X) (R:=DR vt R)) ho hN k aj cnt aN pk ik il ic a5 c5 L hL (fun h1 b hb=>⟨(hLx h1 b hb).1,fun hx=>?_⟩) hn hz).mono fun e W' hf=>?_
 ·rcases (hLx h1 b hb).2 with h1 | h1
  ·exact(ha b (.inl hx)).2 h1
  ·have:=(ha b (.inl hx)).1; omega
 ·obtain⟨v,vt2,vc2,X2,R2,he,⟨vb,vt3,hv,hrb,hrt,hb1,hb2⟩,hd2,hc2,_⟩:=hf;have hk:∀b,Q b->W'.heap[b]? = W.heap[b]?:=fun b hb=>hc2.block b (hq b hb) fun hx=>(ha b (.inl hx)).2 hb
  refine⟨⟨vb,vt3,by rw[he,hv],hrb,hrt,fun k hk=>(hb2 k hk).1⟩,⟨⟨vt2,vc2,X2,R2,hd2,fun b hb=>?_⟩,hbl.trans (Fa hc2 hbl.size fun b hb=>(ha b (.inl hb)).1),fun b hb=>zL (hq b hb) hc2.size⟩,hk,hc2.size⟩;rcases hb with hb | hb
  ·rcases hc2.x b hb with h1 | h1
   ·exact ha b (.inl h1)
   ·exact⟨zT hbl.size h1,fun h2=>by have:=hq b h2; omega⟩
  ·rcases hc2.r b hb with h1 | h1
   ·exact ha b (.inr h1)
   ·exact⟨zT hbl.size h1,fun h2=>by have:=hq b h2; omega⟩
theorem Sl(h:qP w p pm D Q W)(ho:gY D N)(hN:N<=4611686018427380000)(k aj cnt aN pk:Int)(ik:In64 k)(il:In64 aj)(ic:In64 cnt)(a5:Option Addr)(c5:Nat)(L:List (List UInt8))(hL:gU W (.slice a5 L.length c5) L)(hLx:∀b,(Value.slice a5 L.length c5).ownBlock=some b->b<W.heap.size/\(Q b\/b<w.heap.size))(hn:L.length<=9223372036854775807)(hz:∀x ∈ L,x.length<=9223372036854775807):
 Calls prog 13 #[.pointer (some ⟨p,0,none⟩),dR k aj cnt aN pk (.slice a5 L.length c5)] W (DoP w p pm (iQ k aj cnt aN pk L D).2 Q (iQ k aj cnt aN pk L D).1 W):=
 LW h ho hN k aj cnt aN pk ik il ic a5 c5 L hL (fun _=>hLx) hn hz
theorem Bh(h:qP w p pm D Q W)(ho:gY D N):
 Calls prog 12 #[.pointer (some ⟨p,0,none⟩)] W fun e w'=>∃g,e=.returned (.slice (some ⟨g,0,none⟩) D.n D.n)/\w'.ownsRow W.heap.size 9 1 (.slice (some ⟨g,0,none⟩) D.n D.n) D.n (fK wU (qV (lW D.M) D.n))/\Below W.heap.size W w':=by
 obtain⟨⟨vt,vc,X,R,hd,ha⟩,hbl,hq⟩:=h;exact Xv hd ho
theorem EW{q:Nat}(h:qP w p pm D Q W)(ho:gY D N)(hN:N<=4611686018427380000)(hq:Q q)(hqc:W.cell? ⟨q,0,none⟩=some (.pointer (some ⟨p,0,none⟩)))(k aj cnt aN pk:Int)(ik:In64 k)(il:In64 aj)(ic:In64 cnt)(a5:Option Addr)(c5:Nat)(L:List (List UInt8))(hL:gU W (.slice a5 L.length c5) L)(hLx:∀b,(Value.slice a5 L.length c5).ownBlock=some b->b<W.heap.size/\(Q b\/b<w.heap.size))(hn:L.length<=9223372036854775807)(hz:∀x ∈ L,x.length<=9223372036854775807){D2:PD}(hd:(iQ k aj cnt aN pk L D).1=Rp.ok)(hd2:(iQ k aj cnt aN pk L D).2=D2):
 Calls prog 28 #[dR k aj cnt aN pk (.slice a5 L.length c5),.pointer (some ⟨q,0,none⟩)] W fun e W'=>e=.returned (.bool true)/\qP w p pm D2 Q W'/\(∀b,Q b->W'.heap[b]? = W.heap[b]?)/\W.heap.size<=W'.heap.size:=by
 obtain⟨w1,hw1⟩:∃w1,w1=W.alloc (.cells #[.int .i64 k,.int .i64 aj,.int .i64 cnt,.int .i64 aN,.int .i64 pk,.slice a5 L.length c5] 49):=⟨_,rfl⟩;obtain⟨b2,hb2⟩:∃b,b=W.heap.size:=⟨_,rfl⟩;have hA:=(zB W.heap.size W).alloc (zl _) (.cells #[.int .i64 k,.int .i64 aj,.int .i64 cnt,.int .i64 aN,.int .i64 pk,.slice a5 L.length c5] 49);have hbx:=Bx.new W 49 [.int .i64 k,.int .i64 aj,.int .i64 cnt,.int .i64 aN,.int .i64 pk,.slice a5 L.length c5];rw[<-hw1]at hA hbx;rw[<-hb2]at hbx;have HD:=zH (Sl (h.below hA) ho hN k aj cnt aN pk ik il ic a5 c5 L (dX.keep hL hA) (fun b hb=>⟨zL (hLx b hb).1 hA.size,(hLx b hb).2⟩) hn hz);rw[hd,hd2]at HD;have s0:=hbx.cell (i:=0) rfl;have s1:=hbx.cell (i:=1) rfl;have s2:=hbx.cell (i:=2) rfl;have s3:=hbx.cell (i:=3) rfl;have s4:=hbx.cell (i:=4) rfl;have s5:=hbx.cell (i:=5) rfl;have q1:=(hA.cell (p:=⟨q,0,none⟩) (h.q q hq)).trans hqc;have HQ:=zH h.q;have HA:=zH hA;have HW1:Hid (W.alloc (.cells #[.int .i64 k,.int .i64 aj,.int .i64 cnt,.int .i64 aN,.int .i64 pk,.slice a5 L.length c5] 49)=w1):=zH hw1.symm;have HB2:=zH hb2;unfold dR at HD ⊢;clear h hbx hw1 hb2 hA hL hLx hz hqc hd hd2 ho;go_enter func28,ntmps28;go_upto_region 1 with (fail)
 rw[HW1.out,<-HB2.out];go_wp2_with fail;refine HD.out.mono ?_;rintro e w2 ⟨⟨vb,vt,rfl,hrb,hrt,_⟩,hd2,hk,hs⟩;obtain⟨ab,cb,rfl,_⟩:=dX.form hrb;obtain⟨at_,ct,rfl,_⟩:=bK.form hrt;have HR:=zH (show qP w p pm D2 Q w2/\(∀b,Q b->w2.heap[b]? = W.heap[b]?)/\W.heap.size<=w2.heap.size from⟨hd2,fun b hb=>(hk b hb).trans (HA.out.block b (HQ.out b hb)),zT HA.out.size hs⟩);unfold dL Rp.ok Rp.sense;dsimp only[List.length_nil];have hfd:=fun W=>BP 0 0 0 false ab at_ 0 cb 0 ct W
 clear hd2 hk hs hrb hrt s0 s1 s2 s3 s4 s5 q1;go_wp2_with fail;go_ret;exact⟨rfl,HR.out⟩
theorem lJ(c:UInt8)(W:World):Calls prog 29 #[.string ⟨#[c]⟩] W fun e w'=>e=.returned (.string (str (bC c)))/\Below W.heap.size W w':=by have HR:=zH (Yf c 2048 (by decide) W);unfold bC;go_enter func29,ntmps29;go_wp2_with fail;refine HR.out.mono ?_;rintro e w' ⟨rfl,hb⟩;have HB:=zH hb;clear hb;go_wp2_with fail;go_ret;exact⟨rfl,HB.out⟩
end
theorem Yc{W W':World}{b:Nat}{v:Value}{l:List T.az}(h:aW W v l)(hb:Bx W b 58 aO)(hk:∀k,k≠b->W'.heap[k]? = W.heap[k]?):aW W' v l:=by
 cases l with
 | nil=>
   obtain⟨a,c,rfl,_⟩:=bK.form h;exact bK.empty _ _ _ _ _
 | cons x r=>
   refine iK h fun k hv=>hk k ?_
   rintro rfl;obtain⟨a,c,b,off,rfl,hac,hcell⟩:=h;obtain⟨ha,hr⟩:=hcell 0 (by simp);subst ha;obtain rfl:b=k:=zs hv;have h6:W.cell? ⟨b,off+0 * 7+6,none⟩=some (.int .i64 x.pk):=hr 6 _ rfl;have hh:W.heap[b]? = some (.cells aO.toArray 58):=hb;have hi:aO.toArray[off+0 * 7+6]? = none:=by rw[Array.getElem?_eq_none_iff];show 6<=_;omega
   simp[World.cell?,hh,hi]at h6
def WM(b3:Nat)(k:Int)(FV:Value)(ok:Bool)(i:Nat)(v:Value)(d:Nat->Value)(W:World):Prop:=match i with
 | 0=>∃b,v=.map (some b)/\MF 3 W b 9 tH
 | 1=>v=.pointer (some ⟨b3,0,none⟩)
 | 2=>v=.int .i64 k
 | 3=>v=.tuple #[FV,.bool ok]
 | 4=>v=.tuple #[FV,.bool ok]
 | 5=>v=FV
 | 6=>v=.bool ok
 | 7=>v=FV
 | 8=>v=.bool ok
 | _=>True
theorem Oq(b3:Nat)(k:Int)(FV:Value)(ok:Bool)(i:Nat)(v:Value)(d:Nat->Value)(W W':World)(hR:(fun W W'=>Below W.heap.size W W') W W')(h:WM b3 k FV ok i v d W):WM b3 k FV ok i v d W':=by
 by_cases h0:i=0
 ·subst h0;obtain⟨b,h1,h2⟩:=h;exact⟨b,h1,h2.below hR⟩
 unfold WM at h ⊢;split at h <;> first | exact h | exact absurd rfl h0
theorem Jb{w:World}{p:Nat}{cl:Int}{fin:Bool}{vt:Value}{l:List T.az}(c4:w.cell? ⟨p,4,none⟩=some (.int .i64 cl))(oJ:w.cell? ⟨p,5,none⟩=some (.bool fin))(c6:w.cell? ⟨p,6,none⟩=some vt)(hr:aW w vt l)(hl:l.length<=110)(k aj cnt aN pk:Int)(a5:Option Addr)(n5 c5:Nat):
 Calls prog 83 #[.pointer (some ⟨p,0,none⟩),dR k aj cnt aN pk (.slice a5 n5 c5)] w fun e w'=>∃a c,e=.returned (dL ⟨0,0,[],cl,fin,l⟩ (.slice none 0 0) (.slice a l.length c))/\aW w' (.slice a l.length c) l/\Below w.heap.size w w':=by
 obtain⟨wA,hwA⟩:∃w1,w1=(w.alloc (.cells #[.int .i64 k,.int .i64 aj,.int .i64 cnt,.int .i64 aN,.int .i64 pk,.slice a5 n5 c5] 49)).alloc (.cells aO.toArray 58):=⟨_,rfl⟩;obtain⟨b4,hb4⟩:∃b,b=w.heap.size+1:=⟨_,rfl⟩;have hpl:=zc w _ c4;have hA1:=(zB w.heap.size w).alloc (zl _) (.cells #[.int .i64 k,.int .i64 aj,.int .i64 cnt,.int .i64 aN,.int .i64 pk,.slice a5 n5 c5] 49);have hA:=hA1.alloc hA1.size (.cells aO.toArray 58);have hbx:=Bx.new (w.alloc (.cells #[.int .i64 k,.int .i64 aj,.int .i64 cnt,.int .i64 aN,.int .i64 pk,.slice a5 n5 c5] 49)) 58 aO;rw[<-hwA]at hA hbx;rw[World.size_alloc,<-hb4]at hbx;have d4:=(hA.cell (p:=⟨p,4,none⟩) hpl).trans c4;have d5:=(hA.cell (p:=⟨p,5,none⟩) hpl).trans oJ;have d6:=(hA.cell (p:=⟨p,6,none⟩) hpl).trans c6;have HC:=zH (rW cl fin vt l wA (aW.keep hr hA) hl);obtain⟨av,cv,hvt,_⟩:=bK.form hr;rw[hvt]at d6 HC;have Iz:=zH hbx;have HAA:=zH hA;have HB4:Hid (b4<wA.heap.size/\w.heap.size<=b4):=zH ⟨hbx.lt,by omega⟩;have wE:Hid ((w.alloc (.cells #[.int .i64 k,.int .i64 aj,.int .i64 cnt,.int .i64 aN,.int .i64 pk,.slice a5 n5 c5] 49)).alloc (.cells #[.int .i64 0,.int .i64 0,.slice none 0 0,.int .i64 0,.bool false,.slice none 0 0] 58)=wA):=zH hwA.symm;have qh:=zH hb4;unfold We au at HC;clear hwA hb4 hA1 hA hbx hr c4 oJ c6 hpl;unfold dR;go_enter func83,ntmps83;go_upto_region 1 with (fail)
 rw[wE.out,<-qh.out];go_wp2_with fail;refine HC.out.mono ?_;rintro e w2 ⟨v',rfl,hown,hb2⟩;obtain⟨a2,c2',rfl⟩:=bu hown;have hx2:=Iz.out.call hb2;have HOW:=zH hown;have HB2:=zH (HAA.out.trans (hb2.mono HAA.out.size));have QF:Hid (∀k,(Value.slice a2 l.length c2').ownBlock=some k->wA.heap.size<=k):=zH fun k hk=>dP hown k hk
 unfold aO at hx2;have t0:=hx2.cell (i:=0) rfl;have t1:=hx2.cell (i:=1) rfl;have t2:=hx2.cell (i:=2) rfl;have t3:=hx2.cell (i:=3) rfl;have t4:=hx2.cell (i:=4) rfl;have t5:=hx2.cell (i:=5) rfl;have tf:=fun i=>hx2.free i
 clear hown hb2 hx2 d4 d5 d6;go_wp2_with fail;refine zr (v:=dL ⟨0,0,[],cl,fin,l⟩ (.slice none 0 0) (.slice a2 l.length c2')) (by simp[results,results83,go_sem,dL,t0,t1,t2,t3,t4,t5]) rfl ⟨a2,c2',rfl,?_,uD HB2.out HB4.out.2 _ _ _ _ _ _⟩;exact iK (aW.bM HOW.out) fun k hk=>kE _ _ k _ _ _ _ _ _ (by have:=QF.out k hk; have:=HB4.out.1; omega)
theorem RZ{w:World}{p:Nat}{cl:Int}{fin:Bool}{vt:Value}{l:List T.az}(c4:w.cell? ⟨p,4,none⟩=some (.int .i64 cl))(oJ:w.cell? ⟨p,5,none⟩=some (.bool fin))(c6:w.cell? ⟨p,6,none⟩=some vt)(hr:aW w vt l)(hl:l.length<=110)(aj cnt aN pk:Int)(a5:Option Addr)(n5 c5:Nat):
 Calls prog 13 #[.pointer (some ⟨p,0,none⟩),dR 7 aj cnt aN pk (.slice a5 n5 c5)] w fun e w'=>∃a c,e=.returned (dL ⟨0,0,[],cl,fin,l⟩ (.slice none 0 0) (.slice a l.length c))/\aW w' (.slice a l.length c) l/\Below w.heap.size w w':=by
 obtain⟨k,QO⟩:∃k:Int,k=7:=⟨_,rfl⟩;rw[<-QO];have hk:-9223372036854775808<=k/\k<=9223372036854775807:=by omega
 have hf:tH k=some (.func (.func 83) #[] #[]):=by rw[QO]; rfl
 have hfi:∀args W,(callFunc 83 args).run prog W=.ok (.enter 83 args) W:=fun _ _=>by kernel_rfl
 clear QO;obtain⟨wA,hwA⟩:∃w1,w1=(w.alloc (.cells #[.int .i64 k,.int .i64 aj,.int .i64 cnt,.int .i64 aN,.int .i64 pk,.slice a5 n5 c5] 49)).alloc (.cells aO.toArray 58):=⟨_,rfl⟩;obtain⟨b3,hb3⟩:∃b,b=w.heap.size:=⟨_,rfl⟩;obtain⟨b4,hb4⟩:∃b,b=w.heap.size+1:=⟨_,rfl⟩;have hA1:=(zB w.heap.size w).alloc (zl _) (.cells #[.int .i64 k,.int .i64 aj,.int .i64 cnt,.int .i64 aN,.int .i64 pk,.slice a5 n5 c5] 49);have hA:=hA1.alloc hA1.size (.cells aO.toArray 58);have bT:Bx ((w.alloc (.cells #[.int .i64 k,.int .i64 aj,.int .i64 cnt,.int .i64 aN,.int .i64 pk,.slice a5 n5 c5] 49)).alloc (.cells aO.toArray 58)) w.heap.size 49 [.int .i64 k,.int .i64 aj,.int .i64 cnt,.int .i64 aN,.int .i64 pk,.slice a5 n5 c5]:=(Bx.new w 49 [.int .i64 k,.int .i64 aj,.int .i64 cnt,.int .i64 aN,.int .i64 pk,.slice a5 n5 c5]).alloc _;have hbx:=Bx.new (w.alloc (.cells #[.int .i64 k,.int .i64 aj,.int .i64 cnt,.int .i64 aN,.int .i64 pk,.slice a5 n5 c5] 49)) 58 aO;rw[<-hwA]at hA hbx bT;rw[World.size_alloc,<-hb4]at hbx;rw[<-hb3]at bT;have yc:=zH hA;have IP:=zH (zc w _ c4);have ny:=zH hbx;have CP:=zH bT;have HB4:Hid (b4<wA.heap.size/\w.heap.size<=b4):=zH ⟨hbx.lt,by omega⟩;have ZN:=zH (And.intro c4 (And.intro oJ (And.intro c6 hr)));have ZV:=zH hl;have wE:Hid ((w.alloc (.cells #[.int .i64 k,.int .i64 aj,.int .i64 cnt,.int .i64 aN,.int .i64 pk,.slice a5 n5 c5] 49)).alloc (.cells #[.int .i64 0,.int .i64 0,.slice none 0 0,.int .i64 0,.bool false,.slice none 0 0] 58)=wA):=zH hwA.symm;have qh:=zH hb4;have uO:=zH hb3;have HKB:=zH hk;have jD:Hid (∀W,Below wA.heap.size wA W->W.cell? ⟨b3,0,none⟩=some (.int .i64 k)):=zH fun W hW=>(CP.out.call hW).cell (i:=0) rfl
 obtain⟨ZF,Zh⟩:∃z,∀W,(zeroValue 103).run prog W=.ok z W:=⟨Value.nilFunc,fun W=>by kernel_rfl⟩;have YW:=zH Zh;obtain⟨FV,Td⟩:∃v,v=Value.func (.func 83) #[] #[]:=⟨_,rfl⟩;obtain⟨ok,hok⟩:∃b,b=true:=⟨_,rfl⟩;have YS:Hid ((tH k).getD ZF=FV):=zH (by rw[Td,hf]; rfl);have QZ:Hid ((tH k).isSome=ok):=zH (by rw[hok,hf]; rfl);have HFE:=zH Td;have HOE:=zH hok;clear hwA hb3 hb4 hA1 hA bT hbx hk hf Zh Td hok c4 oJ c6 hr hl;unfold dR;go_enter func13,ntmps13;go_upto_region 1 with (fail)
 rw[wE.out,<-qh.out,<-uO.out];refine dw (by kernel_rfl) (fun W W'=>Below W.heap.size W W') (fun W=>Below wA.heap.size wA W) (WM b3 k FV ok) (fun _=>false) (by kernel_rfl) (fun W W' hR h=>h.trans (hR.mono h.size)) (Oq b3 k FV ok) ((zB _ _).drew) ⟨?s0,?_,?s2,?s3,?_,?_,?_,?_,?_,trivial⟩ ?_;all_goals first
  | (intro a W hc hsz hold ah
     have o3:a.tmps.getD 3 undef=.pointer (some ⟨b3,0,none⟩):=hold 3 (by kernel_rfl);try have d3:=zV 11 (.tuple #[FV,.bool ok]) (ah 3 rfl rfl _ rfl)
     try have d4:=zV 7 (.tuple #[FV,.bool ok]) (ah 4 rfl rfl _ rfl)
     try have d5:=zV 12 FV (ah 5 rfl rfl _ rfl)
     try have d6:=zV 13 (.bool ok) (ah 6 rfl rfl _ rfl)
     clear hsz hold ah;refine ai rfl (ag rfl) ?_;refine aA (zB _ _) rfl fun K hK=>?_
     go_simp;exact hK)
  | skip
 try case s0=>
  intro a W hc hsz hold ah;clear hsz hold ah;refine ai rfl (ag rfl) ?_;refine gI fun K hK=>?_
  go_simp;refine(uY W).mono ?_;rintro e w' ⟨rfl,hm,hb'⟩;exact hK _ _ hb' ⟨_,rfl,hm⟩
 try case s2=>
  intro a W hc hsz hold ah;have d1:=zV 9 (.pointer (some ⟨b3,0,none⟩)) (ah 1 (by kernel_rfl) rfl _ rfl);have z0:=jD.out W hc;clear hsz hold ah;refine ai rfl (ag rfl) ?_;refine aA (v:=.int .i64 k) (zB _ _) rfl fun K hK=>?_
  go_simp;exact hK
 try case s3=>
  intro a W hc hsz hold ah;have x0:=ah 0 (by kernel_rfl) rfl _ rfl;have d2:=zV 10 (.int .i64 k) (ah 2 (by kernel_rfl) rfl _ rfl);clear hsz hold ah;refine ai rfl (ag rfl) ?_;obtain⟨b,hb,hm⟩:=x0;replace hb:a.tmps.getD 8 undef=.map (some b):=hb;have hlk:=(hm.look underlying3 underlying105 (z:=ZF) (YW.out W) k HKB.out.1 HKB.out.2);rw[YS.out,QZ.out]at hlk;refine aA (v:=.tuple #[FV,.bool ok]) (zB _ _) rfl fun K hK=>?_
  go_simp;exact hK
 ·intro a W hC hd hsz hold hval;have d5:a.tmps.getD 5 undef=FV:=hval 7 _ rfl rfl;have d6:a.tmps.getD 6 undef=.bool ok:=hval 8 _ rfl rfl;obtain⟨G,hG,ha⟩:=cO [5,6,7,8,9,10,11,12,13] (by kernel_rfl) hd hsz hold;simp only[hG]at d5 d6;rw[ha];clear ha hG hd hsz hold;simp only[bI,List.setIfInBounds_toArray,List.set,d5,d6];clear d5 d6;obtain rfl:=HFE.out;obtain rfl:=HOE.out;have hC:Below wA.heap.size wA W:=hC;have hBW:=yc.out.trans (hC.mono yc.out.size);have mO:=CP.out.call hC;have N7:=zH (ny.out.call hC);have VU:Hid (b4<W.heap.size):=zH (by have:=hC.size; have:=HB4.out.1; omega);have QE:=zH (Jb ((hBW.cell (p:=⟨p,4,none⟩) IP.out).trans ZN.out.1) ((hBW.cell (p:=⟨p,5,none⟩) IP.out).trans ZN.out.2.1) ((hBW.cell (p:=⟨p,6,none⟩) IP.out).trans ZN.out.2.2.1) (aW.keep ZN.out.2.2.2 hBW) ZV.out k aj cnt aN pk a5 n5 c5);have HBW:=zH hBW;have s0:=mO.cell (i:=0) rfl;have s1:=mO.cell (i:=1) rfl;have s2:=mO.cell (i:=2) rfl;have s3:=mO.cell (i:=3) rfl;have s4:=mO.cell (i:=4) rfl;have s5:=mO.cell (i:=5) rfl;unfold dR at QE;clear hval hC mO hBW;go_upto_region 4 with (fail)
  go_wp2_with fail;refine QE.out.mono ?_;rintro e w2 ⟨a8,c8,rfl,hrt,hb2⟩;have hx2:=N7.out.call hb2;have HRT:=zH hrt;have HB2:=zH (HBW.out.trans (hb2.mono HBW.out.size));unfold aO at hx2;have t0:=hx2.cell (i:=0) rfl;have t1:=hx2.cell (i:=1) rfl;have t2:=hx2.cell (i:=2) rfl;have t3:=hx2.cell (i:=3) rfl;have t4:=hx2.cell (i:=4) rfl;have t5:=hx2.cell (i:=5) rfl;have tf:=fun i=>hx2.free i
  unfold dL;have HXK:=zH (N7.out.call hb2);obtain⟨g8,hg8⟩:∃P:World->Prop,P=fun W'=>aW W' (.slice a8 l.length c8) l:=⟨_,rfl⟩
  clear hrt hb2 hx2 s0 s1 s2 s3 s4 s5;go_wp2_with fail;refine zr (v:=dL ⟨0,0,[],cl,fin,l⟩ (.slice none 0 0) (.slice a8 l.length c8)) (by simp[results,results13,go_sem,dL,t0,t1,t2,t3,t4,t5]) rfl ⟨a8,c8,rfl,?_,uD HB2.out HB4.out.2 _ _ _ _ _ _⟩;exact Yc HRT.out HXK.out fun k hk=>kE _ _ k _ _ _ _ _ _ hk
end T7
end Go.Proofs.YtfnehkmhcmkhjaaGreat
