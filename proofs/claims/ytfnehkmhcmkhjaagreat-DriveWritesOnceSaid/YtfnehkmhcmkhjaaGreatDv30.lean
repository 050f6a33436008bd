/- Parts:XEn9 XEnA XEnC XEnD -/
import Derived.Test.YtfnehkmhcmkhjaaGreatDvAl
import Derived.Test.YtfnehkmhcmkhjaaGreatDv27
set_option maxRecDepth 100000
set_option maxHeartbeats 8000000
set_option linter.unusedVariables false
namespace Go.Proofs.YtfnehkmhcmkhjaaGreat
open Tryz
namespace E1
open Go.RowKit xA
def fD(cap q cl:Int)(fin:Bool)(l:List T.az):List UInt8×Int:=
 if T.aF cap cl fin l=false then([],1) else if 0<=q/\q<=2147483647 then(dA q cl fin l,0) else([],2)
def abT(r:List UInt8×Int)(w:World)(e:Ending)(w':World):Prop:=e=.returned (.tuple #[.string (str r.1),.int .i64 r.2])/\Below w.heap.size w w'
theorem Bc(n:Int)(size:Nat)(x:Int)(w:World)(hx:x=size)(h1:1<=size)(hs:size<=8)(hn:n<=9223372036854775807):Calls prog 216 #[.int .i64 n,.int .i64 x] w fun e w'=>e=.returned (.string (str (dQ n size).1))/\Below w.heap.size w w':=by have HB:=zH (fun W=>Ux n size x W hx h1 hs hn);clear hx;go_enter func216,ntmps216;go_wp2_with fail;refine(HB.out _).mono ?_;rintro e w1 ⟨rfl,hb⟩;go_wp2_with fail;go_ret;exact⟨rfl,hb⟩
theorem CY(n:Int)(w:World)(hn:n<=9223372036854775807):Calls prog 216 #[.int .i64 n,.int .i64 2] w fun e w'=>e=.returned (.string (str (b2 n)))/\Below w.heap.size w w':=Bc n 2 2 w rfl (by omega) (by omega) hn
theorem Wv(n:Int)(w:World)(hn:n<=9223372036854775807):Calls prog 216 #[.int .i64 n,.int .i64 4] w fun e w'=>e=.returned (.string (str (b4 n)))/\Below w.heap.size w w':=Bc n 4 4 w rfl (by omega) (by omega) hn
def magic:List UInt8:=[80,77,65,49]
theorem O1:magic.length=4:=rfl
def hE1(q:Int):List UInt8:=magic++b4 q
def hE2(q cl:Int):List UInt8:=hE1 q++b2 cl
def VM(q cl z:Int):List UInt8:=hE2 q cl++b2 z
def Xh(q cl z n:Int):List UInt8:=VM q cl z++b2 n
theorem EZ(n:Int):(b2 n).length<=2:=ig n 2
theorem Y7(n:Int):(b4 n).length<=4:=ig n 4
theorem S9(q:Int):(hE1 q).length<=8:=by have:=Y7 q;unfold hE1 magic;simp only[List.length_append,List.length_cons,List.length_nil];omega
theorem Rl{a b:List UInt8}{m k:Nat}(h1:a.length<=m)(h2:b.length<=k):(a++b).length<=m+k:=by rw[List.length_append]; omega
theorem Tc(q cl:Int):(hE2 q cl).length<=10:=Rl (S9 q) (EZ cl)
theorem aaK(q cl z:Int):(VM q cl z).length<=12:=Rl (Tc q cl) (EZ z)
theorem aaL(q cl:Int)(fin:Bool)(l:List T.az):Xh q cl (fn fin) l.length=part q cl fin l 0:=by simp[Xh,VM,hE2,hE1,magic,part,yO]
def Np(gB:Nat)(q cl z:Int)(a:Option Addr)(n c:Nat)(i:Nat)(v:Value)(W:World):Prop:=match i with
 | 0=>v=.int .i64 q
 | 1=>v=.string (str (b4 q))
 | 2=>v=.string (str (hE1 q))
 | 3=>v=.pointer (some ⟨gB,0,none⟩)
 | 4=>v=.int .i64 cl
 | 5=>v=.string (str (b2 cl))
 | 6=>v=.string (str (hE2 q cl))
 | 7=>v=.int .i64 z
 | 8=>v=.string (str (b2 z))
 | 9=>v=.string (str (VM q cl z))
 | 10=>v=.pointer (some ⟨gB,2,none⟩)
 | 11=>v=.slice a n c
 | 12=>v=.int .i64 n
 | 13=>v=.string (str (b2 n))
 | 14=>v=.string (str (Xh q cl z n))
 | 15=>v=.string (str (Xh q cl z n))
 | _=>True
theorem Ky(gB:Nat)(q cl z:Int)(a:Option Addr)(n c:Nat)(i:Nat)(v:Value)(W W':World)(hR:(fun w W=>Below w.heap.size w W) W W')(h:Np gB q cl z a n c i v W):Np gB q cl z a n c i v W':=by unfold Np at h ⊢;split at h <;> first | exact h
def Fine(l:List T.az):Prop:=nC l\/(99<l.length/\l.length<=1000)
theorem wR(cap cl:Int)(fin:Bool)(sv:Value)(l:List T.az)(w:World)(hr:aW w sv l)(hf:Fine l):
 Calls prog 130 #[.int .i64 cap,au cl fin sv] w (RB (T.aF cap cl fin l) w):=by
 rcases hf with hf | hf
 ·exact Hu cap cl fin sv l w hr hf
 ·exact zM cap cl fin sv l w hr (fun h=>by omega) (by omega)
theorem jA(cap cl:Int)(fin:Bool)(sv:Value)(l:List T.az)(w:World)(hr:aW w sv l)(hf:Fine l):
 Calls prog 164 #[.int .i64 cap,au cl fin sv] w (RB (T.aF cap cl fin l) w):=by
 rcases hf with hf | hf
 ·exact aV cap cl fin sv l w hr hf
 ·exact Cf cap cl fin sv l w hr (fun h=>by omega) (by omega)
theorem Qu{cap cl:Int}{fin:Bool}{l:List T.az}(h:T.aF cap cl fin l=true):l.length<=99:=(T.ay.1 h).2.2.1
theorem SQ{l:List T.az}(hf:Fine l)(h:l.length<=99):nC l:=by
 rcases hf with hf | hf
 ·exact hf
 ·omega
theorem jH(cap q cl:Int)(fin:Bool)(sv:Value)(l:List T.az)(w:World)(hr:aW w sv l)(hf:Fine l)(hcl:cl<=9223372036854775807):
 Calls prog 166 #[.int .i64 cap,au cl fin sv,.int .i64 q] w (abT (fD cap q cl fin l) w):=by
 have hbe:=(zB w.heap.size w).alloc (zl _) (.cells #[.int .i64 cl,.bool fin,sv] 37);have hB:=Bx.new w 37 [.int .i64 cl,.bool fin,sv];have HV:=zH (jA cap cl fin sv l _ (hr.keep hbe) hf);unfold fD;cases hv:T.aF cap cl fin l with
 | false=>
   rw[zj rfl];rw[hv]at HV;obtain⟨a,c,rfl,hac⟩:=bK.form hr;clear hv hB;go_enter func166,ntmps166;go_wp2_with fail;refine HV.out.mono ?_;rintro e w1 ⟨rfl,hb⟩;go_wp2_with fail;go_ret2;exact⟨rfl,hbe.trans (hb.mono hbe.size)⟩
 | true=>
   rw[zi (by decide)];have hfew:=SQ hf (Qu hv);rw[hv]at HV;clear hv;by_cases hq:0<=q/\q<=2147483647
   ·rw[zj hq];have HE:=zH (fun W hW=>Jt q cl fin sv l W hW hfew (by omega) hcl);have HR:=zH hr;obtain⟨a,c,rfl,hac⟩:=bK.form hr;have hq0:=hq.1;have hq1:=hq.2;have hq2:¬ q<0:=by omega
    have hq3:¬ 2147483647<q:=by omega
    generalize dA q cl fin l=E at HE ⊢;have Hbe:=zH hbe;clear hq hfew hr hbe;go_enter func166,ntmps166;go_wp2_with fail;refine HV.out.mono ?_;rintro e w1 ⟨rfl,hb⟩;have hB1:Bx w1 w.heap.size 37 [.int .i64 cl,.bool fin,.slice a l.length c]:=hB.call hb;have c0:=hB1.cell (i:=0) rfl;have c1:=hB1.cell (i:=1) rfl;have c2:=hB1.cell (i:=2) rfl;have hle:=Hbe.out.trans (hb.mono Hbe.out.size);have HE2:=zH (HE.out w1 (HR.out.keep hle));clear hb hB1 hB;go_wp2_with fail;refine HE2.out.mono ?_;rintro e w2 ⟨rfl,hb2⟩;go_wp2_with fail;go_ret2;exact⟨rfl,hle.trans (hb2.mono hle.size)⟩
   ·rw[zi hq];obtain⟨a,c,rfl,hac⟩:=bK.form hr;have Hbe:=zH hbe;clear hbe hB;by_cases h0:q<0
    ·clear hq;go_enter func166,ntmps166;go_wp2_with fail;refine HV.out.mono ?_;rintro e w1 ⟨rfl,hb⟩;go_wp2_with fail;go_ret2;exact⟨rfl,Hbe.out.trans (hb.mono Hbe.out.size)⟩
    ·have h1:2147483647<q:=by omega
     clear hq;go_enter func166,ntmps166;go_wp2_with fail;refine HV.out.mono ?_;rintro e w1 ⟨rfl,hb⟩;go_wp2_with fail;go_ret2;exact⟨rfl,Hbe.out.trans (hb.mono Hbe.out.size)⟩
def One(b:Nat)(w w':World):Prop:=Below b w w'/\∀k,k<w.heap.size->k≠b->w'.heap[k]? = w.heap[k]?
theorem yZ{w w':World}{base e size n:Nat}{v:Value}{xs:List Value}(h:w.ownsRow base e size v n xs)(hb:∀k,base<=k->k<w.heap.size->w'.heap[k]? = w.heap[k]?):w'.ownsRow base e size v n xs:=by
 refine⟨h.1,?_⟩;rcases h.2 with h2 | ⟨g,cap,cur,h1,h2,h3,h4⟩
 ·exact .inl h2
 ·exact .inr ⟨g,cap,cur,h1,h2,(hb g h2 (Array.getElem?_eq_some_iff.1 h3).1).trans h3,h4⟩
theorem yz{b g:Nat}{w w':World}{t:TypeId}{cs:List Value}(h:Bx w g t cs)(hb:One b w w')(hne:g≠b):Bx w' g t cs:=(hb.2 g h.lt hne).trans h
def acC(l:List UInt8)(o size gA:Nat)(w:World)(e:Ending)(w':World):Prop:=
 e=.returned (.int .i64 (dK l o size))/\Bx w' gA 3 [.int .i64 ((o+size:Nat):Int)]/\One gA w w'
theorem next_any(l:List UInt8)(o size:Nat)(x:Int)(gS gA:Nat)(w:World)(hs:Bx w gS 9 [.string (str l)])(ha:Bx w gA 3 [.int .i64 (o:Int)])(hx:x=size)(h1:1<=size)(h4:size<=4)(ho:o<=100000)(hl:l.length<=1000000)(hne:gS≠gA):
 Calls prog 317 #[.int .i64 x,.pointer (some ⟨gS,0,none⟩),.pointer (some ⟨gA,0,none⟩)] w (acC l o size gA w):=by
 have HR:=zH (fun W=>G8 l o size x (o:Int) W rfl hx h1 h4 (by omega) hl);subst hx;have hs0:=hs.cell (i:=0) rfl;have ha0:=ha.cell (i:=0) rfl;have Ha:=zH ha;have hlt:=ha.lt;clear hs ha;go_enter func317,ntmps317;go_wp2_with fail;refine(HR.out _).mono ?_;rintro e w1 ⟨rfl,hb⟩;have hA1:Bx w1 gA 3 [.int .i64 (o:Int)]:=Ha.out.call hb;have ha1:=hA1.cell (i:=0) rfl;have hf1:=hA1.free;clear hs0 ha0;go_wp2_with fail;go_ret;have h9:Below gA w w1:=hb.mono (by omega);refine⟨rfl,?_,h9.setCell (p:=⟨gA,0,none⟩) (zl _) _,fun k hk hne2=>?_⟩
 ·have h:=hA1.set 0 (.int .i64 ((o+size:Nat):Int));rw[Int.natCast_add]at h ⊢;exact h
 ·rw[zh _ _ _ _ hne2];exact hb.block k hk
structure qg (w0:World) (gT:Nat) (l:List UInt8) (o:Nat) (cl:Int) (fin:Bool) (v:Value) (W:World):Prop where
 s:Bx W w0.heap.size 9 [.string (str l)]
 z:Bx W (w0.heap.size+1) 37 [.int .i64 0,.bool false,.slice none 0 0]
 a:Bx W (w0.heap.size+2) 3 [.int .i64 (o:Int)]
 t:Bx W gT 37 [.int .i64 cl,.bool fin,v]
 le:Below w0.heap.size w0 W
 g:w0.heap.size+2<gT
theorem qg.one{w0:World}{gT:Nat}{l:List UInt8}{o o':Nat}{cl:Int}{fin:Bool}{v:Value}{W W':World}(h:qg w0 gT l o cl fin v W)(hb:One (w0.heap.size+2) W W')(ha:Bx W' (w0.heap.size+2) 3 [.int .i64 (o':Int)]):qg w0 gT l o' cl fin v W':=
 ⟨yz h.s hb (by omega),yz h.z hb (by omega),ha,yz h.t hb (by have:=h.g; omega),h.le.trans (hb.1.mono (by omega)),h.g⟩
theorem qg.call{w0:World}{gT:Nat}{l:List UInt8}{o:Nat}{cl:Int}{fin:Bool}{v:Value}{W W':World}(h:qg w0 gT l o cl fin v W)(hb:Below W.heap.size W W'):qg w0 gT l o cl fin v W':=
 ⟨h.s.call hb,h.z.call hb,h.a.call hb,h.t.call hb,h.le.trans (hb.mono h.le.size),h.g⟩
theorem qg.own{w0:World}{gT:Nat}{l:List UInt8}{o:Nat}{cl:Int}{fin:Bool}{v:Value}{W W':World}(h:qg w0 gT l o cl fin v W)(hb:Below (gT+1) W W'):qg w0 gT l o cl fin v W':=
 have:=h.g
 ⟨h.s.wK hb (by omega),h.z.wK hb (by omega),h.a.wK hb (by omega),h.t.wK hb (by omega),h.le.trans (hb.mono (by omega)),h.g⟩
theorem qg.put{w0:World}{gT:Nat}{l:List UInt8}{o:Nat}{cl:Int}{fin:Bool}{v:Value}{W:World}(h:qg w0 gT l o cl fin v W)(v':Value):qg w0 gT l o cl fin v' (W.setCell ⟨gT,2,none⟩ v'):=
 have:=h.g
 ⟨h.s.far (by simp only; omega) _,h.z.far (by simp only; omega) _,h.a.far (by simp only; omega) _,h.t.set 2 v',h.le.setCell (by simp only; omega) _,h.g⟩
theorem qg.drew{w0:World}{gT:Nat}{l:List UInt8}{o:Nat}{cl:Int}{fin:Bool}{v:Value}{W:World}(h:qg w0 gT l o cl fin v W):qg w0 gT l o cl fin v W.drew:=⟨h.s,h.z,h.a,h.t,h.le.drew,h.g⟩
structure VA (w0:World) (l:List UInt8) (o:Nat) (W:World):Prop where
 s:Bx W w0.heap.size 9 [.string (str l)]
 z:Bx W (w0.heap.size+1) 37 [.int .i64 0,.bool false,.slice none 0 0]
 a:Bx W (w0.heap.size+2) 3 [.int .i64 (o:Int)]
 le:Below w0.heap.size w0 W
theorem vF{w0 W:World}{l:List UInt8}{o:Nat}(h:VA w0 l o W)(size:Nat)(x:Int)(hx:x=size)(h1:1<=size)(h4:size<=4)(ho:o<=100000)(hl:l.length<=1000000):
 Calls prog 317 #[.int .i64 x,.pointer (some ⟨w0.heap.size,0,none⟩),.pointer (some ⟨w0.heap.size+2,0,none⟩)] W fun e w'=>e=.returned (.int .i64 (dK l o size))/\VA w0 l (o+size) w':=
 (next_any l o size x _ _ W h.s h.a hx h1 h4 ho hl (by omega)).mono fun e w' ⟨h1,h2,h3⟩=>⟨h1,yz h.s h3 (by omega),yz h.z h3 (by omega),h2,h.le.trans (h3.1.mono (by omega))⟩
theorem nN{w0 W:World}{gT:Nat}{l:List UInt8}{o:Nat}{cl:Int}{fin:Bool}{v:Value}(h:qg w0 gT l o cl fin v W)(size:Nat)(x:Int)(hx:x=size)(h1:1<=size)(h4:size<=4)(ho:o<=100000)(hl:l.length<=1000000):
 Calls prog 317 #[.int .i64 x,.pointer (some ⟨w0.heap.size,0,none⟩),.pointer (some ⟨w0.heap.size+2,0,none⟩)] W fun e w'=>e=.returned (.int .i64 (dK l o size))/\qg w0 gT l (o+size) cl fin v w'/\One (w0.heap.size+2) W w':=
 (next_any l o size x _ _ W h.s h.a hx h1 h4 ho hl (by omega)).mono fun e w' ⟨h1,h2,h3⟩=>⟨h1,h.one h3 h2,h3⟩
def adD:Nat->Nat
 | 0=>0
 | 1=>2
 | 2=>4
 | 3=>8
 | 4=>12
 | 5=>16
 | 6=>18
 | _=>20
def EM(w0:World)(gT:Nat)(H0:Nat)(l:List UInt8)(o:Nat)(cl:Int)(fin:Bool)(vv:Value)(ts:List T.az)(n:Nat)(r:Nat)(W:World):Prop:=
 (r<=8->qg w0 gT l (o+adD r) cl fin vv W)/\(r<=7->W.ownsRow (gT+1) 94 7 vv n (fK jy ts))/\(r=9->∃v',qg w0 gT l (o+20) cl fin v' W/\W.ownsRow (gT+1) 94 7 v' (n+1) (fK jy (ts++[nX l o])))/\H0<=W.heap.size
def CB(H0 base n:Nat)(xs:List Value)(r:Nat)(w W:World):Prop:=
 (∀k,H0<=k->k<w.heap.size->W.heap[k]? = w.heap[k]?)/\w.heap.size<=W.heap.size/\(8<=r->∀v',w.ownsRow base 94 7 v' n xs->W.ownsRow base 94 7 v' n xs)
theorem CB.refl(H0 base n:Nat)(xs:List Value)(r:Nat)(w:World):CB H0 base n xs r w w:=⟨fun _ _ _=>rfl,zl _,fun _ _ h=>h⟩
theorem CB.call{H0 base n:Nat}{xs:List Value}{r:Nat}{w W:World}(hb:Below w.heap.size w W):CB H0 base n xs r w W:=⟨fun k _ h=>hb.block k h,hb.size,fun _ _ h=>bz h hb⟩
theorem CB.one{H0 base n b:Nat}{xs:List Value}{r:Nat}{w W:World}(hb:One b w W)(h0:b<H0)(h1:b<base):CB H0 base n xs r w W:=
 ⟨fun k hk h=>hb.2 k h (by omega),hb.1.size,fun _ _ h=>yZ h fun k hk hl=>hb.2 k hl (by omega)⟩
section
variable {w0:World} {gT H0:Nat} {l:List UInt8} {o:Nat} {cl:Int} {fin:Bool} {vv:Value} {ts:List T.az} {n:Nat} {r:Nat} {W W':World}
theorem EM.next(h:EM w0 gT H0 l o cl fin vv ts n r W)(hr:r<7)(h1:qg w0 gT l (o+adD (r+1)) cl fin vv W')(h2:One (w0.heap.size+2) W W'):EM w0 gT H0 l o cl fin vv ts n (r+1) W':=
 ⟨fun _=>h1,fun _=>yZ (h.2.1 (by omega)) fun k hk hl=>h2.2 k hl (by have:=h1.g; omega),fun h=>by omega,zT h.2.2.2 h2.1.size⟩
theorem EM.call(h:EM w0 gT H0 l o cl fin vv ts n r W)(hb:Below W.heap.size W W'):EM w0 gT H0 l o cl fin vv ts n r W':=
 ⟨fun hr=>(h.1 hr).call hb,fun hr=>bz (h.2.1 hr) hb,fun hr=>by obtain⟨v',h1,h2⟩:=h.2.2.1 hr; exact⟨v',h1.call hb,bz h2 hb⟩,zT h.2.2.2 hb.size⟩
end
theorem infoTrk:(prog.info? 94).map (fun i=>(i.zero,i.size,i.bytes))=some (some (.agg #[.int .i64 0,.int .i64 0,.int .i64 0,.int .i64 0,.int .i64 0,.int .i64 0,.int .i64 0]),7,56):=by kernel_rfl
theorem Yu(x:T.az):∀u ∈ jy x,u.oneCell'=true:=by intro u hu;simp only[jy,List.mem_cons,List.not_mem_nil,or_false]at hu;rcases hu with rfl | rfl | rfl | rfl | rfl | rfl | rfl <;> rfl
def LQ(w0:World)(gT H0:Nat)(l:List UInt8)(o:Nat)(vv:Value)(ts:List T.az)(n:Nat)(i:Nat)(v:Value)(W:World):Prop:=match i with
 | 0=>v=.pointer (some ⟨gT,2,none⟩)
 | 1=>v=vv
 | 2=>v=.func (.func 317) #[] #[.pointer (some ⟨w0.heap.size,0,none⟩),.pointer (some ⟨w0.heap.size+2,0,none⟩)]
 | 3=>v=.int .i64 (dK l o 2)
 | 4=>v=.func (.func 317) #[] #[.pointer (some ⟨w0.heap.size,0,none⟩),.pointer (some ⟨w0.heap.size+2,0,none⟩)]
 | 5=>v=.int .i64 (dK l (o+2) 2)
 | 6=>v=.func (.func 317) #[] #[.pointer (some ⟨w0.heap.size,0,none⟩),.pointer (some ⟨w0.heap.size+2,0,none⟩)]
 | 7=>v=.int .i64 (dK l (o+4) 4)
 | 8=>v=.func (.func 317) #[] #[.pointer (some ⟨w0.heap.size,0,none⟩),.pointer (some ⟨w0.heap.size+2,0,none⟩)]
 | 9=>v=.int .i64 (dK l (o+8) 4)
 | 10=>v=.func (.func 317) #[] #[.pointer (some ⟨w0.heap.size,0,none⟩),.pointer (some ⟨w0.heap.size+2,0,none⟩)]
 | 11=>v=.int .i64 (dK l (o+12) 4)
 | 12=>v=.func (.func 317) #[] #[.pointer (some ⟨w0.heap.size,0,none⟩),.pointer (some ⟨w0.heap.size+2,0,none⟩)]
 | 13=>v=.int .i64 (dK l (o+16) 2)
 | 14=>v=.func (.func 317) #[] #[.pointer (some ⟨w0.heap.size,0,none⟩),.pointer (some ⟨w0.heap.size+2,0,none⟩)]
 | 15=>v=.int .i64 (dK l (o+18) 2)
 | 16=>v=.agg #[.int .i64 (dK l o 2),.int .i64 (dK l (o+2) 2),.int .i64 (dK l (o+4) 4),.int .i64 (dK l (o+8) 4),.int .i64 (dK l (o+12) 4),.int .i64 (dK l (o+16) 2),.int .i64 (dK l (o+18) 2)]
 | 17=>∃g,v=.slice (some ⟨g,0,none⟩) 1 1/\H0<=g/\Bx W g 94 (jy (nX l o))
 | 18=>W.ownsRow (gT+1) 94 7 v (n+1) (fK jy (ts++[nX l o]))
 | 19=>v=.pointer (some ⟨gT,2,none⟩)
 | _=>True
def RX:Nat->Option Nat
 | 3=>some 0
 | 5=>some 1
 | 7=>some 2
 | 9=>some 3
 | 11=>some 4
 | 13=>some 5
 | 15=>some 6
 | 18=>some 7
 | 20=>some 8
 | _=>none
theorem Jf(w0:World)(gT H0:Nat)(l:List UInt8)(o:Nat)(vv:Value)(ts:List T.az)(n:Nat)(i r:Nat)(v:Value)(W W':World)(hk:∀k,RX i=some k->k<r)(hR:(CB H0 (gT+1) (n+1) (fK jy (ts++[nX l o]))) r W W')(h:LQ w0 gT H0 l o vv ts n i v W):LQ w0 gT H0 l o vv ts n i v W':=by
 by_cases h17:i=17
 ·subst h17;obtain⟨g,h1,h2,h3⟩:=h;exact⟨g,h1,h2,(hR.1 g h2 h3.lt).trans h3⟩
 by_cases h18:i=18
 ·subst h18;exact hR.2.2 (by have:=hk 7 rfl; omega) v h
 unfold LQ at h ⊢;split at h <;> first | exact h | exact absurd rfl h17 | exact absurd rfl h18
theorem Xc(l:List UInt8)(n:Nat)(h:n<=99):nC (iO l n):=by
 refine⟨by rw[jJ]; omega,fun i hi=>?_⟩;rw[jJ]at hi;have e:T.tr (iO l n) i=nX l (14+20 * i):=by simp[T.tr,iO,hi]
 rw[e];have a1:=kY l (14+20 * i) 2 (by omega);have a2:=kY l (14+20 * i+2) 2 (by omega);have a3:=kY l (14+20 * i+4) 4 (by omega);have a4:=kY l (14+20 * i+8) 4 (by omega);have a5:=kY l (14+20 * i+12) 4 (by omega);have a6:=kY l (14+20 * i+16) 2 (by omega);have a7:=kY l (14+20 * i+18) 2 (by omega);unfold uB sm nX;simp only;refine⟨?_,?_,?_,?_,?_,?_,?_⟩ <;> omega
theorem abt{cap:Int}{l:List UInt8}{n:Nat}(hl:l.length=16+20 * n)(hc:mi l=n):
 okD cap l=(decide ((fD cap (dI l) (oQ l) (dH l) (iO l n)).2=0) && decide ((fD cap (dI l) (oQ l) (dH l) (iO l n)).1=l)):=by
 unfold okD fD;rw[hc];rw[zt (show 16<=l.length/\l.length=16+20 * n by omega),Bool.true_and];cases T.aF cap (oQ l) (dH l) (iO l n) with
 | false=>simp
 | true=>
   by_cases hq:dI l<=2147483647
   ·rw[zi (by decide),zj ⟨by omega,by omega⟩];simp[hq]
   ·rw[zi (by decide),zi (by omega)];simp[hq]
theorem U5{l m:List UInt8}(h:l=m):((str l).toList == (str m).toList)=true:=by rw[h]; simp
theorem Qk{l m:List UInt8}(h:l≠m):((str l).toList == (str m).toList)=false:=by rw[sJ,sJ]; simpa using h
theorem vK{W:World}{base g i:Nat}{v:Value}{ts:List T.az}(h:W.ownsRow base 94 7 v i (fK jy ts))(hl:ts.length=i)(hg:g<base)(a b c:Value):
 aW (((W.setCell ⟨g,0,none⟩ a).setCell ⟨g,1,none⟩ b).setCell ⟨g,2,none⟩ c).drew v ts:=by
 subst hl;have h2:=kW (kW (kW h (p:=⟨g,0,none⟩) hg a) (p:=⟨g,1,none⟩) hg b) (p:=⟨g,2,none⟩) hg c;exact dX.bM (d:=T.z) fA h2
def IJ(cap:Int)(l:List UInt8)(w:World)(e:Ending)(w':World):Prop:=
 ∃(cl:Int)(fin:Bool)(v:Value)(ts:List T.az)(q:Int),e=.returned (.tuple #[au cl fin v,.int .i64 q,.bool (okD cap l)])/\aW w' v ts/\Below w.heap.size w w'/\(okD cap l=true->cl=oQ l/\fin=dH l/\ts=iO l (mi l)/\q=dI l)
theorem FC(cap:Int)(l:List UInt8)(n:Nat)(w:World)(hl:l.length=16+20 * n)(hn:n<=99)(hc:mi l=n):Calls prog 246 #[.int .i64 cap,.string (str l)] w (IJ cap l w):=by
 have hsz:=ax l;rw[hl]at hsz;obtain⟨w0,rfl⟩:∃w0:World,w0=w:=⟨_,rfl⟩;have hd0:16<=16+20 * (n:Int):=by omega
 have hd1:16+20 * (n:Int)<=1996:=by omega
 have hd3:((16+20 * (n:Int) - 16) % 20 != 0)=false:=by rw[bne_eq_false_iff_eq]; omega
 go_enter func246,ntmps246;go_upto_region 5 with (fail)
 have xY:VA w0 l 4 (((w0.alloc (.cells #[.string (str l)] 9)).alloc (.cells #[.int .i64 0,.bool false,.slice none 0 0] 37)).alloc (.cells #[.int .i64 4] 3)):=
  ⟨((Bx.new w0 _ _).alloc _).alloc _,by have:=(Bx.new (w0.alloc (.cells #[.string (str l)] 9)) 37 [.int .i64 0,.bool false,.slice none 0 0]).alloc (.cells #[.int .i64 4] 3); rw[World.size_alloc]at this; exact this,
    by have:=Bx.new ((w0.alloc (.cells #[.string (str l)] 9)).alloc (.cells #[.int .i64 0,.bool false,.slice none 0 0] 37)) 3 [.int .i64 4]; rw[World.size_alloc,World.size_alloc]at this; exact this,
    (((zB _ _).alloc (zl _) _).alloc (by simp) _).alloc (by simp; omega) _⟩
 generalize ((w0.alloc (.cells #[.string (str l)] 9)).alloc (.cells #[.int .i64 0,.bool false,.slice none 0 0] 37)).alloc (.cells #[.int .i64 4] 3)=w1 at xY ⊢;simp only[show w0.heap.size+1+1=w0.heap.size+2 from rfl];have hl1:l.length<=1000000:=by omega
 clear hd0 hd1 hd3 hsz;go_wp2_with fail;refine(vF xY 4 4 rfl (by omega) (by omega) (by omega) hl1).mono ?_;rintro e w2 ⟨rfl,HS2⟩;replace HS2:VA w0 l 8 w2:=HS2;go_wp2_with fail;refine(vF HS2 2 2 rfl (by omega) (by omega) (by omega) hl1).mono ?_;rintro e w3 ⟨rfl,qQ⟩;replace qQ:VA w0 l 10 w3:=qQ;go_wp2_with fail;refine(vF qQ 2 2 rfl (by omega) (by omega) (by omega) hl1).mono ?_;rintro e w4 ⟨rfl,wX⟩;replace wX:VA w0 l 12 w4:=wX;clear xY HS2 qQ;have hfin:(((dK l 10 2:Nat):Int) == 1)=dH l:=by unfold dH;rw[Bool.eq_iff_iff,beq_iff_eq,beq_iff_eq];omega
 go_upto_region 7 with (fail)
 have xZ:qg w0 w4.heap.size l 12 (oQ l) (dH l) (.slice none 0 0) (w4.alloc (.cells #[.int .i64 (dK l 8 2),.bool (dH l),.slice none 0 0] 37)):=
  ⟨wX.s.alloc _,wX.z.alloc _,wX.a.alloc _,Bx.new w4 _ [.int .i64 (dK l 8 2),.bool (dH l),.slice none 0 0],wX.le.alloc wX.le.size _,wX.a.lt⟩
 obtain⟨gT,hgT⟩:∃gT,gT=w4.heap.size:=⟨_,rfl⟩;rw[<-hgT]at xZ;simp only[<-hgT];clear hgT hfin wX;generalize w4.alloc (.cells #[.int .i64 (dK l 8 2),.bool (dH l),.slice none 0 0] 37)=w5 at xZ ⊢;go_wp2_with fail;refine(nN xZ 2 2 rfl (by omega) (by omega) (by omega) hl1).mono ?_;rintro e w6 ⟨rfl,wu,_⟩;replace wu:qg w0 gT l 14 (oQ l) (dH l) (.slice none 0 0) w6:=wu;clear xZ;have hcn:(dK l 12 2:Nat)=n:=hc;have QJ:=zH (hcn.trans hc.symm);have c0:=wu.s.cell (i:=0) rfl;have hd4:((n:Int) != (16+20 * (n:Int) - 16) / 20)=false:=by rw[bne_eq_false_iff_eq]; omega
 have hsz2:=ax l;rw[hl]at hsz2;go_wp2_with fail;generalize Value.int .i64 (16+20 * (n:Int))=v15;generalize Value.bool (decide (16+20 * (n:Int)<16))=v16;generalize Value.bool (decide (1996<16+20 * (n:Int)))=v20;generalize Value.bool (decide (16+20 * (n:Int)<16) || decide (1996<16+20 * (n:Int)))=v21;generalize Value.int .i64 (16+20 * (n:Int) - 16)=v25;generalize Value.int .i64 ((16+20 * (n:Int) - 16) % 20)=v26;generalize Value.int .i64 ((16+20 * (n:Int) - 16) / 20)=v45;clear c0 hd4 hsz2 hcn;have hO6:w6.ownsRow (gT+1) 94 7 (.slice none 0 0) 0 (fK jy (iO l 0)):=⟨rfl,.inl ⟨rfl,rfl⟩⟩;have HCN:=zH hc;clear hc
 go_loopw [49] (fun vi wr=>∃(i:Nat)(v:Value),i<=n/\vi=.int .i64 i/\qg w0 gT l (14+20 * i) (oQ l) (dH l) v wr/\wr.ownsRow (gT+1) 94 7 v i (fK jy (iO l i))) (fun vi _=>n - (RowKit.intOf vi).toNat)
 case atStart=>exact⟨0,_,by omega,rfl,wu,hO6⟩
 case round=>
  clear wu hO6;obtain⟨i,vv,hi,rfl,HS,hO⟩:=hrel;by_cases hlt:i<n
  ·go_upto_region 12 with (fail)
   have HB:Hid (14+20 * i<=3000/\l.length<=1000000):=zH ⟨by omega,hl1⟩;have HN:Hid (i<=1000):=zH (by omega);have HH:Hid (w0.heap.size+2<gT/\gT+1<=wr.heap.size):=zH ⟨HS.g,HS.t.lt⟩;have ng:Hid (∀k,vv.ownBlock=some k->k<wr.heap.size):=zH (lM hO);have hC0:EM w0 gT wr.heap.size l (14+20 * i) (oQ l) (dH l) vv (iO l i) i 0 wr.drew:=⟨fun _=>HS.drew,fun _=>hO,fun h=>by omega,zl _⟩;obtain⟨o,ho⟩:∃o,o=14+20 * i:=⟨_,rfl⟩;obtain⟨H0,hH0⟩:∃H0,H0=wr.heap.size:=⟨_,rfl⟩;obtain⟨ts,hts⟩:∃ts,ts=iO l i:=⟨_,rfl⟩;rw[<-ho,<-hH0,<-hts]at hC0;rw[<-ho]at HB;rw[<-hH0]at HH ng;have HO:=zH ho;have HTS:=zH hts;clear ho hH0 hts HS hO;obtain⟨cl,hcl⟩:∃cl:Int,cl=oQ l:=⟨_,rfl⟩;rw[<-hcl]at hC0;have QE:=zH hcl;clear hcl;refine lY (by kernel_rfl) (CB H0 (gT+1) (i+1) (fK jy (ts++[nX l o]))) (EM w0 gT H0 l o cl (dH l) vv ts i) (LQ w0 gT H0 l o vv ts i) (fun _=>false) RX 9 (by kernel_rfl) (by kernel_rfl) (.inl (by kernel_rfl)) (Jf w0 gT H0 l o vv ts i) (hC0) ⟨?_,?s1,?_,?s3,?_,?s5,?_,?s7,?_,?s9,?_,?s11,?_,?s13,?_,?s15,?s16,?s17,?s18,?_,?s20,trivial⟩ ?_;all_goals first
    | (intro r a W hc hsz hold ah hnot hlo hhi hrk
       have o8:a.tmps.getD 8 undef=.func (.func 317) #[] #[.pointer (some ⟨w0.heap.size,0,none⟩),.pointer (some ⟨w0.heap.size+2,0,none⟩)]:=hold 8 (by kernel_rfl);have JS:a.tmps.getD 10 undef=.pointer (some ⟨gT,0,none⟩):=hold 10 (by kernel_rfl);clear hsz hold ah hnot hlo hhi hrk;refine ai rfl (ag rfl) ?_;refine aJ (CB.refl _ _ _ _ _ _) hc rfl fun K hK=>?_
       go_simp;exact hK)
    | skip
   try case s1=>
    intro r a W hc hsz hold ah hnot hlo hhi hrk;have d0:=zV 51 (.pointer (some ⟨gT,2,none⟩)) (ah 0 (by kernel_rfl) rfl _ rfl);have hr8:=hhi 20 8 rfl (by kernel_rfl);have hD:=(hc.1 hr8).t.cell (i:=2) rfl;clear hsz hold ah hnot hlo hhi hrk;refine ai rfl (ag rfl) ?_;refine aJ (v:=vv) (CB.refl _ _ _ _ _ _) hc rfl fun K hK=>?_
    go_simp;exact hK
   try case s3=>
    intro r a W hc hsz hold ah hnot hlo hhi hrk;have hr:=hrk 0 rfl;subst hr;have d2:=zV 53 (.func (.func 317) #[] #[.pointer (some ⟨w0.heap.size,0,none⟩),.pointer (some ⟨w0.heap.size+2,0,none⟩)]) (ah 2 (by kernel_rfl) rfl _ rfl);have e2:=zq d2;clear hsz hold ah hnot hlo hhi hrk;refine ai rfl (ag rfl) ?_;have hD:qg w0 gT l o cl (dH l) vv W:=hc.1 (by omega);have hcc:=nN hD 2 2 rfl (by omega) (by omega) (by have:=HB.out.1; omega) HB.out.2;clear hD;refine gy (v:=.int .i64 (dK l o 2)) fun K hK=>?_
    go_simp;refine hcc.mono ?_;rintro e w' ⟨rfl,h1,h2⟩;exact hK w' (CB.one h2 (by have:=HH.out; omega) (by have:=HH.out; omega)) (EM.next hc (by omega) h1 h2) rfl
   try case s5=>
    intro r a W hc hsz hold ah hnot hlo hhi hrk;have hr:=hrk 1 rfl;subst hr;have d4:=zV 55 (.func (.func 317) #[] #[.pointer (some ⟨w0.heap.size,0,none⟩),.pointer (some ⟨w0.heap.size+2,0,none⟩)]) (ah 4 (by kernel_rfl) rfl _ rfl);have e4:=zq d4;clear hsz hold ah hnot hlo hhi hrk;refine ai rfl (ag rfl) ?_;have hD:qg w0 gT l (o+2) cl (dH l) vv W:=hc.1 (by omega);have hcc:=nN hD 2 2 rfl (by omega) (by omega) (by have:=HB.out.1; omega) HB.out.2;clear hD;refine gy (v:=.int .i64 (dK l (o+2) 2)) fun K hK=>?_
    go_simp;refine hcc.mono ?_;rintro e w' ⟨rfl,h1,h2⟩;exact hK w' (CB.one h2 (by have:=HH.out; omega) (by have:=HH.out; omega)) (EM.next hc (by omega) h1 h2) rfl
   try case s7=>
    intro r a W hc hsz hold ah hnot hlo hhi hrk;have hr:=hrk 2 rfl;subst hr;have d6:=zV 57 (.func (.func 317) #[] #[.pointer (some ⟨w0.heap.size,0,none⟩),.pointer (some ⟨w0.heap.size+2,0,none⟩)]) (ah 6 (by kernel_rfl) rfl _ rfl);have e6:=zq d6;clear hsz hold ah hnot hlo hhi hrk;refine ai rfl (ag rfl) ?_;have hD:qg w0 gT l (o+4) cl (dH l) vv W:=hc.1 (by omega);have hcc:=nN hD 4 4 rfl (by omega) (by omega) (by have:=HB.out.1; omega) HB.out.2;clear hD;refine gy (v:=.int .i64 (dK l (o+4) 4)) fun K hK=>?_
    go_simp;refine hcc.mono ?_;rintro e w' ⟨rfl,h1,h2⟩;exact hK w' (CB.one h2 (by have:=HH.out; omega) (by have:=HH.out; omega)) (EM.next hc (by omega) h1 h2) rfl
   try case s9=>
    intro r a W hc hsz hold ah hnot hlo hhi hrk;have hr:=hrk 3 rfl;subst hr;have d8:=zV 59 (.func (.func 317) #[] #[.pointer (some ⟨w0.heap.size,0,none⟩),.pointer (some ⟨w0.heap.size+2,0,none⟩)]) (ah 8 (by kernel_rfl) rfl _ rfl);have e8:=zq d8;clear hsz hold ah hnot hlo hhi hrk;refine ai rfl (ag rfl) ?_;have hD:qg w0 gT l (o+8) cl (dH l) vv W:=hc.1 (by omega);have hcc:=nN hD 4 4 rfl (by omega) (by omega) (by have:=HB.out.1; omega) HB.out.2;clear hD;refine gy (v:=.int .i64 (dK l (o+8) 4)) fun K hK=>?_
    go_simp;refine hcc.mono ?_;rintro e w' ⟨rfl,h1,h2⟩;exact hK w' (CB.one h2 (by have:=HH.out; omega) (by have:=HH.out; omega)) (EM.next hc (by omega) h1 h2) rfl
   try case s11=>
    intro r a W hc hsz hold ah hnot hlo hhi hrk;have hr:=hrk 4 rfl;subst hr;have d10:=zV 61 (.func (.func 317) #[] #[.pointer (some ⟨w0.heap.size,0,none⟩),.pointer (some ⟨w0.heap.size+2,0,none⟩)]) (ah 10 (by kernel_rfl) rfl _ rfl);have e10:=zq d10;clear hsz hold ah hnot hlo hhi hrk;refine ai rfl (ag rfl) ?_;have hD:qg w0 gT l (o+12) cl (dH l) vv W:=hc.1 (by omega);have hcc:=nN hD 4 4 rfl (by omega) (by omega) (by have:=HB.out.1; omega) HB.out.2;clear hD;refine gy (v:=.int .i64 (dK l (o+12) 4)) fun K hK=>?_
    go_simp;refine hcc.mono ?_;rintro e w' ⟨rfl,h1,h2⟩;exact hK w' (CB.one h2 (by have:=HH.out; omega) (by have:=HH.out; omega)) (EM.next hc (by omega) h1 h2) rfl
   try case s13=>
    intro r a W hc hsz hold ah hnot hlo hhi hrk;have hr:=hrk 5 rfl;subst hr;have d12:=zV 63 (.func (.func 317) #[] #[.pointer (some ⟨w0.heap.size,0,none⟩),.pointer (some ⟨w0.heap.size+2,0,none⟩)]) (ah 12 (by kernel_rfl) rfl _ rfl);have e12:=zq d12;clear hsz hold ah hnot hlo hhi hrk;refine ai rfl (ag rfl) ?_;have hD:qg w0 gT l (o+16) cl (dH l) vv W:=hc.1 (by omega);have hcc:=nN hD 2 2 rfl (by omega) (by omega) (by have:=HB.out.1; omega) HB.out.2;clear hD;refine gy (v:=.int .i64 (dK l (o+16) 2)) fun K hK=>?_
    go_simp;refine hcc.mono ?_;rintro e w' ⟨rfl,h1,h2⟩;exact hK w' (CB.one h2 (by have:=HH.out; omega) (by have:=HH.out; omega)) (EM.next hc (by omega) h1 h2) rfl
   try case s15=>
    intro r a W hc hsz hold ah hnot hlo hhi hrk;have hr:=hrk 6 rfl;subst hr;have d14:=zV 65 (.func (.func 317) #[] #[.pointer (some ⟨w0.heap.size,0,none⟩),.pointer (some ⟨w0.heap.size+2,0,none⟩)]) (ah 14 (by kernel_rfl) rfl _ rfl);have e14:=zq d14;clear hsz hold ah hnot hlo hhi hrk;refine ai rfl (ag rfl) ?_;have hD:qg w0 gT l (o+18) cl (dH l) vv W:=hc.1 (by omega);have hcc:=nN hD 2 2 rfl (by omega) (by omega) (by have:=HB.out.1; omega) HB.out.2;clear hD;refine gy (v:=.int .i64 (dK l (o+18) 2)) fun K hK=>?_
    go_simp;refine hcc.mono ?_;rintro e w' ⟨rfl,h1,h2⟩;exact hK w' (CB.one h2 (by have:=HH.out; omega) (by have:=HH.out; omega)) (EM.next hc (by omega) h1 h2) rfl
   try case s16=>
    intro r a W hc hsz hold ah hnot hlo hhi hrk;have d3:=zV 54 (.int .i64 (dK l o 2)) (ah 3 (by kernel_rfl) rfl _ rfl);have e3:=zq d3;have d5:=zV 56 (.int .i64 (dK l (o+2) 2)) (ah 5 (by kernel_rfl) rfl _ rfl);have e5:=zq d5;have d7:=zV 58 (.int .i64 (dK l (o+4) 4)) (ah 7 (by kernel_rfl) rfl _ rfl);have e7:=zq d7;have d9:=zV 60 (.int .i64 (dK l (o+8) 4)) (ah 9 (by kernel_rfl) rfl _ rfl);have e9:=zq d9;have d11:=zV 62 (.int .i64 (dK l (o+12) 4)) (ah 11 (by kernel_rfl) rfl _ rfl);have e11:=zq d11;have d13:=zV 64 (.int .i64 (dK l (o+16) 2)) (ah 13 (by kernel_rfl) rfl _ rfl);have e13:=zq d13;have d15:=zV 66 (.int .i64 (dK l (o+18) 2)) (ah 15 (by kernel_rfl) rfl _ rfl);have e15:=zq d15;clear hsz hold ah hnot hlo hhi hrk;refine ai rfl (ag rfl) ?_;refine aJ (v:=.agg #[.int .i64 (dK l o 2),.int .i64 (dK l (o+2) 2),.int .i64 (dK l (o+4) 4),.int .i64 (dK l (o+8) 4),.int .i64 (dK l (o+12) 4),.int .i64 (dK l (o+16) 2),.int .i64 (dK l (o+18) 2)]) (CB.refl _ _ _ _ _ _) hc rfl fun K hK=>?_
    go_simp;exact hK
   try case s17=>
    intro r a W hc hsz hold ah hnot hlo hhi hrk;have d16:=zV 67 (.agg #[.int .i64 (dK l o 2),.int .i64 (dK l (o+2) 2),.int .i64 (dK l (o+4) 4),.int .i64 (dK l (o+8) 4),.int .i64 (dK l (o+12) 4),.int .i64 (dK l (o+16) 2),.int .i64 (dK l (o+18) 2)]) (ah 16 (by kernel_rfl) rfl _ rfl);have e16:=zq d16;clear hsz hold ah hnot hlo hhi hrk;refine ai rfl (ag rfl) ?_;have hN:=Bx.new W 94 (jy (nX l o));have hbN:=(zB W.heap.size W).alloc (zl _) (.cells (jy (nX l o)).toArray 94);refine jw (v:=.slice (some ⟨W.heap.size,0,none⟩) 1 1) (CB.call hbN) (hc.call hbN) ⟨W.heap.size,rfl,hc.2.2.2,hN⟩ fun K hK=>?_
    have e:(jy (nX l o)).toArray = #[.int .i64 (dK l o 2),.int .i64 (dK l (o+2) 2),.int .i64 (dK l (o+4) 4),.int .i64 (dK l (o+8) 4),.int .i64 (dK l (o+12) 4),.int .i64 (dK l (o+16) 2),.int .i64 (dK l (o+18) 2)]:=rfl;rw[e]at hK;clear e hN hbN hc;go_simp;exact hK
   try case s18=>
    intro r a W hc hsz hold ah hnot hlo hhi hrk;have hr:=hrk 7 rfl;subst hr;have d1:=zV 52 vv (ah 1 (by kernel_rfl) rfl _ rfl);have e1:=zq d1;have x17:=ah 17 (by kernel_rfl) rfl _ rfl;clear hsz hold ah hnot hlo hhi hrk;refine ai rfl (ag rfl) ?_;obtain⟨g,d17,hg0,hgx⟩:∃g,a.tmps.getD 68 undef=.slice (some ⟨g,0,none⟩) 1 1/\H0<=g/\Bx W g 94 (jy (nX l o)):=x17;have hrd:dX T.z jy 7 W (.slice (some ⟨g,0,none⟩) 1 1) [nX l o]:=⟨_,_,g,0,rfl,zl _,fun i hi=>⟨rfl,fun j u hu=>by
     obtain rfl:i=0:=by simp at hi; omega
     simp only[Nat.zero_mul,Nat.zero_add];exact hgx.cell hu⟩⟩
    have hown:=hc.2.1 (by omega);have hD:qg w0 gT l (o+20) cl (dH l) vv W:=hc.1 (by omega);have hsz:=hc.2.2.2;obtain⟨i0,hi,hz0,hz1,hz2⟩:=info_parts infoTrk;refine Ui (.tmp 52) (.tmp 68) rfl underlying35 hi hz0 hz1 hz2 rfl (by omega) hown d1 (hrd.reads fA) d17 (Xd Yu _) (by unfold maxLen; simp only[List.length_singleton]; have:=HN.out; omega) (by simp only[List.length_singleton]; have:=HN.out; omega) (by have:=HH.out; omega) fun v' w' h1 h2=>?_
    rw[<-rY]at h1;have hb4:=(zB (gT+1) W).grown h2 (by have:=HH.out; omega) (dP hown);have hC8:EM w0 gT H0 l o cl (dH l) vv ts i 8 w':=⟨fun _=>hD.own hb4,fun h=>by omega,fun h=>by omega,zT hsz h2.size⟩;exact⟨v',rfl,⟨fun k hk hl=>h2.block k hl (fun e=>by have:=ng.out k e.symm; omega),h2.size,fun h=>by omega⟩,hC8,h1⟩
   try case s20=>
    intro r a W hc hsz hold ah hnot hlo hhi hrk;have hr:=hrk 8 rfl;subst hr;have d19:=zV 70 (.pointer (some ⟨gT,2,none⟩)) (ah 19 (by kernel_rfl) rfl _ rfl);have x18:=ah 18 (by kernel_rfl) rfl _ rfl;clear hsz hold ah hnot hlo hhi hrk;refine ai rfl (ag rfl) ?_;have hD:qg w0 gT l (o+20) cl (dH l) vv W:=hc.1 (by omega);have ho:W.ownsRow (gT+1) 94 7 (a.tmps.getD 69 undef) (i+1) (fK jy (ts++[nX l o])):=x18;obtain⟨a9,c9,d18⟩:=bu ho;rw[d18]at ho;have hsz:=hc.2.2.2;have hf:=hD.t.free;have c0:=hD.t.cell (i:=2) rfl;have ho2:=kW ho (p:=⟨gT,2,none⟩) (by simp only; omega) (.slice a9 (i+1) c9);have hC9:EM w0 gT H0 l o cl (dH l) vv ts i 9 (W.setCell ⟨gT,2,none⟩ (.slice a9 (i+1) c9)):=⟨fun h=>by omega,fun h=>by omega,fun _=>⟨_,hD.put (.slice a9 (i+1) c9),ho2⟩,by simp[World.setCell]; exact hsz⟩;refine jw (v:=undef) ⟨fun k hk hl=>zh _ _ _ _ (by have:=HH.out; simp only; omega),by simp[World.setCell],fun _ v' h=>kW h (p:=⟨gT,2,none⟩) (by simp only; omega) _⟩ hC9 trivial fun K hK=>?_
    clear hD ho ho2 hc hC9;go_simp;exact hK
   ·intro a W hC hd hsz hold hval;obtain⟨G,hG,ha⟩:=cO [51,52,53,54,55,56,57,58,59,60,61,62,63,64,65,66,67,68,69,70] (by kernel_rfl) hd hsz hold;rw[ha];clear ha hG hd hsz hold;simp only[bI,List.setIfInBounds_toArray,List.set];clear hval;obtain⟨v',h1,h2⟩:=hC.2.2.1 rfl;clear hC;go_wp2_with fail;go_roundw;case rel=>
     rw[HO.out,QE.out]at h1;rw[HTS.out,HO.out,<-Qm]at h2;exact⟨i+1,v',by omega,by go_num,by simpa[Nat.mul_add,Nat.add_assoc]using h1,h2⟩
    case measure=>simp[RowKit.intOf]; omega
  ·obtain rfl:i=n:=by omega
   obtain⟨va,vc,rfl⟩:=bu hO;have hRK:aW wr (.slice va i vc) (iO l i):=by have h:=dX.bM (d:=T.z) fA (by rw[jJ]; exact hO);exact h
   obtain⟨ts,hts⟩:∃ts,ts=iO l i:=⟨_,rfl⟩;have hfew:=Xc l i hn;have htl:=jJ l i;rw[<-hts]at hRK hfew htl;have HTS:=zH hts;have HO:=zH hO;clear hts hO;have NW:=zH (fun W hW=>jH cap (dK l 4 4) (oQ l) (dH l) (.slice va i vc) ts W hW (.inl hfew) (by have:=kY l 8 2 (by omega); unfold oQ; omega));have c0:=HS.t.cell (i:=0) rfl;have c1:=HS.t.cell (i:=1) rfl;have c2:=HS.t.cell (i:=2) rfl;go_wp2_with fail;refine(NW.out _ hRK).mono ?_;have hOK:okD cap l=(decide ((fD cap (dK l 4 4) (oQ l) (dH l) ts).2=0) && decide ((fD cap (dK l 4 4) (oQ l) (dH l) ts).1=l)):=by rw[HTS.out]; exact abt hl HCN.out
   generalize fD cap (dK l 4 4) (oQ l) (dH l) ts=R at hOK;obtain⟨again,code⟩:=R;rintro e w9 ⟨rfl,wI⟩;have IU:=HS.call wI;clear NW c0 c1 c2 hRK HS;have c0:=IU.t.cell (i:=0) rfl;have c1:=IU.t.cell (i:=1) rfl;have c2:=IU.t.cell (i:=2) rfl;have hs0:=IU.s.cell (i:=0) rfl;have z0:=IU.z.cell (i:=0) rfl;have z1:=IU.z.cell (i:=1) rfl;have z2:=IU.z.cell (i:=2) rfl;have hzf:=IU.z.free;have Tz:=IU.t.lt;have hg9:=IU.g;have HO9:Hid (w9.ownsRow (gT+1) 94 7 (.slice (va) i vc) i (fK jy ts)):=zH (by rw[HTS.out]; exact bz HO.out wI);have jE:=zH IU.le;clear IU;have CO:Hid (okD cap l=true->(oQ l:Int)=oQ l/\dH l=dH l/\ts=iO l (mi l)/\((dK l 4 4:Nat):Int)=dI l):=zH fun _=>⟨rfl,rfl,by rw[HCN.out]; exact HTS.out,rfl⟩
   by_cases hcode:code=0
   ·subst hcode;by_cases hag:again=l
    ·subst hag;have FZ:okD cap again=true:=by rw[hOK]; simp
     have ni:=zH FZ;have hse:=U5 (rfl:again=again);clear hOK FZ;go_wp2_with fail
     go_region
     all_goals
      go_wp2_with fail;refine zr (v:=.tuple #[au (oQ again) (dH again) (.slice va i vc),.int .i64 (dK again 4 4),.bool true]) (by simp[results,results246,go_sem,z0,z1,z2]) rfl ?_;exact⟨oQ again,dH again,_,ts,dK again 4 4,by rw[ni.out],vK HO9.out htl (by omega) _ _ _,(((jE.out.setCell (by simp) _).setCell (by simp) _).setCell (by simp) _).drew,fun h=>⟨rfl,rfl,(CO.out h).2.2.1,(CO.out h).2.2.2⟩⟩
    ·have FZ:okD cap l=false:=by rw[hOK]; simp[hag]
     have ni:=zH FZ;have hse:=Qk hag;clear hOK FZ hag;go_wp2_with fail
     go_region
     all_goals
      go_wp2_with fail;refine zr (v:=.tuple #[au (oQ l) (dH l) (.slice va i vc),.int .i64 (dK l 4 4),.bool false]) (by simp[results,results246,go_sem,z0,z1,z2]) rfl ?_;exact⟨oQ l,dH l,_,ts,dK l 4 4,by rw[ni.out],vK HO9.out htl (by omega) _ _ _,(((jE.out.setCell (by simp) _).setCell (by simp) _).setCell (by simp) _).drew,fun h=>⟨rfl,rfl,(CO.out h).2.2.1,(CO.out h).2.2.2⟩⟩
   ·have FZ:okD cap l=false:=by rw[hOK]; simp[hcode]
    have ni:=zH FZ;have hse:(code == 0)=false:=beq_eq_false_iff_ne.2 hcode;clear hOK FZ hcode;go_wp2_with fail
    go_region
    all_goals
     go_wp2_with fail;refine zr (v:=.tuple #[au (oQ l) (dH l) (.slice va i vc),.int .i64 (dK l 4 4),.bool false]) (by simp[results,results246,go_sem,z0,z1,z2]) rfl ?_;exact⟨oQ l,dH l,_,ts,dK l 4 4,by rw[ni.out],vK HO9.out htl (by omega) _ _ _,(((jE.out.setCell (by simp) _).setCell (by simp) _).setCell (by simp) _).drew,fun h=>⟨rfl,rfl,(CO.out h).2.2.1,(CO.out h).2.2.2⟩⟩
theorem Jg(cap:Int)(l:List UInt8)(n:Nat)(w:World)(hl:l.length=16+20 * n)(hn:n<=99)(hc:mi l≠n):Calls prog 246 #[.int .i64 cap,.string (str l)] w (IJ cap l w):=by
 have hsz:=ax l;rw[hl]at hsz;obtain⟨w0,rfl⟩:∃w0:World,w0=w:=⟨_,rfl⟩;have hd0:16<=16+20 * (n:Int):=by omega
 have hd1:16+20 * (n:Int)<=1996:=by omega
 have hd3:((16+20 * (n:Int) - 16) % 20 != 0)=false:=by rw[bne_eq_false_iff_eq]; omega
 go_enter func246,ntmps246;go_upto_region 5 with (fail)
 have xY:VA w0 l 4 (((w0.alloc (.cells #[.string (str l)] 9)).alloc (.cells #[.int .i64 0,.bool false,.slice none 0 0] 37)).alloc (.cells #[.int .i64 4] 3)):=
  ⟨((Bx.new w0 _ _).alloc _).alloc _,by have:=(Bx.new (w0.alloc (.cells #[.string (str l)] 9)) 37 [.int .i64 0,.bool false,.slice none 0 0]).alloc (.cells #[.int .i64 4] 3); rw[World.size_alloc]at this; exact this,
    by have:=Bx.new ((w0.alloc (.cells #[.string (str l)] 9)).alloc (.cells #[.int .i64 0,.bool false,.slice none 0 0] 37)) 3 [.int .i64 4]; rw[World.size_alloc,World.size_alloc]at this; exact this,
    (((zB _ _).alloc (zl _) _).alloc (by simp) _).alloc (by simp; omega) _⟩
 generalize ((w0.alloc (.cells #[.string (str l)] 9)).alloc (.cells #[.int .i64 0,.bool false,.slice none 0 0] 37)).alloc (.cells #[.int .i64 4] 3)=w1 at xY ⊢;simp only[show w0.heap.size+1+1=w0.heap.size+2 from rfl];have hl1:l.length<=1000000:=by omega
 clear hd0 hd1 hd3 hsz;go_wp2_with fail;refine(vF xY 4 4 rfl (by omega) (by omega) (by omega) hl1).mono ?_;rintro e w2 ⟨rfl,HS2⟩;replace HS2:VA w0 l 8 w2:=HS2;go_wp2_with fail;refine(vF HS2 2 2 rfl (by omega) (by omega) (by omega) hl1).mono ?_;rintro e w3 ⟨rfl,qQ⟩;replace qQ:VA w0 l 10 w3:=qQ;go_wp2_with fail;refine(vF qQ 2 2 rfl (by omega) (by omega) (by omega) hl1).mono ?_;rintro e w4 ⟨rfl,wX⟩;replace wX:VA w0 l 12 w4:=wX;clear xY HS2 qQ;have hfin:(((dK l 10 2:Nat):Int) == 1)=dH l:=by unfold dH;rw[Bool.eq_iff_iff,beq_iff_eq,beq_iff_eq];omega
 go_upto_region 7 with (fail)
 have xZ:qg w0 w4.heap.size l 12 (oQ l) (dH l) (.slice none 0 0) (w4.alloc (.cells #[.int .i64 (dK l 8 2),.bool (dH l),.slice none 0 0] 37)):=
  ⟨wX.s.alloc _,wX.z.alloc _,wX.a.alloc _,Bx.new w4 _ [.int .i64 (dK l 8 2),.bool (dH l),.slice none 0 0],wX.le.alloc wX.le.size _,wX.a.lt⟩
 obtain⟨gT,hgT⟩:∃gT,gT=w4.heap.size:=⟨_,rfl⟩;rw[<-hgT]at xZ;simp only[<-hgT];clear hgT hfin wX;generalize w4.alloc (.cells #[.int .i64 (dK l 8 2),.bool (dH l),.slice none 0 0] 37)=w5 at xZ ⊢;go_wp2_with fail;refine(nN xZ 2 2 rfl (by omega) (by omega) (by omega) hl1).mono ?_;rintro e w6 ⟨rfl,wu,_⟩;replace wu:qg w0 gT l 14 (oQ l) (dH l) (.slice none 0 0) w6:=wu;clear xZ;have hok:okD cap l=false:=by rw[Bool.eq_false_iff];intro h;have:=(ug.1 h).1.2;omega
 have ni:=zH hok;obtain⟨m,hm⟩:∃m,m=dK l 12 2:=⟨_,rfl⟩;have hmn:m≠n:=by rw[hm]; exact hc
 simp only[<-hm];have c0:=wu.s.cell (i:=0) rfl;have z0:=wu.z.cell (i:=0) rfl;have z1:=wu.z.cell (i:=1) rfl;have z2:=wu.z.cell (i:=2) rfl;have hzf:=wu.z.free;have hzl:=wu.z.lt;have hd4:((m:Int) != (16+20 * (n:Int) - 16) / 20)=true:=by rw[bne_iff_ne]; omega
 have hsz2:=ax l;rw[hl]at hsz2;have jE:=zH wu.le;clear hok hc hm hmn wu;go_wp2_with fail;refine zr (v:=.tuple #[au 0 false (.slice none 0 0),.int .i64 0,.bool false]) (by simp[results,results246,go_sem,z0,z1,z2]) rfl ?_;refine⟨0,false,_,[],0,by rw[ni.out],aW.nil _,?_,fun h=>by rw[ni.out]at h; cases h⟩;exact((jE.out.setCell (by simp) _).setCell (by simp) _).setCell (by simp) _
theorem decode_short(cap:Int)(l:List UInt8)(w:World)(hl:l.length<=1000000)(h1:l.length<16)(hok:okD cap l=false):Calls prog 246 #[.int .i64 cap,.string (str l)] w (IJ cap l w):=by
 have hsz:=ax l;obtain⟨n,hn⟩:∃n,n=l.length:=⟨_,rfl⟩;rw[<-hn]at hsz h1;obtain⟨w0,rfl⟩:∃w0:World,w0=w:=⟨_,rfl⟩;have ni:=zH hok;have HN:=zH hn;have hbb:n<=1000000:=by omega
 clear hok hn hl;go_enter func246,ntmps246;go_wp2_with fail;refine zr (v:=.tuple #[au 0 false (.slice none 0 0),.int .i64 0,.bool false]) (by simp[results,results246,go_sem]) rfl ?_;refine⟨0,false,_,[],0,by rw[ni.out],aW.nil _,?_,fun h=>by rw[ni.out]at h; cases h⟩;exact((zB _ _).alloc (zl _) _).alloc (by simp) _
theorem FB(cap:Int)(l:List UInt8)(w:World)(hl:l.length<=1000000)(h1:1996<l.length)(hok:okD cap l=false):Calls prog 246 #[.int .i64 cap,.string (str l)] w (IJ cap l w):=by
 have hsz:=ax l;obtain⟨n,hn⟩:∃n,n=l.length:=⟨_,rfl⟩;rw[<-hn]at hsz h1;obtain⟨w0,rfl⟩:∃w0:World,w0=w:=⟨_,rfl⟩;have ni:=zH hok;have HN:=zH hn;have hbb:n<=1000000:=by omega
 clear hok hn hl;go_enter func246,ntmps246;go_wp2_with fail;refine zr (v:=.tuple #[au 0 false (.slice none 0 0),.int .i64 0,.bool false]) (by simp[results,results246,go_sem]) rfl ?_;refine⟨0,false,_,[],0,by rw[ni.out],aW.nil _,?_,fun h=>by rw[ni.out]at h; cases h⟩;exact((zB _ _).alloc (zl _) _).alloc (by simp) _
theorem Jh(cap:Int)(l:List UInt8)(w:World)(hl:l.length<=1000000)(h1:16<=l.length)(h2:l.length<=1996)(h3:((l.length:Int) - 16) % 20≠0)(hok:okD cap l=false):Calls prog 246 #[.int .i64 cap,.string (str l)] w (IJ cap l w):=by
 have hsz:=ax l;obtain⟨n,hn⟩:∃n,n=l.length:=⟨_,rfl⟩;rw[<-hn]at hsz h1 h2 h3;obtain⟨w0,rfl⟩:∃w0:World,w0=w:=⟨_,rfl⟩;have ni:=zH hok;have h4:(((n:Int) - 16) % 20 != 0)=true:=bne_iff_ne.2 h3;have HN:=zH hn;have hbb:n<=1000000:=by omega
 clear hok hn hl;go_enter func246,ntmps246;go_wp2_with fail;refine zr (v:=.tuple #[au 0 false (.slice none 0 0),.int .i64 0,.bool false]) (by simp[results,results246,go_sem]) rfl ?_;refine⟨0,false,_,[],0,by rw[ni.out],aW.nil _,?_,fun h=>by rw[ni.out]at h; cases h⟩;exact((zB _ _).alloc (zl _) _).alloc (by simp) _
theorem decode_any(cap:Int)(l:List UInt8)(w:World)(hl:l.length<=1000000):Calls prog 246 #[.int .i64 cap,.string (str l)] w (IJ cap l w):=by
 have bad:(¬ ∃n,l.length=16+20 * n/\n<=99)->okD cap l=false:=fun h=>by rw[Bool.eq_false_iff];intro h1;have h2:=ug.1 h1;have h3:=h2.2.1.2.2.1;rw[jJ]at h3;exact h ⟨_,h2.1.2,h3⟩
 by_cases h1:l.length<16
 ·exact decode_short cap l w hl h1 (bad fun⟨n,h,_⟩=>by omega)
 by_cases h2:1996<l.length
 ·exact FB cap l w hl h2 (bad fun⟨n,h,_⟩=>by omega)
 by_cases h3:((l.length:Int) - 16) % 20=0
 ·obtain⟨n,hn⟩:∃n,l.length=16+20 * n:=⟨(l.length - 16) / 20,by omega⟩;by_cases hc:mi l=n
  ·exact FC cap l n w hn (by omega) hc
  ·exact Jg cap l n w hn (by omega) hc
 ·exact Jh cap l w hl (by omega) (by omega) h3 (bad fun⟨n,h,_⟩=>by omega)
end E1
end Go.Proofs.YtfnehkmhcmkhjaaGreat
