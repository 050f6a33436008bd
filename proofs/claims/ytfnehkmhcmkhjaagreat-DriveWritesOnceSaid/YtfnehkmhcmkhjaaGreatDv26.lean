/- Parts:XLb XWv XWa XWf XWr XWq XWl XWm XEn7 XTkFw -/
import Derived.Test.YtfnehkmhcmkhjaaGreatDvAl
import Derived.Test.YtfnehkmhcmkhjaaGreatDv22
set_option maxRecDepth 100000
set_option maxHeartbeats 8000000
set_option linter.unusedVariables false
namespace Go.Proofs.YtfnehkmhcmkhjaaGreat
open Tryz
namespace T7
open Go.ChangeShapes Go.WideShapes Go.RowKit Go.Deep Go.Joins Go C9 oH
def uK(w:World)(v:Value)(l:List (List UInt8)):Prop:=gU w v l/\l.length<=9223372036854775807/\∀i,i<l.length->(bF [] l i).length<=9223372036854775807
theorem uK.keep{w w':World}{v:Value}{l:List (List UInt8)}(h:uK w v l)(hb:Below w.heap.size w w'):uK w' v l:=⟨dX.keep h.1 hb,h.2⟩
structure AX where
 kind:Int
 k:Int
 aj:Int
 cnt:Int
 aN:Int
 pk:Int
 L:List (List UInt8)
 vb:Value
 scr:List Sc
 vs:Value
 d:Dam
 vE:Value
 vC:Value
def axz:AX:=⟨0,0,0,0,0,0,[],.slice none 0 0,[],.slice none 0 0,⟨0,[],[]⟩,.slice none 0 0,.slice none 0 0⟩
def Ws(x:AX):List Value:=[.int .i64 x.kind,.int .i64 x.k,.int .i64 x.aj,.int .i64 x.cnt,.int .i64 x.aN,.int .i64 x.pk,x.vb,x.vs,.int .i64 x.d.aj,x.vE,x.vC]
structure uJ (w:World) (x:AX):Prop where
 kind:In64 x.kind
 k:In64 x.k
 aj:In64 x.aj
 cnt:In64 x.cnt
 aN:In64 x.aN
 pk:In64 x.pk
 L:uK w x.vb x.L
 s:xX w x.vs x.scr
 d:EK w x.vE x.vC x.d
theorem uJ.keep{w w':World}{x:AX}(h:uJ w x)(hb:Below w.heap.size w w'):uJ w' x:=⟨h.kind,h.k,h.aj,h.cnt,h.aN,h.pk,h.L.keep hb,h.s.keep hb,h.d.keep hb⟩
def qc(w:World)(v:Value)(l:List AX):Prop:=dX axz Ws 11 w v l/\l.length<=9223372036854775807/\∀i,i<l.length->uJ w (bF axz l i)
theorem qc.keep{w w':World}{v:Value}{l:List AX}(h:qc w v l)(hb:Below w.heap.size w w'):qc w' v l:=⟨dX.keep h.1 hb,h.2.1,fun i hi=>(h.2.2 i hi).keep hb⟩
section
variable {H:Type} {enc:TypeId×Value->H} {w:World} {base b0:Nat} {sp:Nat->Bool} {held:Bool}
theorem cells15s:prog.cellsOf 9=1:=by kernel_rfl
theorem cells15b:prog.cellsOf 45=1:=by kernel_rfl
theorem cells15c:prog.cellsOf 49=6:=by kernel_rfl
theorem cells15a:prog.cellsOf 54=11:=by kernel_rfl
theorem abl{n:Nat}{v:Value}{x:DataW H×List MemPlace}(hd:DataW.trod enc prog w base sp held n 45 [v]=some x):∃l,uK w v l:=by
 obtain⟨l,h1,h2,h3⟩:=pM ([]:List UInt8) wU (fun x=>x.length<=9223372036854775807) underlying45 cells15s (by omega) (fun n cs x h=>by
  obtain⟨s,h1,_,h2⟩:=DataW.trod_string underlying9 h;refine⟨s.data.toList,by rw[h1]; show _ = [Value.string (str s.data.toList)]; rw[<-Ia s],?_⟩;have:(str s.data.toList).size=s.data.toList.length:=ax _;rw[<-Ia s]at this;unfold maxLen at h2;omega) hd
 exact⟨l,h1,h2,h3⟩
theorem Oh(n:Nat)(cs:List Value)(x:DataW H×List MemPlace)(h:DataW.trod enc prog w base sp held n 49 cs=some x):
 ∃(k aj cnt aN pk:Int)(vb:Value)(L:List (List UInt8)),cs = [.int .i64 k,.int .i64 aj,.int .i64 cnt,.int .i64 aN,.int .i64 pk,vb]/\In64 k/\In64 aj/\In64 cnt/\In64 aN/\In64 pk/\uK w vb L:=by
 obtain⟨ys,n',_,_,hlen,hyl,hf⟩:=DataW.trod_struct underlying49 h;rw[cells15c]at hlen
 match cs,hlen with
 | [c0,c1,c2,c3,c4,c5],_=>
   have g0:DataW.trod enc prog w base sp held n' 3 (([c0,c1,c2,c3,c4,c5].drop 0).take (prog.cellsOf 3))=ys[0]?:=hf 0 _ rfl;have g1:DataW.trod enc prog w base sp held n' 3 (([c0,c1,c2,c3,c4,c5].drop 1).take (prog.cellsOf 3))=ys[1]?:=hf 1 _ rfl;have g2:DataW.trod enc prog w base sp held n' 3 (([c0,c1,c2,c3,c4,c5].drop 2).take (prog.cellsOf 3))=ys[2]?:=hf 2 _ rfl;have g3:DataW.trod enc prog w base sp held n' 3 (([c0,c1,c2,c3,c4,c5].drop 3).take (prog.cellsOf 3))=ys[3]?:=hf 3 _ rfl;have g4:DataW.trod enc prog w base sp held n' 3 (([c0,c1,c2,c3,c4,c5].drop 4).take (prog.cellsOf 3))=ys[4]?:=hf 4 _ rfl;have g5:DataW.trod enc prog w base sp held n' 45 (([c0,c1,c2,c3,c4,c5].drop 5).take (prog.cellsOf 45))=ys[5]?:=hf 5 _ rfl;rw[cells12i]at g0 g1 g2 g3 g4;rw[cells15b]at g5;simp only[List.drop,List.take]at g0 g1 g2 g3 g4 g5;obtain⟨a0,e0,w0⟩:=fM underlying3 g0 (eU hyl (by decide));obtain⟨a1,e1,w1⟩:=fM underlying3 g1 (eU hyl (by decide));obtain⟨a2,e2,w2⟩:=fM underlying3 g2 (eU hyl (by decide));obtain⟨a3,e3,w3⟩:=fM underlying3 g3 (eU hyl (by decide));obtain⟨a4,e4,w4⟩:=fM underlying3 g4 (eU hyl (by decide));obtain⟨y5,hy5⟩:=qL (eU hyl (i:=5) (by decide));rw[hy5]at g5;obtain⟨l5,w5⟩:=abl g5;simp only[List.cons.injEq,and_true]at e0 e1 e2 e3 e4;subst e0 e1 e2 e3 e4;exact⟨a0,a1,a2,a3,a4,c5,l5,rfl,w0,w1,w2,w3,w4,w5⟩
theorem Rt(n:Nat)(cs:List Value)(x:DataW H×List MemPlace)(h:DataW.trod enc prog w base sp held n 54 cs=some x):∃t:AX,cs=Ws t/\uJ w t:=by
 obtain⟨ys,n',_,_,hlen,hyl,hf⟩:=DataW.trod_struct underlying54 h;rw[cells15a]at hlen
 match cs,hlen with
 | [c0,c1,c2,c3,c4,c5,c6,c7,c8,c9,c10],_=>
   have g0:DataW.trod enc prog w base sp held n' 3 (([c0,c1,c2,c3,c4,c5,c6,c7,c8,c9,c10].drop 0).take (prog.cellsOf 3))=ys[0]?:=hf 0 _ rfl;have g1:DataW.trod enc prog w base sp held n' 49 (([c0,c1,c2,c3,c4,c5,c6,c7,c8,c9,c10].drop 1).take (prog.cellsOf 49))=ys[1]?:=hf 1 _ rfl;have g2:DataW.trod enc prog w base sp held n' 27 (([c0,c1,c2,c3,c4,c5,c6,c7,c8,c9,c10].drop 7).take (prog.cellsOf 27))=ys[2]?:=hf 2 _ rfl;have g3:DataW.trod enc prog w base sp held n' 52 (([c0,c1,c2,c3,c4,c5,c6,c7,c8,c9,c10].drop 8).take (prog.cellsOf 52))=ys[3]?:=hf 3 _ rfl;rw[cells12i]at g0;rw[cells15c]at g1;rw[cells12s]at g2;rw[cells12d]at g3;simp only[List.drop,List.take]at g0 g1 g2 g3;obtain⟨a0,e0,w0⟩:=fM underlying3 g0 (eU hyl (by decide));obtain⟨y1,hy1⟩:=qL (eU hyl (i:=1) (by decide));obtain⟨y2,hy2⟩:=qL (eU hyl (i:=2) (by decide));obtain⟨y3,hy3⟩:=qL (eU hyl (i:=3) (by decide));rw[hy1]at g1;rw[hy2]at g2;rw[hy3]at g3;obtain⟨k,aj,cnt,aN,pk,vb,L,e1,k1,k2,k3,k4,k5,w1⟩:=Oh _ _ _ g1;obtain⟨l2,w2⟩:=abk g2;obtain⟨⟨d3,vE,vC⟩,e3,w3⟩:=Ol _ _ _ g3;simp only[List.cons.injEq,and_true]at e0 e1 e3;obtain⟨f1,f2,f3,f4,f5,f6⟩:=e1;obtain⟨f7,f8,f9⟩:=e3;subst e0 f1 f2 f3 f4 f5 f6 f7 f8 f9;exact⟨⟨a0,k,aj,cnt,aN,pk,L,c6,l2,c7,d3,c9,c10⟩,rfl,w0,k1,k2,k3,k4,k5,w1,w2,w3⟩
theorem O4{v:Value}{d:DataW H}{ps:List MemPlace}{r:Reach}(hval:Value.okWide prog w r b0 22 v)(hd:DataW.Trod enc prog w base sp held 22 v d ps):∃l,qc w v l:=by obtain⟨a,len,cap,rfl⟩:=okWide_slice underlying22 hval;obtain⟨fuel,hf⟩:=hd;obtain⟨l,h1,h2,h3⟩:=pM axz Ws (uJ w) underlying22 cells15a (by omega) (fun n cs x h=>Rt n cs x h) (by simpa[Value.cells]using hf);exact⟨l,h1,h2,h3⟩
end
end T7
namespace W8
open Go.RowKit Go.Shelf
attribute [local go_sem] Oper.semAt_some
theorem Vk(n:Nat)(w:World):CallsIn Fence.wide n prog 167 #[] w fun e w'=>e=.returned (.func (.func 248) #[] #[])/\w=w':=by refine callsIn_of_wp func167 rfl trivial ?_ rfl;simp only[ntmps167,List.size_toArray,List.length_nil,Nat.reduceSub,Array.replicate_succ,Array.replicate_zero,List.push_toArray,List.append_toArray,List.nil_append];gi_wp2;go_ret;exact⟨rfl,rfl⟩
def yL(m:Int):Int:=if m=0 then 12 else if m=1 then 16 else 0
def Dv(m:Int):Bool:=decide (m=0) || decide (m=1)
theorem first_any(m:Int)(w:World):Calls prog 142 #[.int .i64 m] w fun e w'=>e=.returned (.tuple #[.int .i64 (yL m),.bool (Dv m)])/\w=w':=by
 by_cases h0:m=0
 ·subst h0;go_enter func142,ntmps142;go_wp2_with fail;go_ret2;exact⟨rfl,rfl⟩
 ·by_cases h1:m=1
  ·subst h1;go_enter func142,ntmps142;go_wp2_with fail;go_ret2;exact⟨rfl,rfl⟩
  ·have e1:yL m=0:=by simp[yL,h0,h1]
   have e2:Dv m=false:=by simp[Dv,h0,h1]
   rw[e1,e2];have hb0:(m == 0)=false:=by simpa using h0
   have hb1:(m == 1)=false:=by simpa using h1
   have H0:=zH h0; have H1:=zH h1;clear e1 e2 h0 h1;go_enter func142,ntmps142;go_wp2_with fail;go_ret2;exact⟨rfl,rfl⟩
theorem PY{P:Program}(w:World){src dst e:TypeId}(hs:P.underlying src=some .string)(hd:P.underlying dst=some (.slice e))(he:P.underlying e=some (.int .u8))(l:List UInt8)(n:Nat)(hn:l.length=n):
 ∃w' cap,(convert src dst (.string (str l))).run P w=.ok (.slice (some ⟨w.heap.size,0,none⟩) n cap) w'/\Row w' e w.heap.size cap l/\Below w.heap.size w w'/\n<=cap:=by
 subst hn;have hsz:=ax l;refine⟨_,_,by rw[Lib.run_convert_string_bytes (P:=P) w src dst e (str l) hs hd he,hsz],?_,?_,?_⟩
 ·refine⟨Lib.bytesCells w e (str l),_,Lib.bytesWorld_at_new w e (str l),.inr (zl _),?_,by rw[ou w e (str l),hsz],?_⟩
  ·have:=grownCap_ge w l.length 0 e;simpa using this
  ·have hl:(str l).data.toList.length=l.length:=rfl;unfold Lib.bytesCells;rw[Array.toList_append,List.take_append_of_le_length (by simp[<-hl]),List.take_of_length_le (by simp[<-hl])];simp[bs,str]
 ·exact⟨rfl,rfl,rfl,by rw[Lib.bytesWorld_size]; omega,fun k hk=>Lib.bytesWorld_at_old w e (str l) k hk⟩
 ·have:=grownCap_ge w l.length 0 e;simpa using this
theorem XQ{w:World}{base e n:Nat}{v:Value}{l:List Int}(h:w.ownsRow base e 1 v n (is l))(hn:0<n):∃g c,v=.slice (some ⟨g,0,none⟩) n c/\∀i,i<n->w.cell? ⟨g,i,none⟩=some (.int .i64 (dm l i)):=by
 have hl:=h.1;rw[mP,Nat.mul_one]at hl;rcases h.2 with ⟨_,h0⟩ | ⟨g,cap,cur,rfl,hg,hh,hnn,hm,hcs,ht⟩
 ·omega
 ·exact⟨g,cap,rfl,fun i hi=>by rw[h.cellAt i (by omega),vz (by omega)]⟩
attribute [local go_sem] Oper.semAt_some
def L9(g cap n g1 c1:Nat)(f:Int)(v2:Value)(S:ByteArray)(i:Nat)(v:Value)(W:World):Prop:=match i with
 | 0=>v=.slice (some ⟨g,0,none⟩) 2352 cap
 | 1=>v=.slice (some ⟨g1,0,none⟩) n c1
 | 2=>v=.slice (some ⟨g1,0,none⟩) n c1
 | 3=>v=.int .i64 (n:Int)
 | 4=>v=.int .i64 ((n:Int) - 2)
 | 5=>v=v2
 | 6=>v=.int .i64 f
 | 7=>v=.string S
 | 8=>v=.string S
 | _=>True
theorem Jq(g cap n g1 c1:Nat)(f:Int)(v2:Value)(S:ByteArray)(i:Nat)(v:Value)(W W':World)(hR:(fun w W=>Below w.heap.size w W) W W')(h:L9 g cap n g1 c1 f v2 S i v W):L9 g cap n g1 c1 f v2 S i v W':=by unfold L9 at h ⊢;split at h <;> first | exact h
theorem Js(raw:List UInt8)(m:Int)(w:World)(h:Dv m=true)(hl:raw.length=2352):
 Calls prog 88 #[.string (str raw),.int .i64 m] w fun e w'=>e=.returned (.tuple #[.string (str (ji raw (yL m) 138)),.int .i64 0])/\Below w.heap.size w w':=by
 have HF:=zH (fun W=>first_any m W);rw[h]at HF;have ae6:yL m<=16:=by unfold yL; split <;> (try split) <;> omega
 have hs:(str raw).size=2352:=by rw[ax,hl]
 have HL:=zH hl;have HS:=zH hs;have hd:((2352:Int) != 2352)=false:=by decide
 generalize yL m=f at *;clear h hl;refine(callsIn_wide (n:=5)).1 ?_;refine callsIn_of_wp_marks func88 rfl trivial ?_ rfl;simp only[ntmps88,List.size_toArray,List.length_cons,List.length_nil,Nat.reduceAdd,Nat.reduceSub,Array.replicate_succ,Array.replicate_zero,List.push_toArray,List.append_toArray,List.nil_append,List.cons_append]
 gi_wp2_with (refine⟨trivial,?_⟩; gi_at_call 142; refine(callsIn_wide.2 (HF.out _)).mono ?_; rintro e w' ⟨rfl,rfl⟩)
 have hb1:Below w.heap.size w (w.alloc (.cells #[.int .i64 f] 3)):=(zB _ w).alloc (zl _) _;have X6:=Bx.new w 3 [.int .i64 f];have hg1:(w.alloc (.cells #[.int .i64 f] 3)).heap.size=w.heap.size+1:=by simp
 obtain⟨w2,cap,hrun,hr2,hb2,hcap⟩:=PY (P:=prog) (w.alloc (.cells #[.int .i64 f] 3)) underlying9 underlying65 underlying5 raw 2352 HL.out;rw[hg1]at hrun hr2 hb2;rw[hrun];simp only[Result.andThen];rw[Oper.uponIn_value];have hb2':=hb1.trans (hb2.mono (by omega));have X6:=X6.wK hb2 (by omega);have hlt2:=hr2.lt;clear hb1 hb2 hrun hg1
 gi_wp2_with (refine⟨trivial,?_⟩; gi_at_call 167; refine(Vk 4 _).mono ?_; rintro e w' ⟨rfl,rfl⟩)
 obtain⟨b6,hb6⟩:∃b,b=w.heap.size:=⟨_,rfl⟩;obtain⟨b8,hb8⟩:∃b,b=w2.heap.size:=⟨_,rfl⟩;obtain⟨g,hg⟩:∃b,b=w.heap.size+1:=⟨_,rfl⟩;rw[<-hg]at hr2 hlt2 ⊢;rw[<-hb6]at X6;have X8:=Bx.new w2 65 [.slice (some ⟨g,0,none⟩) 2352 cap];have hR:=hr2.below ((zB w2.heap.size w2).alloc (zl _) (.cells #[.slice (some ⟨g,0,none⟩) 2352 cap] 65));have X6':=X6.alloc (.cells #[.slice (some ⟨g,0,none⟩) 2352 cap] 65);have hB0:=hb2'.alloc hb2'.size (.cells #[.slice (some ⟨g,0,none⟩) 2352 cap] 65);rw[<-hb8]at X8;obtain⟨W0,hW0⟩:∃W0,W0=w2.alloc (.cells #[.slice (some ⟨g,0,none⟩) 2352 cap] 65):=⟨_,rfl⟩;have hs0:W0.heap.size=b8+1:=by rw[hW0,hb8]; simp
 have hord:b6<g/\g<b8:=by omega
 rw[<-hW0]at hR X6' X8 hB0;simp only[<-hb6,<-hb8,<-hW0];have V4:=zH hord;have aff:w.heap.size<=W0.heap.size:=hB0.size;have hbg:w.heap.size<=g/\w.heap.size<=b8:=by omega
 have xY:=zH hs0;clear X6 hr2 hb2' hlt2 hcap hord hb6 hb8 hg hW0 hs0;have hseq:=Ij 4 (by omega) W0;refine uF (n:=5) rfl (by omega) (gf:=248) (lb:=#[]) rfl trivial (enters_of func248 (by kernel_rfl) rfl) hseq rfl
  (fun k W=>(Row W 5 g cap (ji raw f k)/\Bx W b6 3 [.int .i64 f]/\Bx W b8 65 [.slice (some ⟨g,0,none⟩) 2352 cap])/\Below w.heap.size w W)
  (fun _ _=>False)
  (fun v=>{ tmps:=#[.string (str raw),.int .i64 m,undef,undef,.string ⟨#[]⟩,.int .i64 0,.pointer (some ⟨b6,0,none⟩),.bool true,.pointer (some ⟨b8,0,none⟩),v,undef,undef,undef,.tuple #[.int .i64 f,.bool true],.int .i64 m,.tuple #[.int .i64 f,.bool true],.int .i64 f,.bool true,.bool true,.bool false,.bool false,.string (str raw),.int .i64 2352,.bool false,.bool false,.string (str raw),.slice (some ⟨g,0,none⟩) 2352 cap,.func (.func 248) #[] #[],v,undef,undef,undef,undef,undef,undef,undef,undef,undef,undef,undef,undef,undef,undef,undef,undef,undef,undef,undef,undef],defers:=[] })
  (fun k=>((Qi _ _ _ _ _).and ((je _ _ _ _).and (je _ _ _ _))).and (pU (zl _) aff))
  (fun c=>dJ.const _ _)
  (fun k v=>GW.stays _ _ _ _) ⟨⟨hR,X6',X8⟩,hB0⟩ ?assign ?body ?done ?stop
 case assign=>
  intro l v W K _ hK;gi_wp2;exact hK
 case body=>
  rintro l k v W1 hk ⟨⟨hr,x6,x8⟩,hb⟩ hg;clear hR X6' X8 hB0 hseq;have hwb:=Zw hk;have hwl:=kN k;have hlen:(wd k).length<=45:=by rw[hwl]; split <;> omega
  have hlen2:26<=(wd k).length:=by rw[hwl]; split <;> omega
  have hel:=iR raw f k;rw[HL.out]at hel;have hep:=SG raw f k hk ae6;obtain⟨g1,c1,rfl,_⟩:=XQ hg (by omega);have hri:=Ea (w:=W1) hg rfl (by omega) (fun x hx=>by have:=hwb x hx; omega);have hs0:=xY.out;have hoff:=Uf (g:=g) (w:=W1) hg (by have:=V4.out; omega) rfl (by omega) (fun x hx=>by have:=hwb x hx; omega);obtain⟨v2,hv2,hcut⟩:=UR (P:=prog) underlying31 sizeInt hri ((wd k).length - 2) (by omega);have hrd:=hr.rd (by omega);rw[hel]at hrd;obtain⟨n,hn⟩:∃n,n=(wd k).length:=⟨_,rfl⟩;have HT:Hid (∀W,Below W1.heap.size W1 W->Calls prog 168 #[.slice (some ⟨g,0,none⟩) 2352 cap,v2,.int .i64 f] W fun e W'=>e=.returned (.string (str (oD (ji raw f k) ((wd k).take ((wd k).length - 2)) f)))/\Below W.heap.size W W'):=zH fun W hW=>
   take_any _ (ji raw f k) v2 _ f W (hrd.keep hW) (hv2 W (hri.keep hW)) (by rw[List.length_take]; omega) (fun x hx=>by have:=hwb x (List.mem_of_mem_take hx); rw[hel]; omega)
  have HE:Hid (∀W,Calls prog 169 #[.string (str (oD (ji raw f k) ((wd k).take ((wd k).length - 2)) f)),.int .i64 2] W fun e W'=>e=.returned (.tuple #[.string (str (cwd (ji raw f k) (wd k) f)),.int .i64 0])/\Below W.heap.size W W'):=zH fun W=>
   Ox _ 2 W (fun e=>by have:=congrArg List.length e; rw[eX,List.length_take]at this; simp at this; omega) (by omega) (by omega) (by rw[eX,List.length_take]; omega)
  have HP:Hid (∀W,Below W1.heap.size W1 W->Calls prog 170 #[.slice (some ⟨g,0,none⟩) 2352 cap,.slice (some ⟨g1,0,none⟩) (wd k).length c1,.int .i64 f,.string (str (cwd (ji raw f k) (wd k) f))] W (aah 5 g cap (ji raw f k) (wd k) f (cwd (ji raw f k) (wd k) f) W)):=zH fun W hW=>
   put_any g 2352 cap (ji raw f k) _ (wd k) f _ W hel.symm (hr.below hW) (fun W' hW'=>hoff W' fun j hj hjg=>(hW' j (zL hj hW.size) hjg).trans (hW.block j hj)) (by omega) (fun x hx=>by have:=hwb x hx; rw[hel]; omega) (by rw[Je _ _ _ (by omega)]; exact zl _)
  have aev:Hid (∀e W W',aah 5 g cap (ji raw f k) (wd k) f (cwd (ji raw f k) (wd k) f) W e W'->(∃b,e=.returned (.bool b))/\Row W' 5 g cap (ji raw f (k+1))/\W.grownBy W' (some g)):=zH fun e W W' ⟨h1,h2,h3⟩=>⟨⟨_,h1⟩,by rw[<-hep]; exact h2,h3⟩
  have HX:=zH (And.intro hr (And.intro x6 x8));have HB:=zH hb;rw[<-hn]at HT HE HP hcut;have hcut':∀w',(Instr.slice 31 (.slice (some ⟨g1,0,none⟩) n c1) none (some (.int .i64 ((n:Int) - 2))) none).run prog w'=.ok v2 w':=fun w'=>hcut _ w' (by omega)
  have aec:=zH hcut';have afa:(26:Int)<=n/\(n:Int)<=45:=by omega
  generalize str (oD (ji raw f k) ((wd k).take (n - 2)) f)=S at HT HE;generalize str (cwd (ji raw f k) (wd k) f)=S2 at HE HP;have HN:=zH hn;rw[<-hn];clear hn hs0 hcut hcut' hri hoff hrd hv2 hg hr x6 x8 hb hel hep hwb hwl hlen hlen2;gi_wp2;refine xu (by rintro⟨_,_,h⟩; exact h) (by kernel_rfl) (by kernel_rfl) (fun w W=>Below w.heap.size w W) (fun W=>Below W1.heap.size W1 W) (L9 g cap n g1 c1 f v2 S) (fun _=>false) (by kernel_rfl) (fun W W' hb h=>h.trans (hb.mono h.size)) (Jq g cap n g1 c1 f v2 S) ((zB _ _).drew) ⟨?s0,?_,?_,?s3,?s4,?s5,?s6,?s7,?_,trivial⟩ ?_;all_goals first
   | (intro a W hc hsz hold ah
      have o9:a.tmps.getD 9 undef=.slice (some ⟨g1,0,none⟩) n c1:=hold 9 (by kernel_rfl);try have d7:=zV 36 (.string S) (ah 7 rfl rfl _ rfl)
      clear hsz hold ah;refine ai rfl (ag rfl) ?_;refine ak (zB _ _) rfl fun K hK=>?_
      go_simp;exact hK)
   | skip
  try case s0=>
   intro a W hc hsz hold ah;have o8:a.tmps.getD 8 undef=.pointer (some ⟨b8,0,none⟩):=hold 8 (by kernel_rfl);have q:=(HX.out.2.2.call hc).cell (i:=0) rfl;clear hsz hold ah;refine ai rfl (ag rfl) ?_;refine ak (v:=.slice (some ⟨g,0,none⟩) 2352 cap) (zB _ _) rfl fun K hK=>?_
   go_simp;exact hK
  try case s3=>
   intro a W hc hsz hold ah;have d2:=zV 31 (.slice (some ⟨g1,0,none⟩) n c1) (ah 2 (by kernel_rfl) rfl _ rfl);have e2:=zq d2;clear hsz hold ah;refine ai rfl (ag rfl) ?_;refine ak (v:=.int .i64 (n:Int)) (zB _ _) rfl fun K hK=>?_
   go_simp;exact hK
  try case s4=>
   intro a W hc hsz hold ah;have d3:=zV 32 (.int .i64 (n:Int)) (ah 3 (by kernel_rfl) rfl _ rfl);have hn2:=afa;have hw2:IntKind.i64.wrap ((n:Int) - 2)=(n:Int) - 2:=IntWalk.i64_in _ (by omega);clear hsz hold ah;refine ai rfl (ag rfl) ?_;refine ak (v:=.int .i64 ((n:Int) - 2)) (zB _ _) rfl fun K hK=>?_
   go_simp;exact hK
  try case s5=>
   intro a W hc hsz hold ah;have d1:=zV 30 (.slice (some ⟨g1,0,none⟩) n c1) (ah 1 (by kernel_rfl) rfl _ rfl);have d4:=zV 33 (.int .i64 ((n:Int) - 2)) (ah 4 (by kernel_rfl) rfl _ rfl);have hcut:=aec.out;clear hsz hold ah;refine ai rfl (ag rfl) ?_;refine ak (v:=v2) (zB _ _) rfl fun K hK=>?_
   go_simp;exact hK
  try case s6=>
   intro a W hc hsz hold ah;have o6:a.tmps.getD 6 undef=.pointer (some ⟨b6,0,none⟩):=hold 6 (by kernel_rfl);have q:=(HX.out.2.1.call hc).cell (i:=0) rfl;clear hsz hold ah;refine ai rfl (ag rfl) ?_;refine ak (v:=.int .i64 f) (zB _ _) rfl fun K hK=>?_
   go_simp;exact hK
  try case s7=>
   intro a W hc hsz hold ah;have d0:=zV 29 (.slice (some ⟨g,0,none⟩) 2352 cap) (ah 0 (by kernel_rfl) rfl _ rfl);have e0:=zq d0;have d5:=zV 34 v2 (ah 5 (by kernel_rfl) rfl _ rfl);have e5:=zq d5;have d6:=zV 35 (.int .i64 f) (ah 6 (by kernel_rfl) rfl _ rfl);have e6:=zq d6;clear hsz hold ah;refine ai rfl (ag rfl) ?_;refine di (v:=.string S) (fun W' hb=>hb) (fun _=>rfl) fun K hK=>?_
   go_simp;refine(HT.out W hc).mono ?_;rintro e w' ⟨rfl,hb'⟩;exact hK _ hb'
  ·intro a W hC hd hsz hold hval;have d10:a.tmps.getD 10 undef=.string S:=hval 8 _ rfl rfl;obtain⟨G,hG,ha⟩:=cO [10,29,30,31,32,33,34,35,36] (by kernel_rfl) hd hsz hold;simp only[hG]at d10;rw[ha];clear ha hG hd hsz hold;simp only[bI,List.setIfInBounds_toArray,List.set,d10];clear d10
   gi_wp2_with (first | (refine⟨trivial,?_⟩; gi_at_call 169; refine(CallsIn.inRound l (callsIn_wide.2 (HE.out _))).mono ?_; rintro e W2 ⟨rfl,hb2⟩; have hc2:=hC.trans (hb2.mono hC.size); have q6:=(HX.out.2.1.call hc2).cell (i:=0) rfl; have q8:=(HX.out.2.2.call hc2).cell (i:=0) rfl) | (refine⟨trivial,?_⟩; gi_at_call 170; refine(CallsIn.inRound l (callsIn_wide.2 (HP.out _ hc2))).mono ?_; rintro e W3 hp; obtain⟨⟨bb,rfl⟩,hr3,hg3⟩:=aev.out _ _ _ hp; clear hp))
   have hB2:=HB.out.trans (hc2.mono HB.out.size);refine⟨(Gt hc2).trans (KeepsFrom.of_grownBy hg3 (fun j e=>by cases e; have:=V4.out; have:=xY.out; omega)),⟨hr3,?_,?_⟩,hB2.grown hg3 hB2.size (fun j e=>by cases e; exact hbg.1)⟩
   ·exact(hg3.block _ (HX.out.2.1.call hc2).lt (fun e=>by have:=V4.out; cases e; omega)).trans (HX.out.2.1.call hc2)
   ·exact(hg3.block _ (HX.out.2.2.call hc2).lt (fun e=>by have:=V4.out; cases e; omega)).trans (HX.out.2.2.call hc2)
 case done=>
  rintro D W hD ⟨⟨hr,_,x8⟩,hb⟩ hK;clear hR X6' X8 hB0 hseq;have hel:=iR raw f 138;rw[HL.out]at hel;have q8:=x8.cell (i:=0) rfl;have hrd:=hr.rd (by omega);rw[hel]at hrd;have hcx:=dV (P:=prog) underlying65 underlying5 underlying9 hrd;clear hrd hel hr x8;gi_wp2;refine⟨by simp,.inl ⟨_,_,rfl,run_takeDeferred hK,?_⟩⟩;exact⟨_,results_tmp2 rfl _ _ _,rfl,hb.trans (belowK_b (w:=w) (zl _) _ D _ _ (by omega) hK rfl rfl)⟩
 case stop=>
  rintro D c W _ h _;exact h.elim
def FU(raw:List UInt8)(m:Int):Bool:=decide (raw.length=2352) && Dv m
def FI(raw:List UInt8)(m:Int):List UInt8×Int:=if FU raw m=true then(ji raw (yL m) 138,0) else([],1)
theorem Me{raw:List UInt8}{m:Int}(h:FU raw m=true):Dv m=true/\raw.length=2352:=by
 have h2:raw.length=2352/\Dv m=true:=by simpa[FU]using h
 exact⟨h2.2,h2.1⟩
theorem FK(raw:List UInt8)(m:Int)(w:World)(hl:raw.length<=9223372036854775807):
 Calls prog 88 #[.string (str raw),.int .i64 m] w fun e w'=>e=.returned (.tuple #[.string (str (FI raw m).1),.int .i64 (FI raw m).2])/\Below w.heap.size w w':=by
 cases hf:FU raw m with
 | true=>
   have e1:FI raw m=(ji raw (yL m) 138,0):=by unfold FI; rw[hf]; rfl
   rw[e1];dsimp only;exact Js raw m w (Me hf).1 (Me hf).2
 | false=>
   have e1:FI raw m=([],1):=by unfold FI; rw[hf]; rfl
   rw[e1];have hs:=ax raw;have HF:=zH (fun W=>first_any m W);cases hb:Dv m with
   | false=>
     rw[hb]at HF;clear e1 hb hf;go_enter func88,ntmps88;go_wp2_with (refine(HF.out _).mono ?_; rintro e w' ⟨rfl,rfl⟩);go_ret2;exact⟨rfl,(zB _ _).alloc (zl _) _⟩
   | true=>
     rw[hb]at HF;have hn:raw.length≠2352:=by intro h;unfold FU at hf;rw[hb,h]at hf;simp at hf
     have hd:((raw.length:Int) != 2352)=true:=by simp; omega
     have HN:=zH hn;clear e1 hb hf hn;go_enter func88,ntmps88;go_wp2_with (refine(HF.out _).mono ?_; rintro e w' ⟨rfl,rfl⟩);go_ret2;exact⟨rfl,(zB _ _).alloc (zl _) _⟩
theorem WV{raw:List UInt8}{m:Int}(hl:raw.length=2352)(hm:Dv m=true):FI raw m=(ji raw (yL m) 138,0):=by unfold FI FU;rw[hl,hm];rfl
theorem Va{raw:List UInt8}{f:Int}(hl:raw.length=2352):(ji raw f 138).take 2076=raw.take 2076:=by
 apply G.Dp
 ·rw[List.length_take,List.length_take,iR]
 ·intro i hi;have h1:i<2076:=by rw[List.length_take]at hi; omega
  rw[DN h1,DN h1,Bj hl i h1 138 (zl _)]
end W8
namespace E1
open Go.RowKit
def rZ(xs:List Int):List Value:=xs.map (Value.int .i64)
theorem abP(x:Int):(ic x).length=1:=rfl
theorem Nq(W:World)(t:TypeId)(xs:List Int){g:Nat}(hg:W.heap.size=g)(n:Nat)(hn:xs.length=n):RdN (W.alloc (.cells (rZ xs).toArray t)) (.slice (some ⟨g,0,none⟩) n n) xs:=by
 subst hg hn;refine⟨_,_,W.heap.size,0,rfl,zl _,fun i hi=>⟨rfl,fun j u hu=>?_⟩⟩;have hj:j=0:=by have:=(List.getElem?_eq_some_iff.1 hu).1;simp only[abP]at this;omega
 subst hj;have hu2:u=.int .i64 (bF 0 xs i):=by simpa[ic]using hu.symm
 have h:=(Bx.new W t (rZ xs)).cell (i:=i) (u:=.int .i64 (bF 0 xs i)) (by simp[rZ,bF,hi]);rw[hu2];simpa using h
structure CE (w0:World) (cl:Int) (fin:Bool) (sv:Value) (S:List UInt8) (W:World):Prop where
 t:Bx W w0.heap.size 37 [.int .i64 cl,.bool fin,sv]
 s:Bx W (w0.heap.size+1) 9 [.string (str S)]
 le:Below w0.heap.size w0 W
section
variable {w0 W W':World} {cl:Int} {fin:Bool} {sv:Value} {S S':List UInt8}
theorem CE.call(h:CE w0 cl fin sv S W)(hb:Below W.heap.size W W'):CE w0 cl fin sv S W':=⟨h.t.call hb,h.s.call hb,h.le.trans (hb.mono h.le.size)⟩
theorem CE.facts(h:CE w0 cl fin sv S W):W.cell? ⟨w0.heap.size,0,none⟩=some (.int .i64 cl)/\W.cell? ⟨w0.heap.size,1,none⟩=some (.bool fin)/\W.cell? ⟨w0.heap.size,2,none⟩=some sv/\w0.heap.size+1<W.heap.size:=
 ⟨h.t.cell (i:=0) rfl,h.t.cell (i:=1) rfl,h.t.cell (i:=2) rfl,h.s.lt⟩
theorem CE.add{e:Ending}(h:CE w0 cl fin sv S W)(ha:ZB (w0.heap.size+1) S' W e W'):e=.returned (.tuple #[])/\CE w0 cl fin sv S' W'/\∀g t cs,Bx W g t cs->g≠w0.heap.size+1->Bx W' g t cs:=by
 obtain⟨h1,h2,h3,h4⟩:=ha;have h5:∀g t cs,Bx W g t cs->g≠w0.heap.size+1->Bx W' g t cs:=fun g t cs hg hn=>(h4 g hg.lt hn).trans hg
 exact⟨h1,⟨h5 _ _ _ h.t (by omega),h2,h.le.trans (h3.mono (by omega))⟩,h5⟩
end
def abQ(w0:World)(cl:Int)(fin:Bool)(sv:Value)(S:List UInt8)(W:World)(e:Ending)(w':World):Prop:=
 e=.returned (.tuple #[])/\CE w0 cl fin sv S w'/\∀g t cs,Bx W g t cs->g≠w0.heap.size+1->Bx w' g t cs
theorem qo{w0 W:World}{cl:Int}{fin:Bool}{sv:Value}{S:List UInt8}(h:CE w0 cl fin sv S W)(xs:List Int)(n:Nat)(hn:xs.length=n)(hn2:n<=120)(hx:∀x ∈ xs,x<=9223372036854775807)(hS:S.length<=100000):
 Calls prog 318 #[.int .i64 2,.slice (some ⟨W.heap.size,0,none⟩) n n,.pointer (some ⟨w0.heap.size+1,0,none⟩)] (W.alloc (.cells (rZ xs).toArray 3)) (abQ w0 cl fin sv (S++eH 2 xs) W):=by
 have hlt:=h.s.lt;have ha:=h.call ((zB W.heap.size W).alloc (zl _) (.cells (rZ xs).toArray 3));refine(acF _ xs _ S _ ha.s (Nq W _ xs rfl n hn) (fun a n c e=>?_) (fun i hi=>hx _ (tq hi)) (by omega) hS).mono fun e w' hA=>?_
 ·injection e with e1; injection e1 with e1; subst e1; simp only; omega
 ·obtain⟨h1,h2,h3⟩:=ha.add hA;exact⟨h1,h2,fun g t cs hg hne=>h3 g t cs (hg.alloc _) hne⟩
theorem xB{w0 W:World}{cl:Int}{fin:Bool}{sv:Value}{S:List UInt8}(h:CE w0 cl fin sv S W)(xs:List Int)(n:Nat)(hn:xs.length=n)(hn2:n<=120)(hx:∀x ∈ xs,x<=9223372036854775807)(hS:S.length<=100000):
 Calls prog 318 #[.int .i64 4,.slice (some ⟨W.heap.size,0,none⟩) n n,.pointer (some ⟨w0.heap.size+1,0,none⟩)] (W.alloc (.cells (rZ xs).toArray 3)) (abQ w0 cl fin sv (S++eH 4 xs) W):=by
 have hlt:=h.s.lt;have ha:=h.call ((zB W.heap.size W).alloc (zl _) (.cells (rZ xs).toArray 3));refine(acG _ xs _ S _ ha.s (Nq W _ xs rfl n hn) (fun a n c e=>?_) (fun i hi=>hx _ (tq hi)) (by omega) hS).mono fun e w' hA=>?_
 ·injection e with e1; injection e1 with e1; subst e1; simp only; omega
 ·obtain⟨h1,h2,h3⟩:=ha.add hA;exact⟨h1,h2,fun g t cs hg hne=>h3 g t cs (hg.alloc _) hne⟩
end E1
section
theorem gz{cap cl:Int}{fin:Bool}{l:List T.az}(hv:T.aQ cap cl fin l):nC l:=by
 refine⟨by have:=hv.2.2.1; omega,fun i hi=>?_⟩;have h1:=hv.at hi;have h2:=hv.2.1;have h0:=hv.2.2.1;have ho:=hv.2.2.2.2.2.1 i hi;obtain⟨o1,o2,o3,o4,o5,o6,o7,o8,o9,JS,QQ,JU,XK,Ue⟩:=ho;have hs:1<=(T.tr l i).bP:=by have:=T.okR.mono hv.2.2.2.2.2.1 0 (i+1) (by omega);rw[Nat.zero_add,T.uw,T.eQ]at this;exact this
 unfold uB sm;refine⟨⟨by omega,by omega⟩,⟨by omega,by omega⟩,⟨by omega,by omega⟩,⟨by omega,by omega⟩,⟨by omega,by omega⟩,⟨by omega,by omega⟩,⟨by omega,by omega⟩⟩
end
end Go.Proofs.YtfnehkmhcmkhjaaGreat
