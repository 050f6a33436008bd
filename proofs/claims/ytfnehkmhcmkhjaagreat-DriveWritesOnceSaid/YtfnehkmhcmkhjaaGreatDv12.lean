/- Parts:XBld XQdb XTk8 -/
import Derived.Test.YtfnehkmhcmkhjaaGreatDvAl
import Derived.Test.YtfnehkmhcmkhjaaGreatDvShelf
import Derived.Lib.AppendStr
import Derived.Test.YtfnehkmhcmkhjaaGreatDv09
import Derived.Test.YtfnehkmhcmkhjaaGreatDv08
import Derived.Test.YtfnehkmhcmkhjaaGreatDv06
set_option maxRecDepth 100000
set_option maxHeartbeats 8000000
set_option linter.unusedVariables false
namespace Go.Proofs.YtfnehkmhcmkhjaaGreat
open Tryz
section
open Go.RowKit
theorem ND:(prog.info? 218).map (·.size)=some 2:=by kernel_rfl
theorem XH:liesAt prog prog.depth 218 (2 / prog.cellsOf 218) 0 218 1=true:=by kernel_rfl
theorem aba:(prog.info? 5).map (fun i=>(i.zero,i.size,i.bytes))=some (some (.int .u8 0),1,1):=by kernel_rfl
theorem E5(b:Nat)(w:World)(h0:w.cell? ⟨b,0,none⟩=some (.pointer (some ⟨b,0,none⟩))):
 Calls prog 212 #[.pointer (some ⟨b,0,none⟩)] w fun e w'=>e=.returned (.tuple #[])/\w'=w:=by
 obtain⟨j,hj,_⟩:=Option.map_eq_some_iff.1 ND;go_enter func212,ntmps212;go_wp2;rw[Lib.run_neq_ptr_same w _ underlying216 hj];go_wp2;go_end0;exact⟨rfl,rfl⟩
theorem CW(b:Nat)(w:World)(h0:w.cell? ⟨b,0,none⟩=some (.pointer none))(hsh:w.shape? b=some (218,2))(hfz:w.frozen? ⟨b,0,none⟩=false):
 Calls prog 212 #[.pointer (some ⟨b,0,none⟩)] w fun e w'=>e=.returned (.tuple #[])/\w'=w.setCell ⟨b,0,none⟩ (.pointer (some ⟨b,0,none⟩)):=by
 obtain⟨j,hj,hjs⟩:=Option.map_eq_some_iff.1 ND;go_enter func212,ntmps212;go_wp2;rw[Lib.run_to_unsafe w ⟨b,0,none⟩ underlying216 underlying361 hj (by rw[hjs]; decide) hsh (Nat.zero_lt_succ 1)];simp only[Result.andThen];rw[Oper.upon_value];go_wp2;rw[run_callFunc_extern func286 (by kernel_rfl) (by kernel_rfl) (by kernel_rfl) (e:=Extern.AbiNoEscape.same) (by kernel_rfl)];rw[Lib.run_noEscape];simp only[Result.andThen];rw[Oper.upon_value];go_wp2;rw[Lib.run_from_unsafe w ⟨b,0,none⟩ underlying361 underlying216 hj hsh XH];simp only[Result.andThen];rw[Oper.upon_value];go_wp2;go_end0;exact⟨rfl,rfl⟩
theorem I5(B b:Nat)(bs:List Value)(w:World)(h:Lib.IsBuilder 218 5 B b bs w):
 Calls prog 212 #[.pointer (some ⟨b,0,none⟩)] w fun e w'=>e=.returned (.tuple #[])/\(Lib.BuilderAt 218 5 B b (.pointer (some ⟨b,0,none⟩)) bs w'/\Below B w w'):=by
 rcases h with h | h
 ·refine(CW b w h.cell0 h.shape h.frozen0).mono ?_;rintro e w' ⟨rfl,rfl⟩;exact⟨rfl,h.used _,(zB B w).setCell (p:=⟨b,0,none⟩) h.1 _⟩
 ·refine(E5 b w h.cell0).mono ?_;rintro e w' ⟨rfl,rfl⟩;exact⟨rfl,h,zB B _⟩
theorem rV(B b:Nat)(bs:List Value)(s:ByteArray)(w:World)(h:Lib.IsBuilder 218 5 B b bs w)(hlen:bs.length+s.size<=140737488355328)(hBw:B<=w.heap.size):
 Calls prog 127 #[.pointer (some ⟨b,0,none⟩),.string s] w fun e w'=>e=.returned (.tuple #[.int .i64 s.size,.nilIface])/\(Lib.BuilderAt 218 5 B b (.pointer (some ⟨b,0,none⟩)) (bs++Lib.strCells s) w'/\Below B w w'):=by
 obtain⟨i0,hi,hz0,hz1,hz2⟩:=info_parts aba;go_enter func127,ntmps127;go_wp2_with (go_at_call 212; refine(I5 B b bs _ h).mono ?_);rintro e w1 ⟨rfl,h1,hb1⟩;obtain⟨hB,v,hbk,hown,hne⟩:=h1;have c0:w1.cell? ⟨b,0,none⟩=some (.pointer (some ⟨b,0,none⟩)):=by rw[Lib.cell_of_heap hbk]; rfl
 have c1:w1.cell? ⟨b,1,none⟩=some v:=by rw[Lib.cell_of_heap hbk]; rfl
 go_wp2_with (at_builtin; refine Lib.wpList_append_own_string _ rfl _ _ 65 9 rfl B 5 i0 underlying65 underlying9 hi hz0 hz1 hz2 _ _ _ rfl hown s rfl ?c3 ?c4 ?c5 ?_);case c3=>unfold maxLen; omega
 case c4=>omega
 case c5=>have:=hb1.size; omega
 intro v' w2 hown' hgrow _;have hlt:b<w1.heap.size:=by
  rcases Nat.lt_or_ge b w1.heap.size with h' | h'
  ·exact h'
  ·simp[Array.getElem?_eq_none h']at hbk
 have hb2:w2.heap[b]? = some (.cells #[.pointer (some ⟨b,0,none⟩),v] 218 (0,0)):=by rw[hgrow.block b hlt (fun e=>hne e.symm)];exact hbk
 have d0:w2.cell? ⟨b,0,none⟩=some (.pointer (some ⟨b,0,none⟩)):=by rw[Lib.cell_of_heap hb2]; rfl
 have d1:w2.cell? ⟨b,1,none⟩=some v:=by rw[Lib.cell_of_heap hb2]; rfl
 have f1:w2.frozen? ⟨b,1,none⟩=false:=Lib.frozen_of_heap hb2 1;obtain⟨ao,n',cap,rfl⟩:∃ao n' cap,v'=.slice ao n' cap:=by
  rcases hown'.2 with ⟨hv,_⟩ | ⟨g,cap,cur,hv,_⟩
  ·exact⟨_,_,_,hv⟩
  ·exact⟨_,_,_,hv⟩
 go_wp2;go_ret2;refine⟨rfl,?_,?_⟩
 ·exact Lib.BuilderAt.put hB hb2 (by simpa[Lib.strCells_length]using hown') (by decide)
 ·exact((hb1.grown hgrow (by have:=hb1.size; omega) (fun k hk=>dP hown k hk)).setCell hB _)
end
namespace xA
open Go.RowKit
theorem zK{P:Program}{t:TypeId}(ht:P.underlying t=some .string)(l:List UInt8)(k:Nat)(hk:k<l.length)(i:Int)(hi:i=k)(w:World):
 (Instr.index t (.string (str l)) (.int .i64 i)).run P w=.ok (B (G.ix l k)) w:=by
 subst hi;have h1:(str l).size=l.length:=ax l;have h2:((str l)[k]'(by rw[h1]; exact hk))=l[k]:=by simp[str,ByteArray.getElem_eq_getElem_data]
 simp[Instr.index,asIntOf,run_underlying ht,h1,hk,h2,G.ix]
def bn(l:List UInt8)(k:Nat):Int:=((G.ix l k).toNat:Int)
theorem RF(l:List UInt8)(k:Nat):0<=bn l k/\bn l k<=255:=by have:=(G.ix l k).toNat_lt; unfold bn; omega
theorem Em{P:Program}{t:TypeId}(ht:P.underlying t=some .string)(l:List UInt8)(k:Nat)(hk:k<l.length)(i:Int)(hi:i=k)(w:World):
 (Instr.index t (.string (str l)) (.int .i64 i)).run P w=.ok (.int .u8 (bn l k)) w:=zK ht l k hk i hi w
def okD(x y z:Int):Prop:=(aG x).2=0/\(aG y).2=0/\(aG z).2=0/\vB (aG x).1 (aG y).1 (aG z).1=true
instance (x y z:Int):Decidable (okD x y z):=by unfold okD; infer_instance
def dM(x y z:Int):Int:=if okD x y z then(aG x).1 else 0
def dS(x y z:Int):Int:=if okD x y z then(aG y).1 else 0
def dF(x y z:Int):Int:=if okD x y z then(aG z).1 else 0
def dE(x y z:Int):Int:=if okD x y z then 0 else 10
theorem Y8{x y z:Int}(h:okD x y z):dM x y z=(aG x).1/\dS x y z=(aG y).1/\dF x y z=(aG z).1/\dE x y z=0:=⟨zj h,zj h,zj h,zj h⟩
theorem aeX{x y z:Int}(h:¬ okD x y z):dM x y z=0/\dS x y z=0/\dF x y z=0/\dE x y z=10:=⟨zi h,zi h,zi h,zi h⟩
theorem zY(c:Int):(aG c).2=0\/(aG c).2=2:=by unfold aG; split <;> simp
abbrev mo(m s f:Int):Obj:=.cells #[.int .i64 m,.int .i64 s,.int .i64 f] 235
abbrev mc(m s f:Int):List Value:=[.int .i64 m,.int .i64 s,.int .i64 f]
abbrev MB(W:World)(g:Nat)(m s f:Int):Prop:=Bx W g 235 (mc m s f)
abbrev Zo(B g2:Nat)(m s f:Int):World->World->Prop:=wY B g2 235 3 (fun _ W=>MB W g2 m s f)
def MO(B g2 g4:Nat)(m s f:Int)(i:Nat)(v:Value)(W:World):Prop:=match i with
 | 0=>v=iV m s f
 | 1=>v=iV m s f
 | 2=>v=.bool (vB m s f)
 | 3=>MB W g2 m s f
 | 4=>v=.bool (vB m s f)
 | _=>True
theorem JM(B g2 g4:Nat)(m s f:Int)(i:Nat)(v:Value)(W W':World)(hR:Zo B g2 m s f W W')(h:MO B g2 g4 m s f i v W):MO B g2 g4 m s f i v W':=by
 by_cases h3:i=3
 ·subst h3;exact hR.2.2.2 0 h
 unfold MO at h ⊢;split at h <;> first | exact h | exact absurd rfl h3
theorem Bx.adA(w:World)(o:Obj)(t:TypeId)(cs:List Value)(g:Nat)(hg:g=w.heap.size+1):Bx ((w.alloc o).alloc (.cells cs.toArray t)) g t cs:=by
 have h:=Bx.new (w.alloc o) t cs;have e:(w.alloc o).heap.size=g:=by rw[hg]; simp
 rwa[e]at h
theorem TS(m s f:Int)(w:World):Calls prog 235 #[.agg #[.int .i64 m,.int .i64 s,.int .i64 f]] w (RV (.tuple #[iV m s f,.bool (vB m s f)]) w):=by
 go_enter func235,ntmps235;go_upto_region 2 with (fail)
 obtain⟨g2,hg2⟩:∃g,g=w.heap.size+1:=⟨_,rfl⟩;obtain⟨g4,hg4⟩:∃g,g=w.heap.size+1+1:=⟨_,rfl⟩;have hb0:=(zB w.heap.size w).alloc (zl _) (.cells #[.int .i64 m,.int .i64 s,.int .i64 f] 325);have hs0:(w.alloc (.cells #[.int .i64 m,.int .i64 s,.int .i64 f] 325)).heap.size=w.heap.size+1:=by simp
 rw[<-hg4,<-hg2];generalize w.alloc (.cells #[.int .i64 m,.int .i64 s,.int .i64 f] 325)=w1 at hb0 hs0 ⊢;have hB2:MB ((w1.alloc (mo 0 0 0)).alloc (mo m s f)) g2 0 0 0:=by rw[hg2,<-hs0]; exact(Bx.new w1 _ (mc 0 0 0)).alloc _
 have hB4:MB ((w1.alloc (mo 0 0 0)).alloc (mo m s f)) g4 m s f:=Bx.adA w1 _ _ (mc m s f) g4 (by omega);have hle:=(hb0.alloc hb0.size (mo 0 0 0)).alloc (by have:=hb0.size; simp; omega) (mo m s f);generalize (w1.alloc (mo 0 0 0)).alloc (mo m s f)=w2 at hB2 hB4 hle ⊢;have hgB:w.heap.size<=g2:=by omega
 have ae7:g4≠g2:=by omega
 clear hg2 hg4 hs0 hb0;obtain⟨B,VL⟩:∃B,B=w.heap.size:=⟨_,rfl⟩;rw[<-VL]at hle hgB;refine cu (by kernel_rfl) (Zo B g2 m s f) (fun W=>Below B w W/\MB W g4 m s f/\∃cs:List Value,cs.length=3/\Bx W g2 235 cs) (MO B g2 g4 m s f) (fun _=>false) (by kernel_rfl) (fun W W' hR h=>⟨h.1.trans hR.1,(hR.2.1.2 g4 h.2.1.lt (fun e=>ae7 (zs e))).trans h.2.1,hR.2.2.1 h.2.2⟩) (JM B g2 g4 m s f) (⟨hle.drew,hB4,_,rfl,hB2⟩) ⟨?_,?_,?_,?_,?_,trivial⟩ ?_
 ·intro a W hc hsz hold ah;have o4:a.tmps.getD 4 undef=.pointer (some ⟨g4,0,none⟩):=hold 4 (by kernel_rfl);have c0:=hc.2.1.cell (i:=0) rfl;have c1:=hc.2.1.cell (i:=1) rfl;have c2:=hc.2.1.cell (i:=2) rfl;clear hsz hold ah;refine ai rfl (ag rfl) ?_;refine ak (v:=iV m s f) wY.refl rfl fun K hK=>?_
  go_simp;exact hK
 ·intro a W hc hsz hold ah;have o4:a.tmps.getD 4 undef=.pointer (some ⟨g4,0,none⟩):=hold 4 (by kernel_rfl);have c0:=hc.2.1.cell (i:=0) rfl;have c1:=hc.2.1.cell (i:=1) rfl;have c2:=hc.2.1.cell (i:=2) rfl;clear hsz hold ah;refine ai rfl (ag rfl) ?_;refine ak (v:=iV m s f) wY.refl rfl fun K hK=>?_
  go_simp;exact hK
 ·intro a W hc hsz hold ah;have d1:=zV 13 (iV m s f) (ah 1 (by kernel_rfl) rfl _ rfl);have e1:=zq d1;clear hsz hold ah;refine ai rfl (ag rfl) ?_;refine di (v:=.bool (vB m s f)) (fun W' hb=>wY.call (fun _ _ _ hb h=>h.call hb) (zT (Nat.le_of_eq VL) hc.1.size) hb) (fun _=>rfl) fun K hK=>?_
  go_simp;refine(rQ m s f _).mono ?_;rintro e w' ⟨rfl,hb'⟩;exact hK _ hb'
 ·intro a W hc hsz hold ah;have o2:a.tmps.getD 2 undef=.pointer (some ⟨g2,0,none⟩):=hold 2 (by kernel_rfl);have d0:=zV 12 (iV m s f) (ah 0 (by kernel_rfl) rfl _ rfl);clear hsz hold ah;refine ai rfl (ag rfl) ?_;obtain⟨cs,hl,hB⟩:=hc.2.2;obtain⟨a0,a1,a2,rfl⟩:∃a0 a1 a2,cs = [a0,a1,a2]:=by
   match cs,hl with
   | [x,y,z],_=>exact⟨x,y,z,rfl⟩
  have c0:=hB.cell (i:=0) rfl;have c1:=hB.cell (i:=1) rfl;have c2:=hB.cell (i:=2) rfl;have hf:=hB.free;have hS:MB (bg W g2 0 (mc m s f)) g2 m s f:=hB.bg (mc m s f) 0;refine iT (v:=undef) (wY.store hgB 0 (mc m s f) fun _ _=>hS) hS fun K hK=>?_
  clear hS hB;go_simp;exact hK
 ·intro a W hc hsz hold ah;have d2:=zV 14 (.bool (vB m s f)) (ah 2 (by kernel_rfl) rfl _ rfl);clear hsz hold ah;refine ai rfl (ag rfl) ?_;refine ak (v:=.bool (vB m s f)) wY.refl rfl fun K hK=>?_
  go_simp;exact hK
 ·intro a W hC hd hsz hold hval;have d3:a.tmps.getD 3 undef=.bool (vB m s f):=hval 4 _ rfl rfl;have d2:a.tmps.getD 2 undef=.pointer (some ⟨g2,0,none⟩):=hold 2 (by kernel_rfl);clear hold;obtain⟨tm,df⟩:=a;replace hd:df = []:=hd;replace hsz:tm.size=15:=hsz;replace d3:tm.getD 3 undef=.bool (vB m s f):=d3;replace d2:tm.getD 2 undef=.pointer (some ⟨g2,0,none⟩):=d2;subst hd;have e:tm = #[tm.getD 0 undef,tm.getD 1 undef,tm.getD 2 undef,tm.getD 3 undef,tm.getD 4 undef,tm.getD 5 undef,tm.getD 6 undef,tm.getD 7 undef,tm.getD 8 undef,tm.getD 9 undef,tm.getD 10 undef,tm.getD 11 undef,tm.getD 12 undef,tm.getD 13 undef,tm.getD 14 undef]:=IY tm 15 hsz;rw[d3,d2]at e;clear d3 d2 hsz;generalize tm.getD 0 undef=v0 at e;generalize tm.getD 1 undef=v1 at e;generalize tm.getD 4 undef=v4 at e;generalize tm.getD 5 undef=v5 at e;generalize tm.getD 6 undef=v6 at e;generalize tm.getD 7 undef=v7 at e;generalize tm.getD 8 undef=v8 at e;generalize tm.getD 9 undef=v9 at e;generalize tm.getD 10 undef=v10 at e;generalize tm.getD 11 undef=v11 at e;generalize tm.getD 12 undef=v12 at e;generalize tm.getD 13 undef=v13 at e;generalize tm.getD 14 undef=v14 at e;subst e;have hM:MB W g2 m s f:=hval 3 _ rfl rfl;have hle2:=hC.1;rw[VL]at hle2;clear hval hC;have c0:=hM.cell (i:=0) rfl;have c1:=hM.cell (i:=1) rfl;have c2:=hM.cell (i:=2) rfl;clear hM;go_wp2_with fail;exact zr (v:=.tuple #[iV m s f,.bool (vB m s f)]) (by simp[results,results235,go_sem,c0,c1,c2]) rfl ⟨rfl,hle2⟩
def c3(i:Nat)(x y z:Int):List Value:=[.int .i64 (if 0<i then x else 0),.int .i64 (if 1<i then y else 0),.int .i64 (if 2<i then z else 0)]
def okN(i:Nat)(x y z:Int):Prop:=(0<i->(aG x).2=0)/\(1<i->(aG y).2=0)/\(2<i->(aG z).2=0)
theorem D6{x y z:Int}(h:(aG x).2=2\/(aG y).2=2\/(aG z).2=2):¬ okD x y z:=fun e=>by obtain⟨e1,e2,e3,_⟩:=e;omega
theorem YO:∀w,(zeroValue 325).run prog w=.ok (.agg #[.int .i64 0,.int .i64 0,.int .i64 0]) w:=fun _=>by kernel_rfl
def uM(x y z:Int)(w:World)(e:Ending)(w':World):Prop:=e=.returned (.tuple #[iV (dM x y z) (dS x y z) (dF x y z),.int .i64 (dE x y z)])/\Below w.heap.size w w'
theorem uM.yes{x y z:Int}{w w':World}(h:okD x y z)(hb:Below w.heap.size w w'){v:Value}(hv:v=.tuple #[iV (aG x).1 (aG y).1 (aG z).1,.int .i64 0]):uM x y z w (.returned v) w':=by obtain⟨h1,h2,h3,h4⟩:=Y8 h;unfold uM;rw[h1,h2,h3,h4,hv]; exact⟨rfl,hb⟩
theorem uM.no{x y z:Int}{w w':World}(h:¬ okD x y z)(hb:Below w.heap.size w w'){v:Value}(hv:v=.tuple #[iV 0 0 0,.int .i64 10]):uM x y z w (.returned v) w':=by obtain⟨h1,h2,h3,h4⟩:=aeX h;unfold uM;rw[h1,h2,h3,h4,hv]; exact⟨rfl,hb⟩
end xA
section
open Go.RowKit
def R8(x:T.az):Bool:=decide ((x.cZ=2->x.nx=x.st+x.len)/\(x.cZ≠2->x.st<=x.nx/\x.nx<=x.st+x.len/\x.cZ=if x.nx=x.st then 0 else 1))
theorem Yh(v:Value)(x:T.az)(w:World)(oz:sm x.st)(oC:sm x.len)(h2:¬ x.cZ=2)(h3:x.st<=x.nx)(h4:¬ x.nx<=x.st+x.len):
 Calls prog 314 #[v,iH x] w (RB (R8 x) w):=by
 have hd:(x.cZ == 2)=false:=by rw[beq_eq_false_iff_ne]; exact h2
 have hd3:decide (x.st<=x.nx)=true:=zt h3;have hd4:decide (x.nx<=x.st+x.len)=false:=zf h4;have hd5:x.st+x.len<x.nx:=by omega
 have hR:R8 x=false:=by simp[R8,h2,h3,h4]
 rw[hR];clear h2 hR h3 h4;go_enter func314,ntmps314;go_wp2;first | go_region_with (go_at_call 208; refine(jC x _ oz oC).mono ?_; rintro e w1 ⟨rfl,rfl⟩) | fail
 all_goals
  go_wp2;go_ret;refine⟨rfl,?_⟩;repeat (first | exact zB _ _ | refine Below.alloc ?_ (by simp <;> omega) _ | refine Below.drew ?_)
theorem PW(v:Value)(x:T.az)(w:World)(oz:sm x.st)(oC:sm x.len):
 Calls prog 314 #[v,iH x] w (RB (R8 x) w):=by
 by_cases h2:x.cZ=2
 ·have hd:(x.cZ == 2)=true:=by rw[beq_iff_eq]; exact h2
  by_cases h3:x.nx=x.st+x.len
  ·have hR:R8 x=true:=by simp[R8,h2,h3]
   rw[hR];have hd3:(x.nx == x.st+x.len)=true:=by rw[beq_iff_eq]; exact h3
   clear h2 hR h3;go_enter func314,ntmps314;go_wp2
   go_region_with (go_at_call 315; refine(yB x _ oz oC).mono ?_; rintro e w1 ⟨rfl,hb⟩; have hbx:∀j,w1.cell? ⟨w.heap.size,j,none⟩=(#[Value.int .i64 x.num,.int .i64 x.bP,.int .i64 x.st,.int .i64 x.len,.int .i64 x.nx,.int .i64 x.cZ,.int .i64 x.pk])[j]?:=fun j=>(hb.cell (p:=⟨w.heap.size,j,none⟩) (by simp)).trans (by simp[go_sem]); have hx0:=hbx 0; have hx1:=hbx 1; have hx2:=hbx 2; have hx3:=hbx 3; have hx4:=hbx 4; have hx5:=hbx 5; have hx6:=hbx 6; simp only[List.getElem?_toArray,List.getElem?_cons_zero,List.getElem?_cons_succ]at hx0 hx1 hx2 hx3 hx4 hx5 hx6; clear hbx; have hB:Below w.heap.size w w1:=(Below.alloc (zB _ _) (zl _) _).drew.trans (hb.mono (by simp)))
   all_goals
    go_wp2;go_ret;exact⟨rfl,hB⟩
  ·have hR:R8 x=false:=by simp[R8,h2,h3]
   rw[hR];have hd3:(x.nx == x.st+x.len)=false:=by rw[beq_eq_false_iff_ne]; exact h3
   clear h2 hR h3;go_enter func314,ntmps314;go_wp2
   go_region_with (go_at_call 315; refine(yB x _ oz oC).mono ?_; rintro e w1 ⟨rfl,hb⟩; have hbx:∀j,w1.cell? ⟨w.heap.size,j,none⟩=(#[Value.int .i64 x.num,.int .i64 x.bP,.int .i64 x.st,.int .i64 x.len,.int .i64 x.nx,.int .i64 x.cZ,.int .i64 x.pk])[j]?:=fun j=>(hb.cell (p:=⟨w.heap.size,j,none⟩) (by simp)).trans (by simp[go_sem]); have hx0:=hbx 0; have hx1:=hbx 1; have hx2:=hbx 2; have hx3:=hbx 3; have hx4:=hbx 4; have hx5:=hbx 5; have hx6:=hbx 6; simp only[List.getElem?_toArray,List.getElem?_cons_zero,List.getElem?_cons_succ]at hx0 hx1 hx2 hx3 hx4 hx5 hx6; clear hbx; have hB:Below w.heap.size w w1:=(Below.alloc (zB _ _) (zl _) _).drew.trans (hb.mono (by simp)))
   all_goals
    go_wp2;go_ret;exact⟨rfl,hB⟩
 ·have hd:(x.cZ == 2)=false:=by rw[beq_eq_false_iff_ne]; exact h2
  by_cases h3:x.st<=x.nx
  ·have hd3:decide (x.st<=x.nx)=true:=zt h3;by_cases h4:x.nx<=x.st+x.len
   ·have hd4:decide (x.nx<=x.st+x.len)=true:=zt h4;by_cases h5:x.cZ=(if x.nx=x.st then 0 else 1)
    ·have hR:R8 x=true:=by simp[R8,h3,h4,h5]; split <;> simp
     rw[hR];have hd5:(x.cZ == (if x.nx=x.st then 0 else 1))=true:=by rw[beq_iff_eq]; exact h5
     have hst:=fun W=>Cb x W
     generalize (if x.nx=x.st then(0:Int) else 1)=y at *;have HST:=zH hst;clear h2 hR h3 h4 h5 hst;go_enter func314,ntmps314;go_wp2
     go_region_held3 (fun W=>w.heap.size<W.heap.size/\W.cell? ⟨w.heap.size,0,none⟩=some (.int .i64 x.num)/\W.cell? ⟨w.heap.size,1,none⟩=some (.int .i64 x.bP)/\W.cell? ⟨w.heap.size,2,none⟩=some (.int .i64 x.st)/\W.cell? ⟨w.heap.size,3,none⟩=some (.int .i64 x.len)/\W.cell? ⟨w.heap.size,4,none⟩=some (.int .i64 x.nx)/\W.cell? ⟨w.heap.size,5,none⟩=some (.int .i64 x.cZ)/\W.cell? ⟨w.heap.size,6,none⟩=some (.int .i64 x.pk)) (((try dsimp only); ((repeat' apply And.intro) <;> (first | (go_keep; done) | (simp; omega))))) (first | (go_at_call 208; refine(jC x _ oz oC).mono ?_; rintro e w1 ⟨rfl,rfl⟩) | (go_at_call 316; refine(HST.out _).mono ?_; rintro e w1 ⟨rfl,rfl⟩))
     all_goals
      go_wp2;go_ret;refine⟨rfl,?_⟩;repeat (first | exact zB _ _ | refine Below.alloc ?_ (by simp <;> omega) _ | refine Below.drew ?_)
    ·have hR:R8 x=false:=by simp[R8,h2,h3,h4,h5]
     rw[hR];have hd5:(x.cZ == (if x.nx=x.st then 0 else 1))=false:=by rw[beq_eq_false_iff_ne]; exact h5
     have hst:=fun W=>Cb x W
     generalize (if x.nx=x.st then(0:Int) else 1)=y at *;have HST:=zH hst;clear h2 hR h3 h4 h5 hst;go_enter func314,ntmps314;go_wp2
     go_region_held3 (fun W=>w.heap.size<W.heap.size/\W.cell? ⟨w.heap.size,0,none⟩=some (.int .i64 x.num)/\W.cell? ⟨w.heap.size,1,none⟩=some (.int .i64 x.bP)/\W.cell? ⟨w.heap.size,2,none⟩=some (.int .i64 x.st)/\W.cell? ⟨w.heap.size,3,none⟩=some (.int .i64 x.len)/\W.cell? ⟨w.heap.size,4,none⟩=some (.int .i64 x.nx)/\W.cell? ⟨w.heap.size,5,none⟩=some (.int .i64 x.cZ)/\W.cell? ⟨w.heap.size,6,none⟩=some (.int .i64 x.pk)) (((try dsimp only); ((repeat' apply And.intro) <;> (first | (go_keep; done) | (simp; omega))))) (first | (go_at_call 208; refine(jC x _ oz oC).mono ?_; rintro e w1 ⟨rfl,rfl⟩) | (go_at_call 316; refine(HST.out _).mono ?_; rintro e w1 ⟨rfl,rfl⟩))
     all_goals
      go_wp2;go_ret;refine⟨rfl,?_⟩;repeat (first | exact zB _ _ | refine Below.alloc ?_ (by simp <;> omega) _ | refine Below.drew ?_)
   ·exact Yh v x w oz oC h2 h3 h4
  ·have hd3:decide (x.st<=x.nx)=false:=zf h3;have hR:R8 x=false:=by simp[R8,h2,h3]
   rw[hR];clear h2 hR h3;go_enter func314,ntmps314;go_wp2;go_quiet (fail);go_wp2;go_ret;exact⟨rfl,Below.drewN ((zB _ _).alloc (zl _) _) _⟩
end
end Go.Proofs.YtfnehkmhcmkhjaaGreat
