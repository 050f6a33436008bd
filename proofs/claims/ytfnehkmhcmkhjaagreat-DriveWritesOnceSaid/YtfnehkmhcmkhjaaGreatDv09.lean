/- Parts:XMb XRow XQm XQb XQv XKf -/
import Derived.Test.YtfnehkmhcmkhjaaGreatDvAl
import Derived.Maps.OwnOps
import Derived.Maps.OwnSet
import Derived.Maps.Views
import Derived.Maps.Range
import Derived.Lib.SlKeysI
import Derived.Below
import Derived.Lib.ConvBytes
import Derived.Lib.AppendZerosOnto
import Derived.Laws.CopyOwn
import Derived.WalkSpells
import Derived.Test.YtfnehkmhcmkhjaaGreatDv04
set_option maxRecDepth 100000
set_option maxHeartbeats 8000000
set_option linter.unusedVariables false
namespace Go.Proofs.YtfnehkmhcmkhjaaGreat
open Tryz
namespace Mp
open Go.RowKit Go.Maps Go.MapKept
section
variable {H:Type} {R:Value->Option (DataW H×List MemPlace)} {w:World} {b n:Nat} {D:DataW H}
theorem abh:Keyed prog 3:=int_keyed underlying3
theorem J7(hown:w.ownsMap prog 3 R b n D){K:List Int}(hK:K.Nodup)(hm:∀x,x ∈ K↔Maps.has D (.int .i64 x)=true):K.Perm (intKeys D):=by
 obtain⟨es,hD,hpw,_⟩:=hown.entries abh;obtain⟨es',hD',hko⟩:=hown.keysOf;obtain rfl:es=es':=by rw[hD]at hD'; simpa using hD'
 subst hD;exact perm_intKeys hpw (fun p hp=>by obtain⟨v,hv⟩:=hko p hp; obtain⟨x,_,hx,_⟩:=Maps.keyOf_i64 underlying3 hv; exact⟨x,hx⟩) hK hm
def keysB(D:DataW H)(N:Nat):List Int:=((List.range N).filter fun k=>Maps.has D (.int .i64 (k:Nat))).map Int.ofNat
theorem BA{N:Nat}(hk:∀x:Int,Maps.has D (.int .i64 x)=true->0<=x/\x<N)(x:Int):x ∈ keysB D N↔Maps.has D (.int .i64 x)=true:=by
 unfold keysB;simp only[List.mem_map,List.mem_filter,List.mem_range];constructor
 ·rintro⟨k,⟨_,h⟩,rfl⟩; exact h
 ·intro h;obtain⟨h1,h2⟩:=hk x h;obtain⟨y,rfl⟩:∃y:Nat,x=y:=⟨x.toNat,by omega⟩;exact⟨y,⟨by omega,h⟩,rfl⟩
theorem DU(D:DataW H)(N:Nat):(keysB D N).Pairwise (· < ·):=by unfold keysB;rw[List.pairwise_map];exact(List.Pairwise.filter _ List.pairwise_lt_range).imp fun h=>by simpa using h
end
def Kz(v:Value):Option (DataW Value×List MemPlace):=some (.held v,[])
end Mp
section
open Go.RowKit
def Row(w:World)(e g cap:Nat)(l:List UInt8):Prop:=
 ∃(cur:Array Value)(fz:Nat×Nat),w.heap[g]? = some (.cells cur e fz)/\(fz=(0,0)\/cur.size<=fz.1)/\l.length<=cap/\cur.size=cap/\cur.toList.take l.length=bs l
section
variable {w:World} {e g cap:Nat} {l:List UInt8}
theorem Row.lt(h:Row w e g cap l):g<w.heap.size:=by obtain⟨cur,fz,hg,_⟩:=h;exact(Array.getElem?_eq_some_iff.1 hg).1
theorem Row.le(h:Row w e g cap l):l.length<=cap:=by obtain⟨cur,fz,hg,_,hl,_⟩:=h;exact hl
theorem Row.cell(h:Row w e g cap l)(j:Nat)(hj:j<l.length):w.cell? ⟨g,j,none⟩=some (B (G.ix l j)):=by obtain⟨cur,fz,hg,_,hl,hs,ht⟩:=h;rw[cell_of_row w g j cur e fz hg,<-jK hj,<-ht,List.getElem?_take,zj hj];simp
theorem Row.frozen(h:Row w e g cap l)(j:Nat)(hj:j<cap):w.frozen? ⟨g,j,none⟩=false:=by
 obtain⟨cur,fz,hg,hf,hl,hs,ht⟩:=h;obtain⟨lo,hi⟩:=fz;simp only[World.frozen?,hg,Bool.and_eq_false_iff,decide_eq_false_iff_not];rcases hf with hf | hf
 ·simp only[Prod.mk.injEq]at hf;right; omega
 ·simp only at hf;left; omega
theorem Row.store(h:Row w e g cap l)(j:Nat)(c:UInt8)(hj:j<l.length):Row (w.setCell ⟨g,j,none⟩ (B c)) e g cap (l.set j c):=by
 obtain⟨cur,fz,hg,hf,hl,hs,ht⟩:=h;refine⟨cur.setIfInBounds j (B c),fz,?_,by simpa using hf,by simpa using hl,by simpa using hs,?_⟩
 ·rw[setCell_eq_setRow w g j cur e fz (B c) hg];exact setRow_heap w g cur _ e fz hg
 ·rw[Array.toList_setIfInBounds,List.length_set,List.take_set,ht,yx]
theorem Row.keep{w':World}(h:Row w e g cap l)(hk:w'.heap[g]? = w.heap[g]?):Row w' e g cap l:=by obtain⟨cur,fz,hg,r⟩:=h;exact⟨cur,fz,hk.trans hg,r⟩
theorem Row.below{w':World}(h:Row w e g cap l)(hb:Below w.heap.size w w'):Row w' e g cap l:=h.keep (hb.block g h.lt)
theorem Row.rd(h:Row w e g cap l)(hl:l.length<=140737488351232):Rd w (.slice (some ⟨g,0,none⟩) l.length cap) l:=
 ⟨hl,_,cap,g,0,rfl,h.le,fun i hi=>⟨rfl,by rw[Nat.zero_add]; exact h.cell i hi⟩⟩
theorem Row.DZ{base n:Nat}(h:w.ownsRow base e 1 (.slice (some ⟨g,0,none⟩) n cap) n (bs l)):Row w e g cap l/\n=l.length/\base<=g:=by
 have hl:l.length=n:=by have:=h.1; simpa[dN]using this
 rcases h.2 with ⟨h',_⟩ | ⟨g',cap',cur,h',hb,hg,hn,hm,hs,ht⟩
 ·simp at h'
 ·simp only[Value.slice.injEq,Option.some.injEq,Addr.mk.injEq,and_true,true_and]at h';obtain⟨rfl,rfl⟩:=h';exact⟨⟨cur,(0,0),hg,.inl rfl,by omega,by simpa using hs,by rw[hl]; simpa using ht⟩,hl.symm,hb⟩
end
theorem lg(P:Program)(g o:Nat)(t:TypeId)(fz:Nat×Nat):∀(vs:List Value)(i:Nat)(cur:Array Value)(w:World),w.heap[g]? = some (.cells cur t fz)->(fz=(0,0)\/cur.size<=fz.1)->o+i+vs.length<=cur.size->(∀v ∈ vs,v.oneCell'=true)->
 (storeCells ⟨g,o,none⟩ vs i).run P w=.ok () (w.setRow g (cur.toList.take (o+i)++vs++cur.toList.drop (o+i+vs.length)).toArray)
 | [],i,cur,w,hg,_,_,_=>by simp only[storeCells,List.append_nil,List.length_nil,Nat.add_zero,List.take_append_drop,Array.toArray_toList];rw[setRow_self w g cur t fz hg];rfl
 | v :: rest,i,cur,w,hg,hfz,hl,h1=>by
   have hi:o+i<cur.size:=by simp at hl; omega
   have hadd:(⟨g,o,none⟩:Addr).add i=⟨g,o+i,none⟩:=by unfold Addr.add; split <;> simp_all
   have hcell:w.cell? ⟨g,o+i,none⟩=some cur[o+i]:=by simp[World.cell?,hg,hi]
   have hfro:w.frozen? ⟨g,o+i,none⟩=false:=by
    obtain⟨lo,hi'⟩:=fz;simp only[World.frozen?,hg,Bool.and_eq_false_iff,decide_eq_false_iff_not];rcases hfz with hf | hf
    ·simp only[Prod.mk.injEq]at hf;right; omega
    ·simp only at hf;left; omega
   have hst:(store ((⟨g,o,none⟩:Addr).add i) v).run P w=.ok () (w.setRow g (cur.setIfInBounds (o+i) v)):=by rw[hadd,run_store P w _ v _ (h1 v (by simp)),hcell];simp[hfro,setCell_eq_setRow w g (o+i) cur t fz v hg]
   have ih:=lg P g o t fz rest (i+1) (cur.setIfInBounds (o+i) v) (w.setRow g (cur.setIfInBounds (o+i) v)) (setRow_heap w g cur _ t _ hg) (by simpa using hfz) (by simp at hl ⊢; omega) (fun x hx=>h1 x (by simp[hx]));simp only[storeCells,Sem.run_bind,hst,Result.andThen_ok,ih,setRow_setRow]
   congr 3
   have e:=list_seg_step cur.toList (o+i) v rest (by simp at hl ⊢; omega);simpa[Array.toList_setIfInBounds,Nat.add_assoc]using e
section
variable {P:Program}
theorem ou(w:World)(e:TypeId)(s:ByteArray):(Lib.bytesCells w e s).size=grownCap w s.size 0 e:=by have:=grownCap_ge w s.size 0 e;have hs:s.data.size=s.size:=rfl;simp[Lib.bytesCells];omega
theorem jh{w:World}{ops:Array Oper}{rest:List Oper}{o:Oper}{a:Act}{Q:Exit->Act->World->Prop}(hg:o.guard=none)(x:Operand){src dst e:TypeId}(hop:o.op=.convert src dst x)
 (hs:P.underlying src=some .string)(hd:P.underlying dst=some (.slice e))(he:P.underlying e=some (.int .u8)){s:ByteArray}(hx:a.eval x=.string s)
 (hK:∀w' cap,Row w' e w.heap.size cap s.data.toList->Below w.heap.size w w'->s.size<=cap->wpList P ops Q rest (a.put o.dst (.slice (some ⟨w.heap.size,0,none⟩) s.size cap)) w'):wpList P ops Q (o :: rest) a w:=by
 refine wpList_plain hg fun K hK'=>?_
 have hrun:=Lib.run_convert_string_bytes (P:=P) w src dst e s hs hd he;unfold Oper.wp;simp[execOp,hop,hx,hrun,Result.andThen];refine hK' _ _ (hK _ _ ?_ ?_ (grownCap_ge w s.size 0 e))
 ·refine⟨Lib.bytesCells w e s,_,Lib.bytesWorld_at_new w e s,.inr (zl _),?_,ou w e s,?_⟩
  ·have:=grownCap_ge w s.size 0 e;simpa using this
  ·unfold Lib.bytesCells;rw[Array.toList_append,List.take_append_of_le_length (by simp),List.take_of_length_le (by simp)];simp[bs]
 ·exact⟨rfl,rfl,rfl,by rw[Lib.bytesWorld_size]; omega,fun k hk=>Lib.bytesWorld_at_old w e s k hk⟩
theorem uH(m:Nat):(Builtin.zeroCells (Value.int .u8 0).cells m).toList=bs (List.replicate m 0):=by
 rw[nH];have hsz:(Builtin.zeroCells (Value.int .u8 0).cells m).size=m:=by rw[size_zeroCells]; simp[Value.cells]
 apply List.ext_getElem?;intro j;by_cases hj:j<m
 ·rw[Array.getElem?_toList,Array.getElem?_eq_getElem (by omega)];simp[Builtin.zeroCells,Value.cells,hj,Nat.mod_one]
 ·rw[Array.getElem?_toList,Array.getElem?_eq_none (by omega),List.getElem?_eq_none (by simp; omega)]
theorem UO{t tn ty e:TypeId}(ht:P.underlying t=some (.slice e))(htn:P.underlying tn=some (.int .i64))(h2:(P.info? e).map (fun i=>(i.zero,i.size,i.bytes))=some (some (.int .u8 0),1,1))
 {w:World}{g cap:Nat}{l:List UInt8}(h:Row w e g cap l)(m:Nat)(hb:l.length+m<=1099511627776):
 ∃g' cap' w',(Builtin.append_ #[t,tn] ty #[.slice (some ⟨g,0,none⟩) l.length cap,.int .i64 (m:Int)]).run P w=.ok (.slice (some ⟨g',0,none⟩) (l.length+m) cap') w'/\
   Row w' e g' cap' (l++List.replicate m 0)/\w.grownBy w' (some g)/\(g'=g\/g'=w.heap.size):=by
 obtain⟨i0,hi,hz0,hz1,hz2⟩:=info_parts h2;by_cases hroom:l.length+m<=cap
 ·obtain⟨cur,fz,hg,hf,hl,hs,ht'⟩:=id h;have hst:=lg P g l.length e fz (bs (List.replicate m 0)) 0 cur w hg hf (by simp[dN]; omega) (RG _);obtain⟨C,hC⟩:∃C,C=(cur.toList.take l.length++bs (List.replicate m 0)++cur.toList.drop (l.length+(bs (List.replicate m 0)).length)).toArray:=⟨_,rfl⟩;simp only[Nat.add_zero]at hst;rw[<-hC]at hst;refine⟨g,cap,w.setRow g C,?_,⟨C,fz,setRow_heap w g cur C e fz hg,?_,by simpa using hroom,?_,?_⟩,⟨rfl,rfl,rfl,by simp,fun k _ hk=>setRow_other w g k C (fun e=>hk (by rw[e]))⟩,.inl rfl⟩
  ·have hw:IntKind.i64.wrap (m:Int)=m:=by rw[IntKind.wrap_i64]; omega
   have hneg:¬ ((m:Int)<0):=by omega
   have h48i:¬ (281474976710656<(m:Int)):=by omega
   by_cases hm:m=0
   ·subst hm;simp only[List.replicate_zero,bs,List.map_nil]at hst;simp[Builtin.append_,run_underlying ht,run_underlying htn,sizeOf,typeInfo,hi,hz1,hz2,asInt,asIntOf,hl,Addr.add_lit,IntKind.wrap_i64,hst]
   ·simp[Builtin.append_,run_underlying ht,run_underlying htn,sizeOf,typeInfo,zeroValue,hi,hz0,hz1,hz2,asInt,asIntOf,hw,hneg,h48i,hm,hroom,Addr.add_lit,uH,hst]
  ·rcases hf with hf | hf
   ·exact .inl hf
   ·right; rw[hC]; simp[dN]; omega
  ·rw[hC]; simp[dN]; omega
  ·rw[uX,hC];simp only[List.length_append,List.length_replicate];rw[ht',List.take_append_of_le_length (by simp[dN])];rw[List.take_of_length_le (by simp[dN])]
 ·have hm:0<m:=by have:=h.le; omega
  have hold:(Builtin.firstCells i0.size l.length (.slice (some ⟨g,0,none⟩) l.length cap)).run P w.drew=.ok (bs l).toArray w.drew:=
   run_firstCells_some (P:=P) w.drew i0.size l.length ⟨g,0,none⟩ l.length cap (bs l) (by rw[dN,hz1,Nat.mul_one]) (fun j u hu=>by
    have hj:j<l.length:=by have:=(List.getElem?_eq_some_iff.1 hu).1; rwa[dN]at this
    rw[jK hj]at hu;obtain rfl:=zs hu;rw[Addr.add_lit,Nat.zero_add];exact h.cell j hj)
  have hfit:Builtin.nextslicecap (l.length+m) cap * i0.bytes<=281474976710656:=growslice_fits (by omega) (by rw[hz2]; omega);have hr:=Lib.run_append_grow_zeros (P:=P) w t tn ty e i0 _ .i64 .i64 ht htn hi hz0 (some ⟨g,0,none⟩) l.length cap (bs l) hold m hm (by omega) (by omega) (by omega) (by rw[hz2]; omega) hfit;refine⟨_,_,_,hr,⟨_,(0,0),heap_alloc_new w.drew _,.inl rfl,?_,?_,?_⟩,⟨rfl,rfl,rfl,by simp,fun k hk _=>Below.heap_alloc w.drew _ k hk⟩,.inr rfl⟩
  ·have:=grownCap_ge w (l.length+m) cap e;simpa using this
  ·have:=grownCap_ge w (l.length+m) cap e;simp only[Array.size_append,List.size_toArray,dN,size_zeroCells];simp[Value.cells];omega
  ·rw[Array.toList_append,Array.toList_append,uH,uX];simp only[List.length_append,List.length_replicate];rw[List.take_append_of_le_length (by simp[dN])];rw[List.take_of_length_le (by simp[dN])]
theorem Ik{ops:Array Oper}{rest:List Oper}{o:Oper}{a:Act}{Q:Exit->Act->World->Prop}{w:World}(hg:o.guard=none)(s x:Operand){t tn:TypeId}
 (hop:o.op=.call { callee:=.builtin .append,args:=#[s,x],argTypes:=#[t,tn] }){e:TypeId}
 (ht:P.underlying t=some (.slice e))(htn:P.underlying tn=some (.int .i64))(h2:(P.info? e).map (fun i=>(i.zero,i.size,i.bytes))=some (some (.int .u8 0),1,1))
 {g cap n:Nat}{l:List UInt8}(h:Row w e g cap l)(hn:n=l.length)(hv:a.eval s=.slice (some ⟨g,0,none⟩) n cap)(m:Nat)(hx:a.eval x=.int .i64 (m:Int))(hb:l.length+m<=1099511627776)
 (hK:∀g' cap' w',Row w' e g' cap' (l++List.replicate m 0)->w.grownBy w' (some g)->(g'=g\/g'=w.heap.size)->wpList P ops Q rest (a.put o.dst (.slice (some ⟨g',0,none⟩) (n+m) cap')) w'):wpList P ops Q (o :: rest) a w:=by
 subst hn;refine wpList_plain hg fun K hK'=>?_
 obtain⟨g',cap',w',hrun,r1,r2,r3⟩:=UO (ty:=o.type) ht htn h2 h m hb;unfold Oper.wp;simp[execOp,hop,resolve,invoke,builtin,hv,hx,hrun,Result.andThen];exact hK' _ _ (hK g' cap' w' r1 r2 r3)
end
end
namespace xA
open Go.RowKit
abbrev iV(m s f:Int):Value:=.agg #[.int .i64 m,.int .i64 s,.int .i64 f]
abbrev Ub(n:Int):Value:=iV (Q.mM n) (Q.mS n) (Q.mF n)
def RV(v:Value)(w:World)(e:Ending)(w':World):Prop:=e=.returned v/\Below w.heap.size w w'
theorem abn(n:Int):Q.mM n=n / 75 / 60:=by unfold Q.mM; omega
theorem Gy(n:Int)(w:World)(h0:0<=n)(h1:n<=449999):Calls prog 221 #[.int .i64 n] w (RV (.tuple #[Ub n,.bool true]) w):=by show Calls _ _ _ _ (RV (.tuple #[iV (Q.mM n) (n / 75 % 60) (n % 75),.bool true]) w);rw[abn];go_enter func221,ntmps221;go_wp2;exact zr (v:=.tuple #[iV (n / 75 / 60) (n / 75 % 60) (n % 75),.bool true]) (by simp[results,results221,go_sem]) rfl ⟨rfl,(zB _ _).alloc (zl _) _⟩
theorem Ic(n:Int)(w:World)(h0:-150<=n)(h1:n<=449849):Calls prog 136 #[.int .i64 n] w (RV (.tuple #[Ub (n+150),.int .i64 0]) w):=by go_enter func136,ntmps136;go_wp2_with fail;refine(Gy (n+150) _ (by omega) (by omega)).mono ?_;rintro e w1 ⟨rfl,hb⟩;have hb1:=((zB w.heap.size w).alloc (zl _) (.cells #[.int .i64 0,.int .i64 0,.int .i64 0] 235)).trans (hb.mono (by simp));have hB:Bx w1 w.heap.size 235 [.int .i64 0,.int .i64 0,.int .i64 0]:=(Bx.new w 235 [.int .i64 0,.int .i64 0,.int .i64 0]).call hb;have g0:=hB.cell (i:=0) rfl;have g1:=hB.cell (i:=1) rfl;have g2:=hB.cell (i:=2) rfl;have gf:=hB.free;have gl:=hB.lt;go_wp2_with fail;exact zr (v:=.tuple #[Ub (n+150),.int .i64 0]) (by simp[results,results136,go_sem,g0,g1,g2,gl]) rfl ⟨rfl,(((hb1.setCell (zl _) _).setCell (zl _) _).setCell (zl _) _).alloc (by simp; omega) _⟩
def qU(n:Int):Int:=n / 10 * 16+n % 10
def aG(x:Int):Int×Int:=if 9<x / 16\/9<x % 16 then(0,2) else(10 * (x / 16)+x % 16,0)
def vB(m s f:Int):Bool:=decide (0<=m/\m<=99/\0<=s/\s<=59/\0<=f/\f<=74)
theorem Qs{m s f:Int}(h:¬ (0<=m/\m<=99/\0<=s/\s<=59/\0<=f/\f<=74)):vB m s f=false:=zf h
theorem YC{m s f:Int}(h:0<=m/\m<=99/\0<=s/\s<=59/\0<=f/\f<=74):vB m s f=true:=zt h
theorem NK{m s f:Int}:vB m s f=true↔(0<=m/\m<=99/\0<=s/\s<=59/\0<=f/\f<=74):=decide_eq_true_iff
def R2(a b:Value)(w:World)(e:Ending)(w':World):Prop:=e=.returned (.tuple #[a,b])/\w=w'
def R2B(a b:Value)(w:World)(e:Ending)(w':World):Prop:=e=.returned (.tuple #[a,b])/\Below w.heap.size w w'
theorem abx:∀k:Nat,k<100->bits .or .i64 ((k:Int) / 10 * 16) ((k:Int) % 10) % 256=(k:Int) / 10 * 16+(k:Int) % 10:=by decide+kernel
theorem XP(n:Int)(h0:0<=n)(h1:n<=99):bits .or .i64 (n / 10 * 16) (n % 10) % 256=qU n:=by have h:=abx n.toNat (by omega);rwa[Int.toNat_of_nonneg h0]at h
theorem Ie{c:Int}(h:9<c / 16\/9<c % 16):aG c=(0,2):=zj h
theorem Ce{c:Int}(h:c / 16<=9/\c % 16<=9):aG c=(10 * (c / 16)+c % 16,0):=zi (by omega)
theorem adL{x y:Int}{r:Int×Int}(h:r=(x,y)):Ending.returned (.tuple #[.int .i64 x,.int .i64 y])=.returned (.tuple #[.int .i64 r.1,.int .i64 r.2]):=by rw[h]
theorem afl{a a' b:Value}(h:a=a'):Ending.returned (.tuple #[a,b])=.returned (.tuple #[a',b]):=by rw[h]
theorem Wu(n:Int)(w:World)(h0:0<=n)(h1:n<=99):Calls prog 225 #[.int .i64 n] w (R2 (.int .u8 (qU n)) (.int .i64 0) w):=by go_enter func225,ntmps225;go_wp2;go_ret2;refine⟨afl (congrArg (Value.int .u8) ?_),rfl⟩;first | exact XP n h0 h1 | rfl
theorem vW(c:Int)(w:World)(h0:0<=c)(h1:c<=255):Calls prog 234 #[.int .u8 c] w (R2 (.int .i64 (aG c).1) (.int .i64 (aG c).2) w):=by
 go_enter func234,ntmps234;go_wp2;all_goals
  go_ret2;refine⟨adL ?_,rfl⟩;first | exact Ie (.inl (by assumption)) | exact Ie (by assumption) | exact Ce (by assumption) | exact(Ce (by assumption)).trans (by rw[Int.mul_comm])
theorem MS(w:World):Calls prog 293 #[.int .i64 0] w (RV (.int .i64 100) w):=by go_enter func293,ntmps293;go_wp2;go_ret;exact⟨rfl,(zB _ _).alloc (zl _) _⟩
theorem MV(w:World):Calls prog 293 #[.int .i64 1] w (RV (.int .i64 60) w):=by go_enter func293,ntmps293;go_wp2;go_ret;exact⟨rfl,(zB _ _).alloc (zl _) _⟩
theorem MW(w:World):Calls prog 293 #[.int .i64 2] w (RV (.int .i64 75) w):=by go_enter func293,ntmps293;go_wp2;go_ret;exact⟨rfl,(zB _ _).alloc (zl _) _⟩
theorem BZ(m s f:Int)(w:World):Calls prog 292 #[iV m s f] w (RV (iV m s f) w):=by go_enter func292,ntmps292;go_wp2;exact zr (v:=iV m s f) (by simp[results,results292,go_sem]) rfl ⟨rfl,((zB _ _).alloc (zl _) _).alloc (by simp) _⟩
theorem ET(m s f:Int)(w:World)(h:0<=m/\m<=99/\0<=s/\s<=59/\0<=f/\f<=74):Calls prog 236 #[iV m s f] w (RV (.int .i64 ((60 * m+s) * 75+f)) w):=by obtain⟨h1,h2,h3,h4,h5,h6⟩:=h;go_enter func236,ntmps236;go_wp2;go_ret;exact⟨rfl,(zB _ _).alloc (zl _) _⟩
theorem BQ{a:Bool}(h:a=false):Ending.returned (.bool false)=.returned (.bool a):=by rw[h]
theorem adM{a:Bool}(h:a=true):Ending.returned (.bool true)=.returned (.bool a):=by rw[h]
theorem rQ(m s f:Int)(w:World):Calls prog 222 #[iV m s f] w (RB (vB m s f) w):=by
 have i0:∀w,(Instr.index 325 (.agg #[.int .i64 m,.int .i64 s,.int .i64 f]) (.int .i64 0)).run prog w=.ok (.int .i64 m) w:=fun _=>by kernel_rfl
 have i1:∀w,(Instr.index 325 (.agg #[.int .i64 m,.int .i64 s,.int .i64 f]) (.int .i64 1)).run prog w=.ok (.int .i64 s) w:=fun _=>by kernel_rfl
 have i2:∀w,(Instr.index 325 (.agg #[.int .i64 m,.int .i64 s,.int .i64 f]) (.int .i64 2)).run prog w=.ok (.int .i64 f) w:=fun _=>by kernel_rfl
 go_enter func222,ntmps222;go_wp2_with fail;refine(BZ m s f _).mono ?_;rintro e w1 ⟨rfl,hb⟩;have hb1:=((zB w.heap.size w).alloc (zl _) (.cells #[.int .i64 m,.int .i64 s,.int .i64 f] 235)).trans (hb.mono (by simp));clear hb;go_wp2_with fail
 go_loopw [7] (fun vi wr=>∃(k:Nat),k<=3/\vi=.int .i64 k/\(0<k->0<=m/\m<=99)/\(1<k->0<=s/\s<=59)/\(2<k->0<=f/\f<=74)/\Below w.heap.size w wr) (fun vi _=>3 - (RowKit.intOf vi).toNat)
 case atStart=>exact⟨0,by omega,rfl,fun h=>by omega,fun h=>by omega,fun h=>by omega,hb1⟩
 case round=>
  clear hb1;obtain⟨k,hk,rfl,hK0,hK1,hK2,hb⟩:=hrel;by_cases h3:k=3
  ·subst h3;have a0:=zH (hK0 (by omega)); have a1:=zH (hK1 (by omega)); have a2:=zH (hK2 (by omega));clear hK0 hK1 hK2;go_wp2_with fail;go_ret;exact⟨adM (YC (by have:=a0.out; have:=a1.out; have:=a2.out; omega)),hb⟩
  by_cases h0:k=0
  ·subst h0;have A0:=zH hK0; have A1:=zH hK1; have A2:=zH hK2;clear hK0 hK1 hK2 h3;by_cases hp:0<=m
   ·have d1:decide (m<0)=false:=zf (by omega);by_cases hq:m<=99
    ·have d2:decide (100<=m)=false:=zf (by omega);go_wp2_with fail;refine(MS _).mono ?_;rintro e w2 ⟨rfl,hb2⟩;have hb3:=hb.trans (hb2.mono hb.size);go_wp2_with fail;first
     | (go_roundw
        case rel=>exact⟨1,by omega,by go_num,fun _=>⟨hp,hq⟩,fun h=>by omega,fun h=>by omega,hb3⟩
        case measure=>simp[RowKit.intOf])
     | exact⟨⟨1,by omega,by go_num,fun _=>⟨hp,hq⟩,fun h=>by omega,fun h=>by omega,hb3⟩,by simp[RowKit.intOf]⟩
    ·have d2:decide (100<=m)=true:=zt (by omega);go_wp2_with fail;refine(MS _).mono ?_;rintro e w2 ⟨rfl,hb2⟩;have hb3:=hb.trans (hb2.mono hb.size);go_wp2_with fail;go_ret;exact⟨BQ (Qs (by omega)),hb3⟩
   ·have d1:decide (m<0)=true:=zt (by omega);go_wp2_with fail;go_ret;exact⟨BQ (Qs (by omega)),hb⟩
  by_cases h1:k=1
  ·subst h1;have A0:=zH hK0; have A1:=zH hK1; have A2:=zH hK2;clear hK0 hK1 hK2 h3;by_cases hp:0<=s
   ·have d1:decide (s<0)=false:=zf (by omega);by_cases hq:s<=59
    ·have d2:decide (60<=s)=false:=zf (by omega);go_wp2_with fail;refine(MV _).mono ?_;rintro e w2 ⟨rfl,hb2⟩;have hb3:=hb.trans (hb2.mono hb.size);go_wp2_with fail;first
     | (go_roundw
        case rel=>exact⟨2,by omega,by go_num,fun _=>A0.out (by omega),fun _=>⟨hp,hq⟩,fun h=>by omega,hb3⟩
        case measure=>simp[RowKit.intOf])
     | exact⟨⟨2,by omega,by go_num,fun _=>A0.out (by omega),fun _=>⟨hp,hq⟩,fun h=>by omega,hb3⟩,by simp[RowKit.intOf]⟩
    ·have d2:decide (60<=s)=true:=zt (by omega);go_wp2_with fail;refine(MV _).mono ?_;rintro e w2 ⟨rfl,hb2⟩;have hb3:=hb.trans (hb2.mono hb.size);go_wp2_with fail;go_ret;exact⟨BQ (Qs (by omega)),hb3⟩
   ·have d1:decide (s<0)=true:=zt (by omega);go_wp2_with fail;go_ret;exact⟨BQ (Qs (by omega)),hb⟩
  by_cases h2:k=2
  ·subst h2;have A0:=zH hK0; have A1:=zH hK1; have A2:=zH hK2;clear hK0 hK1 hK2 h3;by_cases hp:0<=f
   ·have d1:decide (f<0)=false:=zf (by omega);by_cases hq:f<=74
    ·have d2:decide (75<=f)=false:=zf (by omega);go_wp2_with fail;refine(MW _).mono ?_;rintro e w2 ⟨rfl,hb2⟩;have hb3:=hb.trans (hb2.mono hb.size);go_wp2_with fail;first
     | (go_roundw
        case rel=>exact⟨3,by omega,by go_num,fun _=>A0.out (by omega),fun _=>A1.out (by omega),fun _=>⟨hp,hq⟩,hb3⟩
        case measure=>simp[RowKit.intOf])
     | exact⟨⟨3,by omega,by go_num,fun _=>A0.out (by omega),fun _=>A1.out (by omega),fun _=>⟨hp,hq⟩,hb3⟩,by simp[RowKit.intOf]⟩
    ·have d2:decide (75<=f)=true:=zt (by omega);go_wp2_with fail;refine(MW _).mono ?_;rintro e w2 ⟨rfl,hb2⟩;have hb3:=hb.trans (hb2.mono hb.size);go_wp2_with fail;go_ret;exact⟨BQ (Qs (by omega)),hb3⟩
   ·have d1:decide (f<0)=true:=zt (by omega);go_wp2_with fail;go_ret;exact⟨BQ (Qs (by omega)),hb⟩
  omega
end xA
namespace T7
open Go Go.RowKit Go.Maps Go.MapKept
def MF(k:TypeId)(w:World)(b n:Nat)(f:Int->Option Value):Prop:=
 ∃D:DataW Value,w.ownsMap prog k Mp.Kz b n D/\(∀x:Int,Maps.has D (.int .i64 x)=(f x).isSome)/\∀x v,f x=some v->∀z,D.atKey (.int .i64 x) z=.held v
def ja(f:Int->Option Value)(x:Int)(v:Value):Int->Option Value:=fun y=>if y=x then some v else f y
theorem abO{x:Int}(h1:-9223372036854775808<=x)(h2:x<=9223372036854775807):(Lit.int .i64 x).wf=true:=by simp[Lit.wf,IntKind.min,IntKind.max,IntKind.signed,IntKind.bits]; omega
section
variable {k:TypeId} {w w':World} {b n:Nat} {f:Int->Option Value}
theorem MF.made(k:TypeId)(w:World):MF k (w.alloc (.map #[] 0)) w.heap.size 0 (fun _=>none):=
 ⟨.map [],World.ownsMap_made _ _ _ _,fun x=>rfl,fun x v h=>by cases h⟩
theorem MF.lt(h:MF k w b n f):b<w.heap.size:=by obtain⟨D,⟨es,clock,hb,_⟩,_⟩:=h;exact(Array.getElem?_eq_some_iff.1 hb).1
theorem MF.kept(h:MF k w b n f)(hk:w'.heap[b]? = w.heap[b]?):MF k w' b n f:=by obtain⟨D,⟨es,clock,hb,r⟩,r2⟩:=h;exact⟨D,⟨es,clock,hk.trans hb,r⟩,r2⟩
theorem MF.below(h:MF k w b n f)(hb:Below w.heap.size w w'):MF k w' b n f:=h.kept (hb.block b h.lt)
theorem MF.ins(hk:prog.underlying k=some (.int .i64)){t e:TypeId}(ht:prog.underlying t=some (.map k e))(h:MF k w b n f)(hn:n<1000)(x:Int)(h1:-9223372036854775808<=x)(h2:x<=9223372036854775807)(v:Value):
 ∃w',(Instr.mapUpdate t (.map (some b)) (.int .i64 x) v).run prog w=.ok () w'/\MF k w' b (n+1) (ja f x v)/\w.grownBy w' (some b):=by
 obtain⟨D,hown,hf,hv⟩:=h;obtain⟨w',hrun,ho,ht'⟩:=hown.store (int_keyed hk) ht (by unfold maxLen; omega) (keyOf_int_mk hk (abO h1 h2)) (show Mp.Kz v=some (.held v,[]) from rfl);refine⟨w',hrun,⟨_,ho,fun y=>?_,fun y u hu z=>?_⟩,ht'.grown⟩
 ·unfold ja;by_cases e:y=x
  ·subst e; rw[zj rfl,has_put_same hown.isMap (show WideAt.IsKeyLit (.int .i64 y) from trivial)]; rfl
  ·rw[zi e,has_put_other (by simpa using e),hf y]
 ·unfold ja at hu;by_cases e:y=x
  ·subst e;rw[zj rfl]at hu;rw[atKey_put_same hown.isMap (show WideAt.IsKeyLit (.int .i64 y) from trivial),zs hu]
  ·rw[zi e]at hu;rw[atKey_put_other (by simpa using e),hv y u hu z]
theorem MF.look(hk:prog.underlying k=some (.int .i64)){t e:TypeId}(ht:prog.underlying t=some (.map k e))(h:MF k w b n f){z:Value}(hz:(zeroValue e).run prog w=.ok z w)(x:Int)(h1:-9223372036854775808<=x)(h2:x<=9223372036854775807):
 (Instr.lookup t (.map (some b)) (.int .i64 x) true).run prog w=.ok (.tuple #[(f x).getD z,.bool (f x).isSome]) w:=by
 obtain⟨D,hown,hf,hv⟩:=h;obtain⟨v,ps,hrun,hat⟩:=hown.look_ok (int_keyed hk) ht hz (show Mp.Kz z=some (.held z,[]) from rfl) (keyOf_int_mk hk (abO h1 h2));rw[hrun,hf x];have hat:some ((.held v:DataW Value),([]:List MemPlace))=some (D.atKey (.int .i64 x) (.held z),ps):=hat;simp only[Option.some.injEq,Prod.mk.injEq]at hat;cases hx:f x with
 | some u=>
   have h3:=hv x u hx (.held z);rw[h3]at hat;have:v=u:=by simpa using hat.1
   rw[this]; rfl
 | none=>
   have h3:Maps.has D (.int .i64 x)=false:=by rw[hf x,hx]; rfl
   rw[atKey_of_not_has h3]at hat;have:v=z:=by simpa using hat.1
   rw[this]; rfl
theorem MF.look1(hk:prog.underlying k=some (.int .i64)){t e:TypeId}(ht:prog.underlying t=some (.map k e))(h:MF k w b n f){z:Value}(hz:(zeroValue e).run prog w=.ok z w)(x:Int)(h1:-9223372036854775808<=x)(h2:x<=9223372036854775807){v:Value}(hv:f x=some v):
 (Instr.lookup t (.map (some b)) (.int .i64 x) false).run prog w=.ok v w:=by
 obtain⟨D,hown,hf,hvv⟩:=h;obtain⟨u,ps,hrun,hat⟩:=hown.lookup (int_keyed hk) ht hz (show Mp.Kz z=some (.held z,[]) from rfl) (keyOf_int_mk hk (abO h1 h2));have hat:some ((.held u:DataW Value),([]:List MemPlace))=some (D.atKey (.int .i64 x) (.held z),ps):=hat;simp only[Option.some.injEq,Prod.mk.injEq]at hat;rw[hvv x v hv (.held z)]at hat;have:u=v:=by simpa using hat.1
 rw[hrun,this]
end
def tH:Int->Option Value:=ja (ja (ja (ja (ja (ja (ja (ja (ja (fun _=>none) 0 (.func (.func 76) #[] #[])) 1 (.func (.func 77) #[] #[])) 2 (.func (.func 78) #[] #[])) 3 (.func (.func 79) #[] #[])) 4 (.func (.func 80) #[] #[])) 5 (.func (.func 81) #[] #[])) 6 (.func (.func 82) #[] #[])) 7 (.func (.func 83) #[] #[])) 8 (.func (.func 84) #[] #[])
theorem uY(w:World):Calls prog 32 #[] w fun e w'=>e=.returned (.map (some w.heap.size))/\MF 3 w' w.heap.size 9 tH/\Below w.heap.size w w':=by have hmm:=@run_makeMap prog;have m0:=MF.made 3 w;have hb0:=(zB w.heap.size w).alloc (zl _) (.map #[] 0);obtain⟨w1,r1,m1,g1⟩:=m0.ins underlying3 underlying105 (by omega) 0 (by omega) (by omega) (.func (.func 76) #[] #[]);have hb1:=hb0.grown g1 hb0.size (fun q hq=>Nat.le_of_eq (zs hq));clear hb0 g1 m0;obtain⟨w2,r2,m2,g2⟩:=m1.ins underlying3 underlying105 (by omega) 1 (by omega) (by omega) (.func (.func 77) #[] #[]);have hb2:=hb1.grown g2 hb1.size (fun q hq=>Nat.le_of_eq (zs hq));clear hb1 g2 m1;obtain⟨w3,r3,m3,g3⟩:=m2.ins underlying3 underlying105 (by omega) 2 (by omega) (by omega) (.func (.func 78) #[] #[]);have hb3:=hb2.grown g3 hb2.size (fun q hq=>Nat.le_of_eq (zs hq));clear hb2 g3 m2;obtain⟨w4,r4,m4,g4⟩:=m3.ins underlying3 underlying105 (by omega) 3 (by omega) (by omega) (.func (.func 79) #[] #[]);have hb4:=hb3.grown g4 hb3.size (fun q hq=>Nat.le_of_eq (zs hq));clear hb3 g4 m3;obtain⟨w5,r5,m5,g5⟩:=m4.ins underlying3 underlying105 (by omega) 4 (by omega) (by omega) (.func (.func 80) #[] #[]);have hb5:=hb4.grown g5 hb4.size (fun q hq=>Nat.le_of_eq (zs hq));clear hb4 g5 m4;obtain⟨w6,r6,m6,g6⟩:=m5.ins underlying3 underlying105 (by omega) 5 (by omega) (by omega) (.func (.func 81) #[] #[]);have hb6:=hb5.grown g6 hb5.size (fun q hq=>Nat.le_of_eq (zs hq));clear hb5 g6 m5;obtain⟨w7,r7,m7,g7⟩:=m6.ins underlying3 underlying105 (by omega) 6 (by omega) (by omega) (.func (.func 82) #[] #[]);have hb7:=hb6.grown g7 hb6.size (fun q hq=>Nat.le_of_eq (zs hq));clear hb6 g7 m6;obtain⟨w8,r8,m8,g8⟩:=m7.ins underlying3 underlying105 (by omega) 7 (by omega) (by omega) (.func (.func 83) #[] #[]);have hb8:=hb7.grown g8 hb7.size (fun q hq=>Nat.le_of_eq (zs hq));clear hb7 g8 m7;obtain⟨w9,r9,m9,g9⟩:=m8.ins underlying3 underlying105 (by omega) 8 (by omega) (by omega) (.func (.func 84) #[] #[]);have wI:=hb8.grown g9 hb8.size (fun q hq=>Nat.le_of_eq (zs hq));clear hb8 g9 m8;have HM:=zH m9;have HB:=zH wI;clear m9 wI;go_enter func32,ntmps32;go_wp2_with fail;go_ret;exact⟨rfl,HM.out,HB.out⟩
end T7
end Go.Proofs.YtfnehkmhcmkhjaaGreat
