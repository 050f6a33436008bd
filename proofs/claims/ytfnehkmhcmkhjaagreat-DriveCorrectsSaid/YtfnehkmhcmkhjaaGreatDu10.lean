/- Parts -/
import Derived.Test.YtfnehkmhcmkhjaaGreatDu07
import Derived.Test.YtfnehkmhcmkhjaaGreatDuShelf
import Derived.Lib.AppendStr
set_option maxRecDepth 100000
set_option maxHeartbeats 8000000
set_option linter.unusedVariables false
namespace Go.Proofs.YtfnehkmhcmkhjaaGreat
open Tryz
namespace T7
open Go.RowKit Ih
def es1(n:Nat):Nat:=if n%2=1 then(n/2)^^^3623976961 else n/2
def esN:Nat->Nat->Nat
 |0,n=>n
 |k+1,n=>es1 (esN k n)
theorem ajt{n:Nat}(h:n<4294967296):es1 n<4294967296:=by
 unfold es1;split
 ·exact Xk (n:=32) (by omega) (by omega)
 ·omega
theorem TI{n:Nat}(h:n<4294967296):∀k,esN k n<4294967296
 |0=>h
 |k+1=>ajt (TI h k)
def Py(b:Nat):Nat:=esN 8 b
theorem V7{b:Nat}(h:b<256):Py b<4294967296:=TI (by omega) 8
def acM(c:Nat)(b:UInt8):Nat:=(c/256)^^^Py ((c%256)^^^b.toNat)
theorem afh{a b:Nat}(ha:a<256)(hb:b<256):a^^^b<256:=Xk (n:=8) (by omega) (by omega)
theorem agd{c:Nat}(h:c<4294967296)(b:UInt8):acM c b<4294967296:=
 Xk (n:=32) (by omega) (V7 (afh (by omega) b.toNat_lt))
def uJ(c:Nat)(s:List UInt8):Nat:=s.foldl acM c
theorem TC{c:Nat}(h:c<4294967296):∀s:List UInt8,uJ c s<4294967296
 | []=>h
 |b::s=>TC (agd h b) s
theorem acC(c:Nat)(s:List UInt8)(b:UInt8):uJ c (s++[b])=acM (uJ c s) b:=by simp[uJ]
theorem acD(s:ByteArray)(k:Nat)(h:k<s.size):uJ 0 (s.data.toList.take (k+1))=acM (uJ 0 (s.data.toList.take k)) s[k]:=by rw[<-acC,Yo (by simpa using h)];rfl
theorem afy{X:Nat}(h:X<4294967296):bits .and .u32 (X:Int) 1=((X%2:Nat):Int):=by have e:=u32_and_nat X 1 h (by omega);rw[Nat.and_one_is_mod]at e;exact e
theorem FY(b:Nat)(w:World)(hb:b<256):Calls prog 392 #[.int .u8 b] w λe w'=>e=.returned (.int .u32 (Py b:Nat))/\w=w':=by
 go_enter func392,ntmps392;go_wp2_with fail
 go_loop [3,6] (λvn vk=>∃k:Nat,k<=8/\vn=.int .u32 (esN k b:Nat)/\vk=.int .i64 k) (λ_ vk=>8-(RowKit.intOf vk).toNat)
 case atStart=>exact⟨0,by omega,rfl,rfl⟩
 case round=>
  obtain⟨k,hk,rfl,rfl⟩:=hrel;by_cases hlt:k<8
  ·have hX:esN k b<4294967296:=TI (by omega) k;have HS:Hid (esN (k+1) b=es1 (esN k b)):=zH rfl;generalize esN k b=X at hX HS ⊢;have hand:=afy hX;have HU:Hid (es1 X=if X%2=1 then(X/2)^^^3623976961 else X/2):=zH rfl;by_cases h1:X%2=1
   ·have HE:=zH h1;clear h1;have d1:(((X%2:Nat):Int) == 1)=true:=by have:=HE.out;simp;omega
    have d2:(((X:Int)%2) == 1)=true:=by have:=HE.out;simp;omega
    go_wp2_with fail;refine⟨⟨k+1,by omega,Yp (Value.int .u32) ?_,rfl⟩,by simp[RowKit.intOf];omega⟩;rw[HS.out,HU.out,zj HE.out];exact u32_xor_nat (X/2) 3623976961 (by omega) (by omega)
   ·have HE:=zH h1;clear h1;have d1:(((X%2:Nat):Int) == 1)=false:=by have:=HE.out;simp;omega
    have d2:(((X:Int)%2) == 1)=false:=by have:=HE.out;simp;omega
    go_wp2_with fail;refine⟨⟨k+1,by omega,Yp (Value.int .u32) ?_,rfl⟩,by simp[RowKit.intOf];omega⟩;rw[HS.out,HU.out,zi HE.out];omega
  ·obtain rfl:k=8:=by omega
   go_wp2_with fail;go_ret;exact⟨rfl,rfl⟩
def pR:Array Value:=Array.replicate 256 (.int .u32 0)
def te:Nat->Array Value
 |0=>pR
 |k+1=>(te k).setIfInBounds k (.int .u32 (Py k:Nat))
theorem mV:∀k,(te k).size=256
 |0=>by simp[te,pR]
 |k+1=>by rw[te,Array.size_setIfInBounds,mV k]
theorem akq(k i:Nat)(h:i<k)(hk:k<=256):(te k)[i]? = some (.int .u32 (Py i:Nat)):=by
 induction k generalizing i with
 |zero=>omega
 | succ k ih=>
   rw[te];by_cases e:i=k
   ·subst e;rw[Array.getElem?_setIfInBounds_self_of_lt (by rw[mV];omega)]
   ·rw[Vj (by omega)];exact ih i (by omega) (by omega)
theorem ahS(k i:Nat)(h:i<256):∃v,(te k)[i]? = some v:=by
 have:i<(te k).size:=by rw[mV];exact h
 exact⟨_,XK this⟩
theorem Vo(k:Nat):∀v∈(te k),v.oneCell'=true:=by
 induction k with
 |zero=>intro v hv;simp[te,pR]at hv;subst hv;rfl
 | succ k ih=>
   intro v hv;rcases Array.mem_or_eq_of_mem_setIfInBounds hv with h|h
   ·exact ih v h
   ·subst h;rfl
theorem GY:∀w,(zeroValue 408).run prog w=.ok (.agg pR) w:=λ_=>by kernel_rfl
theorem TJ(w:World):
 Calls prog 391 #[.func (.func 392) #[] #[]] w λe w'=>e=.returned (.agg (te 256))/\Below w.heap.size w w':=by
 have hz:=GY;go_enter func391,ntmps391;go_wp2_with fail;have h0:((w.alloc (.cells pR 408)).alloc (.cells pR 408)).heap[w.heap.size]? = some (.cells (te 0) 408):=heap_alloc2_old _ _ _;have h1:((w.alloc (.cells pR 408)).alloc (.cells pR 408)).heap[w.heap.size+1]? = some (.cells (te 0) 408):=heap_alloc2_new _ _ _;have h2:Below w.heap.size w ((w.alloc (.cells pR 408)).alloc (.cells pR 408)):=((zB _ _).alloc (zl _) _).alloc (by simp) _;generalize (w.alloc (.cells pR 408)).alloc (.cells pR 408)=w1 at h0 h1 h2 ⊢;clear hz
 go_loopw [5] (λvk wr=>∃k:Nat,k<=256/\vk=.int .i64 k/\wr.heap[w.heap.size]? = some (.cells pR 408)/\wr.heap[w.heap.size+1]? = some (.cells (te k) 408)/\Below w.heap.size w wr) (λvk _=>256-(RowKit.intOf vk).toNat)
 case atStart=>exact⟨0,by omega,rfl,h0,h1,h2⟩
 case round=>
  obtain⟨k,hk,rfl,g0,g1,g2⟩:=hrel;clear h0 h1 h2;by_cases hlt:k<256
  ·obtain⟨v,hv⟩:=ahS k k hlt;have hc:wr.cell? ⟨w.heap.size+1,k,none⟩=some v:=by rw[Xd wr _ k _ _ _ g1];exact hv
   have hf:=frozen_of_row wr _ k _ _ g1;clear hv;have G0:=zH g0;have G1:=zH g1;clear g0 g1;go_wp2_with fail;refine(FY k _ hlt).mono ?_;rintro e w' ⟨rfl,rfl⟩;go_wp2_with fail;go_roundw;case rel=>
    refine⟨k+1,by omega,by go_num,?_,?_,g2.setCell (by simp) _⟩
    ·rw[heap_setCell_other _ _ _ _ (by simp)];exact G0.out
    ·exact heap_setCell_same _ _ _ _ _ _ G1.out
   case measure=>simp[RowKit.intOf];omega
  ·obtain rfl:k=256:=by omega
   have G0:=zH g0;have G1:=zH g1;clear g0 g1;have hi:(prog.info? 408).map (·.size)=some (te 256).size:=by rw[mV];kernel_rfl
   have h1:(te 256).all (·.oneCell')=true:=Xb.2 (Vo 256);go_wp2_with (first|(refine wpList_load_row rfl 408 _ rfl _ rfl 408 _ _ _ G1.out underlying408 rfl hi ?_)|(refine XZ rfl 408 _ _ rfl w.heap.size (te 256) rfl rfl 408 _ G0.out hi (by simp[pR,mV]) h1 ?_));exact zr (v:=.agg (te 256)) (results_cell_row rfl _ _ w.heap.size 408 (te 256) (0,0) _ rfl (XP _ _ _ _ _ _ G0.out) underlying408 rfl hi) rfl ⟨rfl,Below.setRow g2 (zl _) _⟩
theorem IC(w:World):
 Calls prog 358 #[] w λe w'=>e=.returned (.agg (te 256))/\Below w.heap.size w w':=by
 have hz:=GY;go_enter func358,ntmps358;go_wp2_with fail;refine(TJ _).mono ?_;rintro e w1 ⟨rfl,hb⟩;have hb1:=((zB w.heap.size w).alloc (zl _) (.cells pR 408)).trans (hb.mono (by simp));have g0:w1.heap[w.heap.size]? = some (.cells pR 408):=(hb.block w.heap.size (by simp)).trans (Xl _ _);have G0:=zH g0;clear g0 hz;have hi:(prog.info? 408).map (·.size)=some (te 256).size:=by rw[mV];kernel_rfl
 have h1:(te 256).all (·.oneCell')=true:=Xb.2 (Vo 256);go_wp2_with (refine XZ rfl 408 _ _ rfl w.heap.size (te 256) rfl rfl 408 _ G0.out hi (by simp[pR,mV]) h1 ?_);exact zr (v:=.agg (te 256)) (results_cell_row rfl _ _ w.heap.size 408 (te 256) (0,0) _ rfl (XP _ _ _ _ _ _ G0.out) underlying408 rfl hi) rfl ⟨rfl,Below.setRow hb1 (zl _) _⟩
theorem acE(s:ByteArray)(w:World)(hs:s.size<=1000000):Calls prog 294 #[.int .u32 0,.string s] w λe w'=>e=.returned (.int .u32 (uJ 0 s.data.toList:Nat))/\Below w.heap.size w w':=by
 have hz:=GY;go_enter func294,ntmps294;go_wp2_with fail;refine(IC _).mono ?_;rintro e w1 ⟨rfl,hb⟩;have hi:(prog.info? 408).map (·.size)=some (te 256).size:=by rw[mV];kernel_rfl
 have h1:(te 256).all (·.oneCell')=true:=Xb.2 (Vo 256);go_wp2_with (refine XZ rfl 408 _ _ rfl w1.heap.size (te 256) rfl rfl 408 _ (Xl _ _) hi (by simp[pR,mV]) h1 ?_);have hT:((w1.alloc (.cells pR 408)).setRow w1.heap.size (te 256)).heap[w1.heap.size]? = some (.cells (te 256) 408):=XP _ _ _ _ _ _ (Xl _ _);have hb2:Below w.heap.size w ((w1.alloc (.cells pR 408)).setRow w1.heap.size (te 256)):=Below.setRow (hb.alloc hb.size _) hb.size _;generalize (w1.alloc (.cells pR 408)).setRow w1.heap.size (te 256)=w2 at hT hb2 ⊢;obtain⟨g,hg⟩:∃g,g=w1.heap.size:=⟨_,rfl⟩;rw[<-hg]at hT;simp only[<-hg];clear hz h1 hi hb hg;have HT:=zH hT;clear hT
 go_loop [0,10] (λvc vk=>∃k:Nat,k<=s.size/\vc=.int .u32 (uJ 0 (s.data.toList.take k):Nat)/\vk=.int .i64 k) (λ_ vk=>s.size-(RowKit.intOf vk).toNat)
 case atStart=>exact⟨0,by omega,rfl,rfl⟩
 case round=>
  obtain⟨k,hk,rfl,rfl⟩:=hrel;have hX:uJ 0 (s.data.toList.take k)<4294967296:=TC (by omega) _;by_cases hlt:k<s.size
  ·have HS:=zH (acD s k hlt);generalize uJ 0 (s.data.toList.take k)=X at hX HS ⊢;have HR:Hid (acM X s[k]=(X/256)^^^Py ((X%256)^^^s[k].toNat)):=zH rfl;have hcb:=s[k].toNat_lt;have hj:X%256^^^s[k].toNat<256:=afh (by omega) hcb;have hbx:bits .xor .u8 ((X:Int)%256) (s[k].toNat:Int)=((X%256^^^s[k].toNat:Nat):Int):=u8_xor_nat (X%256) s[k].toNat (by omega) hcb;have hcell:w2.cell? ⟨g,X%256^^^s[k].toNat,none⟩=some (.int .u32 (Py (X%256^^^s[k].toNat):Nat)):=by rw[Xd w2 _ _ _ _ _ HT.out];exact akq 256 _ hj (by omega)
   generalize X%256^^^s[k].toNat=j at hj hbx hcell HR;have HJ:=zH hj;go_wp2_with fail;refine⟨⟨k+1,by omega,Yp (Value.int .u32) ?_,rfl⟩,by simp[RowKit.intOf];omega⟩;rw[HS.out,HR.out];exact u32_xor_nat (X/256) (Py j) (by omega) (V7 HJ.out)
  ·obtain rfl:k=s.size:=by omega
   have HF:Hid (uJ 0 (s.data.toList.take s.size)=uJ 0 s.data.toList):=zH (by rw[YE (by simp)]);go_wp2_with fail;go_ret;exact⟨by rw[<-HF.out];rfl,hb2⟩
theorem af7(s:ByteArray)(w:World)(hs:s.size<=1000000):Calls prog 227 #[.string s] w λe w'=>e=.returned (.int .u32 (uJ 0 s.data.toList:Nat))/\Below w.heap.size w w':=by go_enter func227,ntmps227;go_wp2_with fail;refine(acE s _ hs).mono ?_;rintro e w1 ⟨rfl,hb⟩;go_wp2_with fail;go_ret;exact⟨rfl,hb⟩
def mD(c:Nat):List UInt8:=[UInt8.ofNat (c%256),UInt8.ofNat (c/256%256),UInt8.ofNat (c/65536%256),UInt8.ofNat (c/16777216)]
theorem acB(c:Nat)(hc:c<4294967296)(w:World)(t:TypeId):(convert 65 9 (.slice (some ⟨w.heap.size,0,none⟩) 4 4)).run prog (w.alloc (.cells #[.int .u8 ((c:Int)%256),.int .u8 ((c:Int)/256%256),.int .u8 ((c:Int)/65536%256),.int .u8 ((c:Int)/16777216)] t))=.ok (.string (str (mD c))) (w.alloc (.cells #[.int .u8 ((c:Int)%256),.int .u8 ((c:Int)/256%256),.int .u8 ((c:Int)/65536%256),.int .u8 ((c:Int)/16777216)] t)):=by
 have h:=eX (dst:=9) underlying65 underlying5 underlying9 (Rd.lit w (mD c) t (by simp[mD]));have e:(bs (mD c)).toArray = #[.int .u8 ((c:Int)%256),.int .u8 ((c:Int)/256%256),.int .u8 ((c:Int)/65536%256),.int .u8 ((c:Int)/16777216)]:=by simp only[mD,bs,B,Vh,Vg,toNat_ofNat (show c%256<256 by omega),toNat_ofNat (show c/256%256<256 by omega),toNat_ofNat (show c/65536%256<256 by omega),toNat_ofNat (show c/16777216<256 by omega)];simp
 rw[e]at h;exact h
theorem Lp(c:Nat)(w:World)(hc:c<4294967296):Calls prog 226 #[.int .u32 c] w λe w'=>e=.returned (.string (str (mD c)))/\Below w.heap.size w w':=by have hst:=acB c hc w 5;go_enter func226,ntmps226;go_wp2_with fail;go_ret;exact⟨rfl,(zB _ _).alloc (zl _) _⟩
end T7
section
open Go.RowKit
theorem Y7:(prog.info? 218).map (·.size)=some 2:=by kernel_rfl
theorem agU:liesAt prog prog.depth 218 (2/prog.cellsOf 218) 0 218 1=true:=by kernel_rfl
theorem ajY:(prog.info? 5).map (λi=>(i.zero,i.size,i.bytes))=some (some (.int .u8 0),1,1):=by kernel_rfl
theorem OE(b:Nat)(w:World)(h0:w.cell? ⟨b,0,none⟩=some (.pointer (some ⟨b,0,none⟩))):
 Calls prog 212 #[.pointer (some ⟨b,0,none⟩)] w λe w'=>e=.returned (.tuple #[])/\w'=w:=by
 obtain⟨j,hj,_⟩:=Option.map_eq_some_iff.1 Y7;go_enter func212,ntmps212;go_wp2;rw[Lib.run_neq_ptr_same w _ underlying216 hj];go_wp2;go_end0;exact⟨rfl,rfl⟩
theorem KT(b:Nat)(w:World)(h0:w.cell? ⟨b,0,none⟩=some (.pointer none))(hsh:w.shape? b=some (218,2))(hfz:w.frozen? ⟨b,0,none⟩=false):
 Calls prog 212 #[.pointer (some ⟨b,0,none⟩)] w λe w'=>e=.returned (.tuple #[])/\w'=w.setCell ⟨b,0,none⟩ (.pointer (some ⟨b,0,none⟩)):=by
 obtain⟨j,hj,hjs⟩:=Option.map_eq_some_iff.1 Y7;go_enter func212,ntmps212;go_wp2;rw[Lib.run_to_unsafe w ⟨b,0,none⟩ underlying216 underlying361 hj (by rw[hjs];decide) hsh (Nat.zero_lt_succ 1)];simp only[Result.andThen];rw[Oper.upon_value];go_wp2;rw[run_callFunc_extern func286 (by kernel_rfl) (by kernel_rfl) (by kernel_rfl) (e:=Extern.AbiNoEscape.same) (by kernel_rfl)];rw[Lib.run_noEscape];simp only[Result.andThen];rw[Oper.upon_value];go_wp2;rw[Lib.run_from_unsafe w ⟨b,0,none⟩ underlying361 underlying216 hj hsh agU];simp only[Result.andThen];rw[Oper.upon_value];go_wp2;go_end0;exact⟨rfl,rfl⟩
theorem SE(B b:Nat)(bs:List Value)(w:World)(h:Lib.IsBuilder 218 5 B b bs w):
 Calls prog 212 #[.pointer (some ⟨b,0,none⟩)] w λe w'=>e=.returned (.tuple #[])/\(Lib.BuilderAt 218 5 B b (.pointer (some ⟨b,0,none⟩)) bs w'/\Below B w w'):=by
 rcases h with h|h
 ·refine(KT b w h.cell0 h.shape h.frozen0).mono ?_;rintro e w' ⟨rfl,rfl⟩;exact⟨rfl,h.used _,(zB B w).setCell (p:=⟨b,0,none⟩) h.1 _⟩
 ·refine(OE b w h.cell0).mono ?_;rintro e w' ⟨rfl,rfl⟩;exact⟨rfl,h,zB B _⟩
theorem wF(B b:Nat)(bs:List Value)(s:ByteArray)(w:World)(h:Lib.IsBuilder 218 5 B b bs w)(hlen:bs.length+s.size<=140737488355328)(hBw:B<=w.heap.size):
 Calls prog 127 #[.pointer (some ⟨b,0,none⟩),.string s] w λe w'=>e=.returned (.tuple #[.int .i64 s.size,.nilIface])/\(Lib.BuilderAt 218 5 B b (.pointer (some ⟨b,0,none⟩)) (bs++Lib.strCells s) w'/\Below B w w'):=by
 obtain⟨i0,hi,hz0,hz1,hz2⟩:=info_parts ajY;go_enter func127,ntmps127;go_wp2_with (go_at_call 212;refine(SE B b bs _ h).mono ?_);rintro e w1 ⟨rfl,h1,hb1⟩;obtain⟨hB,v,hbk,hown,hne⟩:=h1;have c0:w1.cell? ⟨b,0,none⟩=some (.pointer (some ⟨b,0,none⟩)):=by rw[Lib.cell_of_heap hbk];rfl
 have c1:w1.cell? ⟨b,1,none⟩=some v:=by rw[Lib.cell_of_heap hbk];rfl
 go_wp2_with (at_builtin;refine Lib.wpList_append_own_string _ rfl _ _ 65 9 rfl B 5 i0 underlying65 underlying9 hi hz0 hz1 hz2 _ _ _ rfl hown s rfl ?c3 ?c4 ?c5 ?_);case c3=>unfold maxLen;omega
 case c4=>omega
 case c5=>have:=hb1.size;omega
 intro v' w2 hown' hgrow _;have hlt:b<w1.heap.size:=by
  rcases Nat.lt_or_ge b w1.heap.size with h'|h'
  ·exact h'
  ·simp[Array.getElem?_eq_none h']at hbk
 have hb2:w2.heap[b]? = some (.cells #[.pointer (some ⟨b,0,none⟩),v] 218 (0,0)):=by rw[hgrow.block b hlt (λe=>hne e.symm)];exact hbk
 have d0:w2.cell? ⟨b,0,none⟩=some (.pointer (some ⟨b,0,none⟩)):=by rw[Lib.cell_of_heap hb2];rfl
 have d1:w2.cell? ⟨b,1,none⟩=some v:=by rw[Lib.cell_of_heap hb2];rfl
 have f1:w2.frozen? ⟨b,1,none⟩=false:=Lib.frozen_of_heap hb2 1;obtain⟨ao,n',cap,rfl⟩:∃ao n' cap,v'=.slice ao n' cap:=by
  rcases hown'.2 with ⟨hv,_⟩|⟨g,cap,cur,hv,_⟩
  ·exact⟨_,_,_,hv⟩
  ·exact⟨_,_,_,hv⟩
 go_wp2;go_ret2;refine⟨rfl,?_,?_⟩
 ·exact Lib.BuilderAt.put hB hb2 (by simpa[Lib.strCells_length]using hown') (by decide)
 ·exact((hb1.grown hgrow (by have:=hb1.size;omega) (λk hk=>bH hown k hk)).setCell hB _)
end
namespace Ih
open Go.RowKit
def by8(x:Int):UInt8:=UInt8.ofNat x.toNat
theorem xO{x:Int}(h0:0<=x)(h1:x<256):((by8 x).toNat:Int)=x:=by unfold by8;rw[toNat_ofNat (by omega)];omega
theorem aje{n:Int}(h0:0<=n)(h1:n<=99):0<=uH n/\uH n<256:=by unfold uH;omega
def CY(m s f:Int):List UInt8:=[by8 (uH m),by8 (uH s),by8 (uH f)]
def okA(m s f:Int):Prop:=0<=m/\m<=99/\0<=s/\s<=59/\0<=f/\f<=74
theorem ag5(x:Int)(w:World)(h0:0<=x)(h1:x<256)(t:TypeId):(convert 65 9 (.slice (some ⟨w.heap.size,0,none⟩) 1 1)).run prog (w.alloc (.cells #[.int .u8 x] t))=.ok (.string (str [by8 x])) (w.alloc (.cells #[.int .u8 x] t)):=by
 have h:=eX (dst:=9) underlying65 underlying5 underlying9 (Rd.lit w [by8 x] t (by simp));have e:(bs [by8 x]).toArray = #[.int .u8 x]:=by simp only[bs,B,Vh,Vg,xO h0 h1]
 rw[e]at h;exact h
theorem FM(n:Int)(w:World)(h0:0<=n)(h1:n<=99):Calls prog 224 #[.int .i64 n] w (RV (.string (str [by8 (uH n)])) w):=by have hb:=aje h0 h1;have hst:=ag5 (uH n) w hb.1 hb.2 5;clear hb;go_enter func224,ntmps224;go_wp2_with (go_at_call 225;refine(afF n _ h0 h1).mono ?_;rintro e w2 ⟨rfl,rfl⟩);go_ret;exact⟨rfl,(zB _ _).alloc (zl _) _⟩
theorem rQ(l:List UInt8):Lib.strCells (str l)=Lib.byteCells l:=by simp[Lib.strCells,Lib.byteCells,str]
theorem xN{T e:TypeId}{B b:Nat}{cs:List Value}{w w':World}(h:Lib.IsBuilder T e B b cs w)(hb:Below w.heap.size w w'):Lib.IsBuilder T e B b cs w':=by
 have k:∀p,Lib.BuilderAt T e B b p cs w->Lib.BuilderAt T e B b p cs w':=λp h=>by have hl:=h.lt;obtain⟨h1,v,h2,h3,h4⟩:=h;exact⟨h1,v,(hb.block b hl).trans h2,aV h3 hb,h4⟩
 exact h.imp (k _) (k _)
theorem Su(m s f:Int)(w:World)(h:okA m s f):Calls prog 223 #[jK m s f,.func (.func 224) #[] #[]] w (RV (.string (str (CY m s f))) w):=by
 have i0:∀w,(Instr.index 325 (.agg #[.int .i64 m,.int .i64 s,.int .i64 f]) (.int .i64 0)).run prog w=.ok (.int .i64 m) w:=λ_=>by kernel_rfl
 have i1:∀w,(Instr.index 325 (.agg #[.int .i64 m,.int .i64 s,.int .i64 f]) (.int .i64 1)).run prog w=.ok (.int .i64 s) w:=λ_=>by kernel_rfl
 have i2:∀w,(Instr.index 325 (.agg #[.int .i64 m,.int .i64 s,.int .i64 f]) (.int .i64 2)).run prog w=.ok (.int .i64 f) w:=λ_=>by kernel_rfl
 obtain⟨h1,h2,h3,h4,h5,h6⟩:=h;have HA:Hid (CY m s f = [by8 (uH m),by8 (uH s),by8 (uH f)]):=zH rfl;go_enter func223,ntmps223;go_upto_region 2 with (fail)
 have hm0:Bx (w.alloc (.cells #[.int .i64 m,.int .i64 s,.int .i64 f] 235)) w.heap.size 235 [.int .i64 m,.int .i64 s,.int .i64 f]:=Bx.new _ _ _;have hb0:=(zB w.heap.size w).alloc (zl _) (.cells #[.int .i64 m,.int .i64 s,.int .i64 f] 235);have hsz0:(w.alloc (.cells #[.int .i64 m,.int .i64 s,.int .i64 f] 235)).heap.size=w.heap.size+1:=by simp
 generalize w.alloc (.cells #[.int .i64 m,.int .i64 s,.int .i64 f] 235)=w0 at hm0 hb0 hsz0 ⊢;have hB0:=Lib.fresh_isBuilder 218 5 w0;have hb1:=hb0.alloc hb0.size (.cells #[.pointer none,.slice none 0 0] 218);have hm1:=hm0.alloc (.cells #[.pointer none,.slice none 0 0] 218);have hg1:w0.heap.size<=(w0.alloc (.cells #[.pointer none,.slice none 0 0] 218)).heap.size:=by simp
 rw[<-hsz0];obtain⟨gB,hgB⟩:∃gB,gB=w0.heap.size:=⟨_,rfl⟩;have hlt:w.heap.size<=gB:=by omega
 rw[<-hgB]at hB0 hg1;simp only[<-hgB];generalize w0.alloc (.cells #[.pointer none,.slice none 0 0] 218)=w1 at hB0 hb1 hm1 hg1 ⊢;clear hsz0 hgB hm0 hb0;have c0:=hm1.cell (i:=0) rfl;have c1:=hm1.cell (i:=1) rfl;have c2:=hm1.cell (i:=2) rfl;have HB0:=zH hB0;clear hB0;go_wp2_with fail;refine(JW m s f _).mono ?_;rintro e w2 ⟨rfl,hb2⟩;have HB2:=zH (xN HB0.out hb2);have hb3:=hb1.trans (hb2.mono hb1.size);have hg3:=zT hg1 hb2.size;clear hb2 hb1 hg1 c0 c1 c2 hm1 HB0;go_wp2_with fail
 go_loopw [10] (λvi wr=>∃(k:Nat),k<=3/\vi=.int .i64 k/\Hid (Lib.IsBuilder 218 5 gB gB (Lib.byteCells ((CY m s f).take k)) wr)/\Below w.heap.size w wr/\gB<=wr.heap.size) (λvi _=>3-(RowKit.intOf vi).toNat)
 case atStart=>exact⟨0,by omega,rfl,HB2,hb3,hg3⟩
 case round=>
  clear HB2 hb3 hg3;obtain⟨k,hk,rfl,HB,hb,hg⟩:=hrel;by_cases hk3:k=3
  ·subst hk3;have HT:Hid ((CY m s f).take 3=CY m s f):=zH rfl;rw[HT.out]at HB;go_wp2_with fail;refine(Builder_String_any gB gB (CY m s f) _ HB.out hg).mono ?_;rintro e w3 ⟨rfl,hb3⟩;go_wp2_with fail;go_ret;exact⟨rfl,hb.trans (hb3.mono hlt)⟩
  by_cases hk0:k=0
  ·subst hk0;have HT:Hid (Lib.byteCells ((CY m s f).take 0)++Lib.strCells (str [by8 (uH m)])=Lib.byteCells ((CY m s f).take 1)):=zH (by rw[rQ];rfl);have HL:Hid ((Lib.byteCells ((CY m s f).take 0)).length+(str [by8 (uH m)]).size<=140737488355328):=zH (by rw[au,Lib.byteCells_length];simp[CY]);clear hk3;go_wp2_with fail;refine(FM m _ h1 h2).mono ?_;rintro e w3 ⟨rfl,hb3⟩;have HB3:=zH (xN HB.out hb3);have hb4:=hb.trans (hb3.mono hb.size);have hg4:=zT hg hb3.size;clear hb3 hb hg HB;go_wp2_with fail;refine(wF gB gB _ _ _ HB3.out HL.out hg4).mono ?_;rintro e w5 ⟨rfl,Bv,hb5⟩;rw[HT.out]at Bv;have KC:=zH Bv;have hb6:=hb4.trans (hb5.mono hlt);have Ws:=zT hg4 hb5.size;clear Bv hb5 hb4 hg4 HB3;go_wp2_with fail;first
   | (go_roundw
      case rel=>exact⟨1,by omega,by go_num,zH (.inr KC.out),hb6,Ws⟩
      case measure=>simp[RowKit.intOf])
   |exact⟨⟨1,by omega,by go_num,zH (.inr KC.out),hb6,Ws⟩,by simp[RowKit.intOf]⟩
  by_cases hk1:k=1
  ·subst hk1;have HT:Hid (Lib.byteCells ((CY m s f).take 1)++Lib.strCells (str [by8 (uH s)])=Lib.byteCells ((CY m s f).take 2)):=zH (by rw[rQ];rfl);have HL:Hid ((Lib.byteCells ((CY m s f).take 1)).length+(str [by8 (uH s)]).size<=140737488355328):=zH (by rw[au,Lib.byteCells_length];simp[CY]);clear hk3;go_wp2_with fail;refine(FM s _ h3 (by omega)).mono ?_;rintro e w3 ⟨rfl,hb3⟩;have HB3:=zH (xN HB.out hb3);have hb4:=hb.trans (hb3.mono hb.size);have hg4:=zT hg hb3.size;clear hb3 hb hg HB;go_wp2_with fail;refine(wF gB gB _ _ _ HB3.out HL.out hg4).mono ?_;rintro e w5 ⟨rfl,Bv,hb5⟩;rw[HT.out]at Bv;have KC:=zH Bv;have hb6:=hb4.trans (hb5.mono hlt);have Ws:=zT hg4 hb5.size;clear Bv hb5 hb4 hg4 HB3;go_wp2_with fail;first
   | (go_roundw
      case rel=>exact⟨2,by omega,by go_num,zH (.inr KC.out),hb6,Ws⟩
      case measure=>simp[RowKit.intOf])
   |exact⟨⟨2,by omega,by go_num,zH (.inr KC.out),hb6,Ws⟩,by simp[RowKit.intOf]⟩
  by_cases hk2:k=2
  ·subst hk2;have HT:Hid (Lib.byteCells ((CY m s f).take 2)++Lib.strCells (str [by8 (uH f)])=Lib.byteCells ((CY m s f).take 3)):=zH (by rw[rQ];rfl);have HL:Hid ((Lib.byteCells ((CY m s f).take 2)).length+(str [by8 (uH f)]).size<=140737488355328):=zH (by rw[au,Lib.byteCells_length];simp[CY]);clear hk3;go_wp2_with fail;refine(FM f _ h5 (by omega)).mono ?_;rintro e w3 ⟨rfl,hb3⟩;have HB3:=zH (xN HB.out hb3);have hb4:=hb.trans (hb3.mono hb.size);have hg4:=zT hg hb3.size;clear hb3 hb hg HB;go_wp2_with fail;refine(wF gB gB _ _ _ HB3.out HL.out hg4).mono ?_;rintro e w5 ⟨rfl,Bv,hb5⟩;rw[HT.out]at Bv;have KC:=zH Bv;have hb6:=hb4.trans (hb5.mono hlt);have Ws:=zT hg4 hb5.size;clear Bv hb5 hb4 hg4 HB3;go_wp2_with fail;first
   | (go_roundw
      case rel=>exact⟨3,by omega,by go_num,zH (.inr KC.out),hb6,Ws⟩
      case measure=>simp[RowKit.intOf])
   |exact⟨⟨3,by omega,by go_num,zH (.inr KC.out),hb6,Ws⟩,by simp[RowKit.intOf]⟩
  omega
theorem abX(m s f:Int)(w:World)(h:okA m s f):Calls prog 137 #[jK m s f] w (R2B (.string (str (CY m s f))) (.int .i64 0) w):=by have HO:=zH h;have HV:=zH (ahY h);clear h;go_enter func137,ntmps137;go_wp2_with fail;refine(wC m s f _).mono ?_;rw[HV.out];rintro e w1 ⟨rfl,hb⟩;have hM:=(Bx.new w 235 [.int .i64 m,.int .i64 s,.int .i64 f]).call hb;have hle:=((zB w.heap.size w).alloc (zl _) (.cells #[.int .i64 m,.int .i64 s,.int .i64 f] 235)).trans (hb.mono (by simp));have c0:=hM.cell (i:=0) rfl;have c1:=hM.cell (i:=1) rfl;have c2:=hM.cell (i:=2) rfl;clear hb hM;go_wp2_with fail;refine(Su m s f _ HO.out).mono ?_;rintro e w2 ⟨rfl,hb2⟩;go_wp2_with fail;go_ret2;exact⟨rfl,hle.trans (hb2.mono hle.size)⟩
end Ih
section
open Go.RowKit
def R8(x:T.ax):Bool:=decide ((x.dZ=2->x.nx=x.st+x.len)/\(x.dZ≠2->x.st<=x.nx/\x.nx<=x.st+x.len/\x.dZ=if x.nx=x.st then 0 else 1))
theorem ahy(v:Value)(x:T.ax)(w:World)(Nz:sm x.st)(NC:sm x.len)(h2:¬ x.dZ=2)(h3:x.st<=x.nx)(h4:¬ x.nx<=x.st+x.len):
 Calls prog 314 #[v,jL x] w (RB (R8 x) w):=by
 have hd:(x.dZ == 2)=false:=by rw[Yc];exact h2
 have hd3:decide (x.st<=x.nx)=true:=zt h3;have hd4:decide (x.nx<=x.st+x.len)=false:=zf h4;have hd5:x.st+x.len<x.nx:=by omega
 have hR:R8 x=false:=by simp[R8,h2,h3,h4]
 rw[hR];clear h2 hR h3 h4;go_enter func314,ntmps314;go_wp2;first|go_region_with (go_at_call 208;refine(oN x _ Nz NC).mono ?_;rintro e w1 ⟨rfl,rfl⟩)|fail
 all_goals
  go_wp2;go_ret;refine⟨rfl,?_⟩;repeat (first|exact zB _ _|refine Below.alloc ?_ (by simp <;> omega) _|refine Below.drew ?_)
theorem aa4(v:Value)(x:T.ax)(w:World)(Nz:sm x.st)(NC:sm x.len):
 Calls prog 314 #[v,jL x] w (RB (R8 x) w):=by
 by_cases h2:x.dZ=2
 ·have hd:(x.dZ == 2)=true:=by rw[YG];exact h2
  by_cases h3:x.nx=x.st+x.len
  ·have hR:R8 x=true:=by simp[R8,h2,h3]
   rw[hR];have hd3:(x.nx == x.st+x.len)=true:=by rw[YG];exact h3
   clear h2 hR h3;go_enter func314,ntmps314;go_wp2
   go_region_with (go_at_call 315;refine(Eb x _ Nz NC).mono ?_;rintro e w1 ⟨rfl,hb⟩;have hbx:∀j,w1.cell? ⟨w.heap.size,j,none⟩=(#[Value.int .i64 x.num,.int .i64 x.dm,.int .i64 x.st,.int .i64 x.len,.int .i64 x.nx,.int .i64 x.dZ,.int .i64 x.pk])[j]?:=λj=>(hb.cell (p:=⟨w.heap.size,j,none⟩) (by simp)).trans (by simp[go_sem]);have hx0:=hbx 0;have hx1:=hbx 1;have hx2:=hbx 2;have hx3:=hbx 3;have hx4:=hbx 4;have hx5:=hbx 5;have hx6:=hbx 6;simp only[List.getElem?_toArray,Yg,Yi]at hx0 hx1 hx2 hx3 hx4 hx5 hx6;clear hbx;have hB:Below w.heap.size w w1:=(Below.alloc (zB _ _) (zl _) _).drew.trans (hb.mono (by simp)))
   all_goals
    go_wp2;go_ret;exact⟨rfl,hB⟩
  ·have hR:R8 x=false:=by simp[R8,h2,h3]
   rw[hR];have hd3:(x.nx == x.st+x.len)=false:=by rw[Yc];exact h3
   clear h2 hR h3;go_enter func314,ntmps314;go_wp2
   go_region_with (go_at_call 315;refine(Eb x _ Nz NC).mono ?_;rintro e w1 ⟨rfl,hb⟩;have hbx:∀j,w1.cell? ⟨w.heap.size,j,none⟩=(#[Value.int .i64 x.num,.int .i64 x.dm,.int .i64 x.st,.int .i64 x.len,.int .i64 x.nx,.int .i64 x.dZ,.int .i64 x.pk])[j]?:=λj=>(hb.cell (p:=⟨w.heap.size,j,none⟩) (by simp)).trans (by simp[go_sem]);have hx0:=hbx 0;have hx1:=hbx 1;have hx2:=hbx 2;have hx3:=hbx 3;have hx4:=hbx 4;have hx5:=hbx 5;have hx6:=hbx 6;simp only[List.getElem?_toArray,Yg,Yi]at hx0 hx1 hx2 hx3 hx4 hx5 hx6;clear hbx;have hB:Below w.heap.size w w1:=(Below.alloc (zB _ _) (zl _) _).drew.trans (hb.mono (by simp)))
   all_goals
    go_wp2;go_ret;exact⟨rfl,hB⟩
 ·have hd:(x.dZ == 2)=false:=by rw[Yc];exact h2
  by_cases h3:x.st<=x.nx
  ·have hd3:decide (x.st<=x.nx)=true:=zt h3;by_cases h4:x.nx<=x.st+x.len
   ·have hd4:decide (x.nx<=x.st+x.len)=true:=zt h4;by_cases h5:x.dZ=(if x.nx=x.st then 0 else 1)
    ·have hR:R8 x=true:=by simp[R8,h3,h4,h5];split <;> simp
     rw[hR];have hd5:(x.dZ == (if x.nx=x.st then 0 else 1))=true:=by rw[YG];exact h5
     have hst:=λW=>JX x W
     generalize (if x.nx=x.st then(0:Int) else 1)=y at *;have HST:=zH hst;clear h2 hR h3 h4 h5 hst;go_enter func314,ntmps314;go_wp2
     go_region_held3 (λW=>w.heap.size<W.heap.size/\W.cell? ⟨w.heap.size,0,none⟩=some (.int .i64 x.num)/\W.cell? ⟨w.heap.size,1,none⟩=some (.int .i64 x.dm)/\W.cell? ⟨w.heap.size,2,none⟩=some (.int .i64 x.st)/\W.cell? ⟨w.heap.size,3,none⟩=some (.int .i64 x.len)/\W.cell? ⟨w.heap.size,4,none⟩=some (.int .i64 x.nx)/\W.cell? ⟨w.heap.size,5,none⟩=some (.int .i64 x.dZ)/\W.cell? ⟨w.heap.size,6,none⟩=some (.int .i64 x.pk)) (((try dsimp only);((repeat' apply And.intro) <;> (first|(go_keep;done)|(simp;omega))))) (first|(go_at_call 208;refine(oN x _ Nz NC).mono ?_;rintro e w1 ⟨rfl,rfl⟩)|(go_at_call 316;refine(HST.out _).mono ?_;rintro e w1 ⟨rfl,rfl⟩))
     all_goals
      go_wp2;go_ret;refine⟨rfl,?_⟩;repeat (first|exact zB _ _|refine Below.alloc ?_ (by simp <;> omega) _|refine Below.drew ?_)
    ·have hR:R8 x=false:=by simp[R8,h2,h3,h4,h5]
     rw[hR];have hd5:(x.dZ == (if x.nx=x.st then 0 else 1))=false:=by rw[Yc];exact h5
     have hst:=λW=>JX x W
     generalize (if x.nx=x.st then(0:Int) else 1)=y at *;have HST:=zH hst;clear h2 hR h3 h4 h5 hst;go_enter func314,ntmps314;go_wp2
     go_region_held3 (λW=>w.heap.size<W.heap.size/\W.cell? ⟨w.heap.size,0,none⟩=some (.int .i64 x.num)/\W.cell? ⟨w.heap.size,1,none⟩=some (.int .i64 x.dm)/\W.cell? ⟨w.heap.size,2,none⟩=some (.int .i64 x.st)/\W.cell? ⟨w.heap.size,3,none⟩=some (.int .i64 x.len)/\W.cell? ⟨w.heap.size,4,none⟩=some (.int .i64 x.nx)/\W.cell? ⟨w.heap.size,5,none⟩=some (.int .i64 x.dZ)/\W.cell? ⟨w.heap.size,6,none⟩=some (.int .i64 x.pk)) (((try dsimp only);((repeat' apply And.intro) <;> (first|(go_keep;done)|(simp;omega))))) (first|(go_at_call 208;refine(oN x _ Nz NC).mono ?_;rintro e w1 ⟨rfl,rfl⟩)|(go_at_call 316;refine(HST.out _).mono ?_;rintro e w1 ⟨rfl,rfl⟩))
     all_goals
      go_wp2;go_ret;refine⟨rfl,?_⟩;repeat (first|exact zB _ _|refine Below.alloc ?_ (by simp <;> omega) _|refine Below.drew ?_)
   ·exact ahy v x w Nz NC h2 h3 h4
  ·have hd3:decide (x.st<=x.nx)=false:=zf h3;have hR:R8 x=false:=by simp[R8,h2,h3]
   rw[hR];clear h2 hR h3;go_enter func314,ntmps314;go_wp2;go_quiet (fail);go_wp2;go_ret;exact⟨rfl,Below.drewN ((zB _ _).alloc (zl _) _) _⟩
end
end Go.Proofs.YtfnehkmhcmkhjaaGreat
