/- Parts:XEn1 XEn2 XEn3 XEnB -/
import Derived.Test.YtfnehkmhcmkhjaaGreatDvAl
import Derived.Test.YtfnehkmhcmkhjaaGreatDv06
set_option maxRecDepth 100000
set_option maxHeartbeats 8000000
set_option linter.unusedVariables false
namespace Go.Proofs.YtfnehkmhcmkhjaaGreat
open Tryz
namespace E1
open Go.RowKit
def leB(n k:Nat):UInt8:=UInt8.ofNat (n / 256 ^ k % 256)
def DW(n:Nat):Nat->List UInt8
 | 0=>[]
 | k+1=>DW n k++[leB n k]
theorem jr(n:Nat):∀k,(DW n k).length=k
 | 0=>rfl
 | k+1=>by rw[DW,List.length_append,jr n k]; rfl
def I7(n size:Nat):List UInt8:=(DW n size).reverse
theorem rU(n size:Nat):(I7 n size).length=size:=by rw[I7,List.length_reverse,jr]
def jY(n:Int)(size:Nat):Bool:=decide (0<=n) && decide (n.toNat / 256 ^ size=0)
theorem BC{w w':World}{base e size n:Nat}{v:Value}{xs:List Value}(h:w.ownsRow base e size v n xs)(hb:Below w.heap.size w w'):w'.ownsRow base e size v n xs:=by
 refine⟨h.1,?_⟩;rcases h.2 with h2 | ⟨g,cap,cur,h1,h2,h3,h4⟩
 ·exact .inl h2
 ·exact .inr ⟨g,cap,cur,h1,h2,(hb.block g (Array.getElem?_eq_some_iff.1 h3).1).trans h3,h4⟩
theorem uh{w:World}{base e size n:Nat}{v:Value}{xs:List Value}(h:w.ownsRow base e size v n xs):∀k,v.ownBlock=some k->base<=k:=by
 intro k hk;rcases h.2 with ⟨rfl,_⟩ | ⟨g,cap,cur,rfl,h2,_⟩
 ·simp[Value.ownBlock]at hk
 ·simp only[Value.ownBlock,Option.some.injEq]at hk;omega
theorem infoE:(prog.info? 5).map (fun i=>(i.zero,i.size,i.bytes))=some (some (.int .u8 0),1,1):=by kernel_rfl
theorem PK(n:Int)(size:Nat)(x:Int)(w:World)(hx:x=size)(hs:size<=8)(hn:n<=9223372036854775807):Calls prog 389 #[.int .i64 n,.int .i64 x] w fun e w'=>e=.returned (.bool (jY n size))/\w=w':=by
 subst hx;by_cases h0:n<0
 ·have e:jY n size=false:=by unfold jY; rw[zf (by omega)]; rfl
  rw[e];clear e;go_enter func389,ntmps389;go_wp2_with fail;go_ret;exact⟨rfl,rfl⟩
 ·obtain⟨N,rfl⟩:∃N:Nat,n=N:=⟨n.toNat,by omega⟩;clear h0;have HE:Hid (jY (N:Int) size=decide (N / 256 ^ size=0)):=zH (by unfold jY; rw[zt (by omega)]; simp);go_enter func389,ntmps389;go_wp2_with fail
  go_loop [0,5] (fun vn vk=>∃(k m:Nat),k<=size/\vk=.int .i64 k/\vn=.int .i64 m/\Hid (m=N / 256 ^ k)/\m<=9223372036854775807) (fun _ vk=>size - (RowKit.intOf vk).toNat)
  case atStart=>exact⟨0,N,by omega,rfl,rfl,zH (by simp),by omega⟩
  case round=>
   obtain⟨k,m,hk,rfl,rfl,HM,hmb⟩:=hrel;by_cases hlt:k<size
   ·have hlt':(k:Int)<size:=by omega
    have HN:Hid (m / 256=N / 256 ^ (k+1)):=zH (by rw[HM.out,Nat.pow_succ,Nat.div_div_eq_div_mul]);go_wp2_with fail;go_round;case rel=>exact⟨k+1,m / 256,by omega,by go_num,by go_num,HN,by omega⟩
    case measure=>simp[RowKit.intOf]; omega
   ·obtain rfl:k=size:=by omega
    have hq:((m:Int) == 0)=decide (N / 256 ^ k=0):=by rw[<-HM.out,Bool.eq_iff_iff];simp
    have HQ:=zH hq;clear hq;go_wp2_with fail;go_ret;rw[HE.out,<-HQ.out];exact⟨rfl,rfl⟩
theorem KA(N size:Nat)(x y:Int)(w:World)(hy:y=N)(hx:x=size)(hs:size<=8)(hn:N<=9223372036854775807):Calls prog 390 #[.int .i64 y,.int .i64 x] w fun e w'=>e=.returned (.string (str (DW N size)))/\Below w.heap.size w w':=by
 subst hx hy;go_enter func390,ntmps390;go_wp2_with fail;have ho0:(w.alloc (.cells #[] 5)).ownsRow w.heap.size 5 1 (.slice (some ⟨w.heap.size,0,none⟩) 0 0) 0 (bs (DW N 0)):=World.ownsRow_lit w #[] 0 (zl _) (by simp) (by simp);have hb0:Below w.heap.size w (w.alloc (.cells #[] 5)):=(zB _ w).alloc (zl _) _
 go_loopw [0,5,6] (fun vn vo vk wr=>∃k m:Nat,k<=size/\vk=.int .i64 k/\vn=.int .i64 m/\Hid (m=N / 256 ^ k)/\m<=9223372036854775807/\wr.ownsRow w.heap.size 5 1 vo k (bs (DW N k))/\Below w.heap.size w wr) (fun _ _ vk _=>size - (RowKit.intOf vk).toNat)
 case atStart=>exact⟨0,N,by omega,rfl,rfl,zH (by simp),by omega,ho0,hb0⟩
 case round=>
  clear ho0 hb0;obtain⟨k,m,hk,rfl,rfl,HM,hmb,ho,hb⟩:=hrel;by_cases hlt:k<size
  ·have hbs:=hb.size;have hlt':(k:Int)<size:=by omega
   have HN:Hid (m / 256=N / 256 ^ (k+1)):=zH (by rw[HM.out,Nat.pow_succ,Nat.div_div_eq_div_mul]);have hc:(m:Int) % 256=((leB N k).toNat:Int):=by unfold leB;rw[<-HM.out,UInt8.toNat_ofNat'];omega
   have Aj:=BC ho ((zB wr.heap.size wr).alloc (zl _) (.cells #[B (leB N k)] 5));have TE:Rd (wr.alloc (.cells #[B (leB N k)] 5)) (.slice (some ⟨wr.heap.size,0,none⟩) 1 1) [leB N k]:=Rd.nO (World.ownsRow_lit wr #[B (leB N k)] 1 (zl _) (by simp[maxLen]) (by simp)) (by simp);have hb6:=hb.alloc hbs (.cells #[B (leB N k)] 5);have tV:=hb6.size;clear ho hb;have HO:Hid (∀v7 w7,World.ownsRow w7 w.heap.size 5 1 v7 (k+1) (bs (DW N k++[leB N k]))->World.ownsRow w7 w.heap.size 5 1 v7 (k+1) (bs (DW N (k+1)))):=zH (fun _ _ h=>h);generalize leB N k=c at *;go_wp2_with (refine lT rfl _ _ rfl underlying65 infoE Aj rfl TE rfl (by simp; omega) tV ?_; intro v7 w7 nZ tX _);have hb7:=hb6.grown tX tV (uh Aj);clear hb6 Aj TE tX;go_roundw;case rel=>exact⟨k+1,m / 256,by omega,by go_num,by go_num,HN,by omega,HO.out _ _ nZ,hb7⟩
   case measure=>simp[RowKit.intOf]; omega
  ·obtain rfl:k=size:=by omega
   have hrd:Rd wr u5 (DW N k):=Rd.nO ho (by omega);obtain⟨a3,c3,rfl⟩:=hrd.form;have hcx:=dV (P:=prog) underlying65 underlying5 underlying9 hrd;rw[jr]at hcx;rw[jr];clear ho hrd;go_wp2_with fail;go_ret;exact⟨rfl,hb⟩
def Eh(l:List UInt8)(k:Nat):List UInt8:=l.reverse.take k
theorem PI(l:List UInt8)(k:Nat)(h:k<l.length):Eh l (k+1)=Eh l k++[G.ix l (l.length - 1 - k)]:=by
 unfold Eh;rw[List.take_add_one]
 congr 1
 rw[List.getElem?_reverse h];simp[G.ix,List.getElem?_eq_getElem (show l.length - 1 - k<l.length by omega)]
theorem BU{P:Program}{t:TypeId}(ht:P.underlying t=some .string)(l:List UInt8)(k:Nat)(hk:k<l.length)(i:Int)(hi:i=k)(w:World):
 (Instr.index t (.string (str l)) (.int .i64 i)).run P w=.ok (B (G.ix l k)) w:=by
 subst hi;have h1:(str l).size=l.length:=ax l;have h2:((str l)[k]'(by rw[h1]; exact hk))=l[k]:=by simp[str,ByteArray.getElem_eq_getElem_data]
 simp[Instr.index,asIntOf,run_underlying ht,h1,hk,h2,G.ix]
theorem Ei(l:List UInt8)(w:World)(hl:l.length<=1000000):Calls prog 357 #[.string (str l)] w fun e w'=>e=.returned (.string (str l.reverse))/\Below w.heap.size w w':=by
 have hz:=ax l;obtain⟨n,hn⟩:∃n,n=l.length:=⟨_,rfl⟩;rw[<-hn]at hz hl;have HN:=zH hn;clear hn;go_enter func357,ntmps357;go_wp2_with fail;have ho0:(w.alloc (.cells #[] 5)).ownsRow w.heap.size 5 1 (.slice (some ⟨w.heap.size,0,none⟩) 0 0) 0 (bs (Eh l 0)):=World.ownsRow_lit w #[] 0 (zl _) (by simp) (by simp);have hb0:Below w.heap.size w (w.alloc (.cells #[] 5)):=(zB _ w).alloc (zl _) _
 go_loopw [3,4] (fun vo vi wr=>∃k:Nat,k<=n/\vi=.int .i64 ((n:Int) - 1 - k)/\wr.ownsRow w.heap.size 5 1 vo k (bs (Eh l k))/\Below w.heap.size w wr) (fun _ vi _=>(RowKit.intOf vi+1).toNat)
 case atStart=>exact⟨0,by omega,by go_num,ho0,hb0⟩
 case round=>
  clear ho0 hb0;obtain⟨k,hk,rfl,ho,hb⟩:=hrel;by_cases hlt:k<n
  ·have hbs:=hb.size;have hge:decide (0<=(n:Int) - 1 - (k:Int))=true:=by simp; omega
   have hi1:=fun wx=>BU (P:=prog) underlying9 l (n - 1 - k) (by rw[<-HN.out]; omega) ((n:Int) - 1 - (k:Int)) (by omega) wx
   have HO:Hid (∀v7 w7,World.ownsRow w7 w.heap.size 5 1 v7 (k+1) (bs (Eh l k++[G.ix l (n - 1 - k)]))->World.ownsRow w7 w.heap.size 5 1 v7 (k+1) (bs (Eh l (k+1)))):=zH (fun _ _ h=>by rw[PI l k (by rw[<-HN.out]; exact hlt),<-HN.out]; exact h);generalize G.ix l (n - 1 - k)=c at *;have Aj:=BC ho ((zB wr.heap.size wr).alloc (zl _) (.cells #[B c] 5));have TE:Rd (wr.alloc (.cells #[B c] 5)) (.slice (some ⟨wr.heap.size,0,none⟩) 1 1) [c]:=Rd.nO (World.ownsRow_lit wr #[B c] 1 (zl _) (by simp[maxLen]) (by simp)) (by simp);have hb6:=hb.alloc hbs (.cells #[B c] 5);have tV:=hb6.size;clear ho hb;go_wp2_with (refine lT rfl _ _ rfl underlying65 infoE Aj rfl TE rfl (by simp; omega) tV ?_; intro v7 w7 nZ tX _);have hb7:=hb6.grown tX tV (uh Aj);clear hb6 Aj TE tX;go_roundw;case rel=>exact⟨k+1,by omega,by go_num,HO.out _ _ nZ,hb7⟩
   case measure=>simp[RowKit.intOf]; omega
  ·obtain rfl:k=n:=by omega
   have hge:decide (0<=(k:Int) - 1 - (k:Int))=false:=by simp; omega
   have hrl:Eh l k=l.reverse:=by unfold Eh; rw[HN.out,List.take_of_length_le (by simp)]
   rw[hrl]at ho;have hrd:Rd wr u3 l.reverse:=Rd.nO ho (by omega);obtain⟨a3,c3,rfl⟩:=hrd.form;have hcx:=dV (P:=prog) underlying65 underlying5 underlying9 hrd;rw[List.length_reverse,<-HN.out]at hcx;rw[List.length_reverse,<-HN.out];clear ho hrd hrl;go_wp2_with fail;go_ret;exact⟨rfl,hb⟩
def dQ(n:Int)(size:Nat):List UInt8×Int:=if jY n size=true then(I7 n.toNat size,0) else([],2)
theorem Ho(n:Int)(size:Nat)(x:Int)(w:World)(hx:x=size)(h1:1<=size)(hs:size<=8)(hn:n<=9223372036854775807):Calls prog 356 #[.int .i64 n,.int .i64 x] w fun e w'=>e=.returned (.tuple #[.string (str (if jY n size=true then DW n.toNat size else [])),.int .i64 (dQ n size).2])/\Below w.heap.size w w':=by
 have HF:=zH (fun W=>PK n size x W hx hs hn);have hx0:=hx;cases hf:jY n size with
 | false=>
   have e1:(dQ n size).2=2:=by unfold dQ; rw[hf]; rfl
   rw[e1];rw[hf]at HF;subst hx;clear e1 hf hx0;go_enter func356,ntmps356;go_wp2_with fail;refine(HF.out _).mono ?_;rintro e w' ⟨rfl,rfl⟩;go_wp2_with fail;go_ret2;exact⟨rfl,zB _ _⟩
 | true=>
   have e1:(dQ n size).2=0:=by unfold dQ; rw[hf]; rfl
   rw[e1];obtain⟨N,rfl⟩:∃N:Nat,n=N:=⟨n.toNat,by have:0<=n:=by { unfold jY at hf; rw[Bool.and_eq_true]at hf; exact of_decide_eq_true hf.1 }; omega⟩;have HB:=zH (fun W=>KA N size x (N:Int) W rfl hx hs (by omega));rw[hf]at HF;have e2:((N:Int)).toNat=N:=by omega
   rw[e2];subst hx;clear e1 hf hx0 e2;go_enter func356,ntmps356;go_wp2_with fail;refine(HF.out _).mono ?_;rintro e w' ⟨rfl,rfl⟩;go_wp2_with fail;refine(HB.out _).mono ?_;rintro e w2 ⟨rfl,hb2⟩;go_wp2_with fail;go_ret2;exact⟨rfl,hb2⟩
theorem Ux(n:Int)(size:Nat)(x:Int)(w:World)(hx:x=size)(h1:1<=size)(hs:size<=8)(hn:n<=9223372036854775807):Calls prog 289 #[.int .i64 n,.int .i64 x] w fun e w'=>e=.returned (.tuple #[.string (str (dQ n size).1),.int .i64 (dQ n size).2])/\Below w.heap.size w w':=by
 subst hx;have HL:=zH (fun W=>Ho n size (size:Int) W rfl h1 hs hn);have e1:(dQ n size).1=(if jY n size=true then DW n.toNat size else []).reverse:=by unfold dQ; split <;> simp[I7]
 have hlen:(if jY n size=true then DW n.toNat size else []).length<=1000000:=by
  split
  ·rw[jr]; omega
  ·simp
 obtain⟨s,hs1⟩:∃s,s=(if jY n size=true then DW n.toNat size else []):=⟨_,rfl⟩;obtain⟨r,hr1⟩:∃r,r=(dQ n size).2:=⟨_,rfl⟩;rw[<-hs1]at HL e1 hlen;rw[<-hr1]at HL;rw[e1,<-hr1];clear hs1 hr1;have HR:=zH (fun W=>Ei s W hlen);generalize str s.reverse=T at *;generalize str s=S at *;clear e1 hlen;go_enter func289,ntmps289;go_wp2_with fail;refine(HL.out _).mono ?_;rintro e w2 ⟨rfl,hb2⟩;go_wp2_with fail;refine(HR.out _).mono ?_;rintro e w3 ⟨rfl,hb3⟩;have hb4:=hb2.trans (hb3.mono hb2.size);clear hb2 hb3;go_wp2_with fail;go_ret2;exact⟨rfl,hb4⟩
theorem Jy(n:Int):jY n 2=decide (0<=n/\n<65536):=by
 unfold jY;rw[Bool.eq_iff_iff,Bool.and_eq_true,decide_eq_true_eq,decide_eq_true_eq,decide_eq_true_eq];have e:(256:Nat) ^ 2=65536:=by decide
 rw[e];constructor
 ·rintro⟨h1,h2⟩;refine⟨h1,?_⟩;omega
 ·rintro⟨h1,h2⟩;refine⟨h1,?_⟩;omega
theorem aaB(n:Int)(w:World):Calls prog 265 #[.int .i64 n,.int .i64 2] w fun e w'=>e=.returned (.bool (jY n 2))/\w=w':=by
 rw[Jy];by_cases h0:0<=n
 ·by_cases h1:n<65536
  ·rw[zt ⟨h0,h1⟩];go_enter func265,ntmps265;go_wp2_with fail;go_ret;exact⟨rfl,rfl⟩
  ·rw[zf (fun h=>h1 h.2)];go_enter func265,ntmps265;go_wp2_with fail;go_ret;exact⟨rfl,rfl⟩
 ·rw[zf (fun h=>h0 h.1)];go_enter func265,ntmps265;go_wp2_with fail;go_ret;exact⟨rfl,rfl⟩
theorem WS(n:Int)(w:World):Calls prog 198 #[.int .i64 n,.int .i64 2] w fun e w'=>e=.returned (.int .i64 (dQ n 2).2)/\w=w':=by
 have HF:=zH (fun W=>aaB n W);cases hf:jY n 2 with
 | true=>
   have e1:(dQ n 2).2=0:=by unfold dQ; rw[hf]; rfl
   rw[e1];rw[hf]at HF;clear e1 hf;go_enter func198,ntmps198;go_wp2_with fail;refine(HF.out _).mono ?_;rintro e w' ⟨rfl,rfl⟩;go_wp2_with fail;go_ret;exact⟨rfl,rfl⟩
 | false=>
   have e1:(dQ n 2).2=2:=by unfold dQ; rw[hf]; rfl
   rw[e1];rw[hf]at HF;clear e1 hf;go_enter func198,ntmps198;go_wp2_with fail;refine(HF.out _).mono ?_;rintro e w' ⟨rfl,rfl⟩;go_wp2_with fail;go_ret;exact⟨rfl,rfl⟩
theorem Jz(n:Int):jY n 4=decide (0<=n/\n<4294967296):=by
 unfold jY;rw[Bool.eq_iff_iff,Bool.and_eq_true,decide_eq_true_eq,decide_eq_true_eq,decide_eq_true_eq];have e:(256:Nat) ^ 4=4294967296:=by decide
 rw[e];constructor
 ·rintro⟨h1,h2⟩;refine⟨h1,?_⟩;omega
 ·rintro⟨h1,h2⟩;refine⟨h1,?_⟩;omega
theorem aaC(n:Int)(w:World):Calls prog 265 #[.int .i64 n,.int .i64 4] w fun e w'=>e=.returned (.bool (jY n 4))/\w=w':=by
 rw[Jz];by_cases h0:0<=n
 ·by_cases h1:n<4294967296
  ·rw[zt ⟨h0,h1⟩];go_enter func265,ntmps265;go_wp2_with fail;go_ret;exact⟨rfl,rfl⟩
  ·rw[zf (fun h=>h1 h.2)];go_enter func265,ntmps265;go_wp2_with fail;go_ret;exact⟨rfl,rfl⟩
 ·rw[zf (fun h=>h0 h.1)];go_enter func265,ntmps265;go_wp2_with fail;go_ret;exact⟨rfl,rfl⟩
theorem WT(n:Int)(w:World):Calls prog 198 #[.int .i64 n,.int .i64 4] w fun e w'=>e=.returned (.int .i64 (dQ n 4).2)/\w=w':=by
 have HF:=zH (fun W=>aaC n W);cases hf:jY n 4 with
 | true=>
   have e1:(dQ n 4).2=0:=by unfold dQ; rw[hf]; rfl
   rw[e1];rw[hf]at HF;clear e1 hf;go_enter func198,ntmps198;go_wp2_with fail;refine(HF.out _).mono ?_;rintro e w' ⟨rfl,rfl⟩;go_wp2_with fail;go_ret;exact⟨rfl,rfl⟩
 | false=>
   have e1:(dQ n 4).2=2:=by unfold dQ; rw[hf]; rfl
   rw[e1];rw[hf]at HF;clear e1 hf;go_enter func198,ntmps198;go_wp2_with fail;refine(HF.out _).mono ?_;rintro e w' ⟨rfl,rfl⟩;go_wp2_with fail;go_ret;exact⟨rfl,rfl⟩
theorem yF(x:Int)(w:World):Calls prog 200 #[.int .i64 x] w fun e w'=>∃b:Nat,e=.returned (.func (.func 266) #[] #[.pointer (some ⟨b,0,none⟩)])/\w'.cell? ⟨b,0,none⟩=some (.int .i64 x)/\w.heap.size<=b/\Below w.heap.size w w':=by
 have hc:(w.alloc (.cells #[.int .i64 x] 3)).cell? ⟨w.heap.size,0,none⟩=some (.int .i64 x):=by rw[cell_of_row _ _ _ _ _ _ (heap_alloc_new w _)];rfl
 have hb:=(zB w.heap.size w).alloc (zl _) (.cells #[.int .i64 x] 3);have HC:=zH hc; have HB:=zH hb;clear hc hb;go_enter func200,ntmps200;go_wp2_with fail;go_ret;exact⟨_,rfl,HC.out,zl _,HB.out⟩
theorem Bg(b:Nat)(size k:Int)(w:World)(hc:w.cell? ⟨b,0,none⟩=some (.int .i64 size))(h0:0<=k)(h1:k<size)(h2:size<=8):Calls prog 266 #[.int .i64 k,.pointer (some ⟨b,0,none⟩)] w fun e w'=>e=.returned (.int .i64 (size - 1 - k))/\w=w':=by go_enter func266,ntmps266;go_wp2_with fail;go_ret;exact⟨rfl,rfl⟩
def Vm(n size k:Nat):List UInt8:=List.replicate (size - k) 0++(DW n k).reverse
theorem sizeE:(prog.info? 5).map (·.size)=some 1:=by kernel_rfl
theorem Lm{n size k:Nat}(h:k<=size):(Vm n size k).length=size:=by simp[Vm,jr]; omega
theorem YG{n size k:Nat}(h:k<size):(Vm n size k).set (size - 1 - k) (leB n k)=Vm n size (k+1):=by
 obtain⟨m,rfl⟩:∃m,size=k+1+m:=⟨size - k - 1,by omega⟩;have e1:k+1+m - k=m+1:=by omega
 have e2:k+1+m - 1 - k=m:=by omega
 have e3:k+1+m - (k+1)=m:=by omega
 unfold Vm;rw[e1,e2,e3,List.replicate_succ',List.append_assoc,List.set_append_right _ _ (by simp)];simp[DW]
theorem Vo(n size:Nat):Vm n size 0=List.replicate size 0:=by simp[Vm,DW]
theorem YF(n size:Nat):Vm n size size=I7 n size:=by simp[Vm,I7]
theorem write_any(N size:Nat)(x y:Int)(b:Nat)(w:World)(hy:y=N)(hx:x=size)(hs:size<=4)(hn:N<=9223372036854775807)(hc:w.cell? ⟨b,0,none⟩=some (.int .i64 x)):
 Calls prog 199 #[.int .i64 y,.int .i64 x,.func (.func 266) #[] #[.pointer (some ⟨b,0,none⟩)]] w fun e w'=>e=.returned (.string (str (I7 N size)))/\Below w.heap.size w w':=by
 subst hx hy;have hbl:=zc w _ hc;simp only at hbl;have HC:=zH hc; clear hc;go_enter func199,ntmps199;go_wp2_with (refine lC rfl _ _ rfl underlying65 infoE size rfl rfl rfl rfl (by omega) (zl _) ?_; intro w1 hown1 F8);have hb1:=(zB w.heap.size w).grown F8 (zl _) (fun k hk=>by cases hk);rw[<-Vo N size]at hown1;clear F8
 go_loopw [12] (fun vk wr=>∃k:Nat,k<=size/\vk=.int .i64 k/\wr.ownsRow w.heap.size 5 1 (.slice (some ⟨w.heap.size,0,none⟩) size size) size (bs (Vm N size k))/\Below w.heap.size w wr) (fun vk _=>size - (RowKit.intOf vk).toNat)
 case atStart=>exact⟨0,by omega,rfl,hown1,hb1⟩
 case round=>
  clear hown1 hb1;obtain⟨k,hk,rfl,hown,hb⟩:=hrel;by_cases hlt:k<size
  ·have hcb:wr.cell? ⟨b,0,none⟩=some (.int .i64 size):=(hb.cell (p:=⟨b,0,none⟩) hbl).trans HC.out;have hfo:=hown.frozenAt (size - 1 - k);have hco:wr.cell? ⟨w.heap.size,size - 1 - k,none⟩=some (B (G.ix (Vm N size k) (size - 1 - k))):=by rw[hown.cellAt _ (by omega),jK (by rw[Lm hk]; omega)]
   go_wp2_with fail;have e1:IntKind.i64.wrap (8 * (k:Int))=8 * (k:Int):=IntWalk.i64_in _ (by omega);have e2:(0:Int)<=(size:Int) - 1 - (k:Int):=by omega
   have e3:(size:Int) - 1 - (k:Int)<(size:Int):=by omega
   have hix:∀W,(Instr.indexAt 65 (.slice (some ⟨w.heap.size,0,none⟩) size size) (.int .i64 ((size:Int) - 1 - (k:Int)))).run prog W=.ok (.pointer (some ⟨w.heap.size,size - 1 - k,none⟩)) W:=fun W=>by have:=ku (P:=prog) (cap:=size) underlying65 sizeE (rfl:some (⟨w.heap.size,0,none⟩:Addr)=_) (show size - 1 - k<size by omega) _ (show(size:Int) - 1 - (k:Int)=((size - 1 - k:Nat):Int) by omega) W;rwa[Nat.zero_add]at this
   have e4:IntKind.u8.wrap ((N:Int) / 2 ^ (8 * (k:Int)).toNat)=((leB N k).toNat:Int):=by
    unfold leB;rw[UInt8.toNat_ofNat'];have e9:(8 * (k:Int)).toNat=8 * k:=by omega
    have e10:(2:Nat) ^ (8 * k)=256 ^ k:=by rw[Nat.pow_mul]
    have e11:(N:Int) / 2 ^ (8 * k)=((N / 256 ^ k:Nat):Int):=by rw[<-e10]; simp
    rw[e9,e11];simp[IntKind.wrap,IntKind.bits,IntKind.signed]
   obtain⟨c,hcc⟩:∃c,c=leB N k:=⟨_,rfl⟩;rw[<-hcc]at e4;have ZN:=zH hcc; clear hcc;go_still_tail 10,(by kernel_rfl)
   still_call (FX (Bg b size k _ hcb (by omega) (by omega) (by omega)))
   repeat still_step
   refine wpStill_nil ?_;clear e1 e2 e3 e4 hix;change wpList _ _ _ _ _ wr.drew;go_wp2_with fail;go_roundw;case rel=>
    refine⟨k+1,by omega,by go_num,?_,(hb.drew).setCell (zl _) _⟩;have h:=hown.drew.stored (size - 1 - k) (B c);rw[yx,ZN.out,YG hlt]at h;rw[ZN.out];exact h.1
   case measure=>simp[RowKit.intOf]; omega
  ·obtain rfl:k=size:=by omega
   rw[YF]at hown;have hrd:Rd wr (.slice (some ⟨w.heap.size,0,none⟩) k k) (I7 N k):=Rd.nO hown (by omega);have hcx:=dV (P:=prog) underlying65 underlying5 underlying9 hrd;clear hown hrd;go_wp2_with fail;go_ret;exact⟨rfl,hb⟩
theorem Rw(n:Int)(w:World)(hn:n<=9223372036854775807):Calls prog 118 #[.int .i64 n,.int .i64 2] w fun e w'=>e=.returned (.tuple #[.string (str (dQ n 2).1),.int .i64 (dQ n 2).2])/\Below w.heap.size w w':=by
 have HC:=zH (fun W=>WS n W);cases hf:jY n 2 with
 | false=>
   have e1:dQ n 2=([],2):=by unfold dQ; rw[hf]; rfl
   rw[e1]at HC ⊢;clear e1 hf;go_enter func118,ntmps118;go_wp2_with fail;refine(HC.out _).mono ?_;rintro e w' ⟨rfl,rfl⟩;go_wp2_with fail;go_ret2;exact⟨rfl,zB _ _⟩
 | true=>
   have e1:dQ n 2=(I7 n.toNat 2,0):=by unfold dQ; rw[hf]; rfl
   have h0:0<=n:=by rw[Jy]at hf; exact(of_decide_eq_true hf).1
   rw[e1]at HC ⊢;obtain⟨N,rfl⟩:∃N:Nat,n=N:=⟨n.toNat,by omega⟩;have e2:((N:Int)).toNat=N:=by omega
   rw[e2];have HD:=zH (fun W=>yF 2 W);have HW:=zH (fun b W hc=>write_any N 2 2 (N:Int) b W rfl rfl (by omega) (by omega) hc);clear e1 hf e2;go_enter func118,ntmps118;go_wp2_with fail;refine(HC.out _).mono ?_;rintro e w' ⟨rfl,rfl⟩;go_wp2_with fail;refine(HD.out _).mono ?_;rintro e w1 ⟨b,rfl,hc1,hbs,hb1⟩;go_wp2_with fail;refine(HW.out b _ hc1).mono ?_;rintro e w2 ⟨rfl,hb2⟩;have hb3:=hb1.trans (hb2.mono hb1.size);clear hc1 hb1 hb2;go_wp2_with fail;go_ret2;exact⟨rfl,hb3⟩
theorem Rx(n:Int)(w:World)(hn:n<=9223372036854775807):Calls prog 118 #[.int .i64 n,.int .i64 4] w fun e w'=>e=.returned (.tuple #[.string (str (dQ n 4).1),.int .i64 (dQ n 4).2])/\Below w.heap.size w w':=by
 have HC:=zH (fun W=>WT n W);cases hf:jY n 4 with
 | false=>
   have e1:dQ n 4=([],2):=by unfold dQ; rw[hf]; rfl
   rw[e1]at HC ⊢;clear e1 hf;go_enter func118,ntmps118;go_wp2_with fail;refine(HC.out _).mono ?_;rintro e w' ⟨rfl,rfl⟩;go_wp2_with fail;go_ret2;exact⟨rfl,zB _ _⟩
 | true=>
   have e1:dQ n 4=(I7 n.toNat 4,0):=by unfold dQ; rw[hf]; rfl
   have h0:0<=n:=by rw[Jz]at hf; exact(of_decide_eq_true hf).1
   rw[e1]at HC ⊢;obtain⟨N,rfl⟩:∃N:Nat,n=N:=⟨n.toNat,by omega⟩;have e2:((N:Int)).toNat=N:=by omega
   rw[e2];have HD:=zH (fun W=>yF 4 W);have HW:=zH (fun b W hc=>write_any N 4 4 (N:Int) b W rfl rfl (by omega) (by omega) hc);clear e1 hf e2;go_enter func118,ntmps118;go_wp2_with fail;refine(HC.out _).mono ?_;rintro e w' ⟨rfl,rfl⟩;go_wp2_with fail;refine(HD.out _).mono ?_;rintro e w1 ⟨b,rfl,hc1,hbs,hb1⟩;go_wp2_with fail;refine(HW.out b _ hc1).mono ?_;rintro e w2 ⟨rfl,hb2⟩;have hb3:=hb1.trans (hb2.mono hb1.size);clear hc1 hb1 hb2;go_wp2_with fail;go_ret2;exact⟨rfl,hb3⟩
def oI(l:List UInt8):Nat:=l.foldl (fun a c=>256 * a+c.toNat) 0
theorem yw:∀(l:List UInt8)(a:Nat),l.foldl (fun a c=>256 * a+c.toNat) a=a * 256 ^ l.length+oI l
 | [],a=>by simp[oI]
 | c :: l,a=>by
   have e:oI (c :: l)=(256 * 0+c.toNat) * 256 ^ l.length+oI l:=yw l _;rw[e,List.foldl_cons,yw l,List.length_cons,Nat.pow_succ,Nat.mul_zero,Nat.zero_add,Nat.add_mul,Nat.add_assoc]
   congr 1
   rw[Nat.mul_comm 256 a,Nat.mul_assoc,Nat.mul_comm 256]
theorem yu(c:UInt8)(l:List UInt8):oI (c :: l)=c.toNat * 256 ^ l.length+oI l:=by have e:oI (c :: l)=(256 * 0+c.toNat) * 256 ^ l.length+oI l:=yw l _;rw[e,Nat.mul_zero,Nat.zero_add]
theorem LK(n:Nat):∀k,oI (I7 n k)=n % 256 ^ k
 | 0=>by simp[I7,DW,oI,Nat.mod_one]
 | k+1=>by
   have e:I7 n (k+1)=leB n k :: I7 n k:=by simp[I7,DW]
   have e2:(leB n k).toNat=n / 256 ^ k % 256:=by unfold leB; rw[UInt8.toNat_ofNat']; omega
   rw[e,yu,rU,LK n k,e2,Nat.mod_pow_succ,Nat.add_comm,Nat.mul_comm]
theorem CX:∀l:List UInt8,oI l<256 ^ l.length
 | []=>by simp[oI]
 | c :: l=>by have h1:=CX l;have h2:=c.toNat_lt;rw[yu,List.length_cons,Nat.pow_succ];have h3:c.toNat * 256 ^ l.length<=255 * 256 ^ l.length:=Nat.mul_le_mul_right _ (by omega);omega
def dK(s:List UInt8)(at' size:Nat):Nat:=if at'+size<=s.length then oI ((s.drop at').take size) else 0
theorem kX(a b c:List UInt8){o k:Nat}(ha:a.length=o)(hb:b.length=k):dK (a++b++c) o k=oI b:=by subst ha hb;unfold dK;rw[zj (by simp),List.append_assoc,List.drop_left,List.take_left]
theorem kY(s:List UInt8)(o k:Nat)(hk:0<k):dK s o k<256 ^ k:=by
 unfold dK;split
 ·have:=CX ((s.drop o).take k);have e:((s.drop o).take k).length=k:=by rw[List.length_take,List.length_drop]; omega
  rwa[e]at this
 ·exact Nat.pos_of_ne_zero (by simp)
theorem ig(n:Int)(k:Nat):(dQ n k).1.length<=k:=by
 unfold dQ; split
 ·rw[rU]; omega
 ·simp
end E1
end Go.Proofs.YtfnehkmhcmkhjaaGreat
