/- Parts -/
import Derived.Test.YtfnehkmhcmkhjaaGreatDu07
set_option maxRecDepth 100000
set_option maxHeartbeats 8000000
set_option linter.unusedVariables false
namespace Go.Proofs.YtfnehkmhcmkhjaaGreat
open Tryz
namespace E1
open Go.RowKit
def leB(n k:Nat):UInt8:=UInt8.ofNat (n/256 ^ k%256)
def leN(n:Nat):Nat->List UInt8
 |0=>[]
 |k+1=>leN n k++[leB n k]
theorem wQ(n:Nat):∀k,(leN n k).length=k
 |0=>rfl
 |k+1=>by rw[leN,Yb,wQ n k];rfl
def VK(n size:Nat):List UInt8:=(leN n size).reverse
theorem wE(n size:Nat):(VK n size).length=size:=by rw[VK,List.length_reverse,wQ]
def Ah(n:Int)(size:Nat):Bool:=decide (0<=n) && decide (n.toNat/256 ^ size=0)
theorem infoE:(prog.info? 5).map (λi=>(i.zero,i.size,i.bytes))=some (some (.int .u8 0),1,1):=by kernel_rfl
theorem aa7{P:Program}{t:TypeId}(ht:P.underlying t=some .string)(l:List UInt8)(k:Nat)(hk:k<l.length)(i:Int)(hi:i=k)(w:World):
 (Instr.index t (.string (str l)) (.int .i64 i)).run P w=.ok (B (G.ix l k)) w:=by
 subst hi;have h1:(str l).size=l.length:=au l;have h2:((str l)[k]'(by rw[h1];exact hk))=l[k]:=by simp[str,ByteArray.getElem_eq_getElem_data]
 simp[Instr.index,asIntOf,YH ht,h1,hk,h2,G.ix]
def gQ(n:Int)(size:Nat):List UInt8×Int:=if Ah n size=true then(VK n.toNat size,0) else([],2)
theorem TN(n:Int):Ah n 2=decide (0<=n/\n<65536):=by
 unfold Ah;rw[YJ,Yt,Yj,Yj,Yj];have e:(256:Nat) ^ 2=65536:=by decide
 rw[e];constructor
 ·rintro⟨h1,h2⟩;refine⟨h1,?_⟩;omega
 ·rintro⟨h1,h2⟩;refine⟨h1,?_⟩;omega
theorem ajo(n:Int)(w:World):Calls prog 265 #[.int .i64 n,.int .i64 2] w λe w'=>e=.returned (.bool (Ah n 2))/\w=w':=by
 rw[TN];by_cases h0:0<=n
 ·by_cases h1:n<65536
  ·rw[zt ⟨h0,h1⟩];go_enter func265,ntmps265;go_wp2_with fail;go_ret;exact⟨rfl,rfl⟩
  ·rw[zf (λh=>h1 h.2)];go_enter func265,ntmps265;go_wp2_with fail;go_ret;exact⟨rfl,rfl⟩
 ·rw[zf (λh=>h0 h.1)];go_enter func265,ntmps265;go_wp2_with fail;go_ret;exact⟨rfl,rfl⟩
theorem af5(n:Int)(w:World):Calls prog 198 #[.int .i64 n,.int .i64 2] w λe w'=>e=.returned (.int .i64 (gQ n 2).2)/\w=w':=by
 have HF:=zH (λW=>ajo n W);cases hf:Ah n 2 with
 | true=>
   have e1:(gQ n 2).2=0:=by unfold gQ;rw[hf];rfl
   rw[e1];rw[hf]at HF;clear e1 hf;go_enter func198,ntmps198;go_wp2_with fail;refine(HF.out _).mono ?_;rintro e w' ⟨rfl,rfl⟩;go_wp2_with fail;go_ret;exact⟨rfl,rfl⟩
 | false=>
   have e1:(gQ n 2).2=2:=by unfold gQ;rw[hf];rfl
   rw[e1];rw[hf]at HF;clear e1 hf;go_enter func198,ntmps198;go_wp2_with fail;refine(HF.out _).mono ?_;rintro e w' ⟨rfl,rfl⟩;go_wp2_with fail;go_ret;exact⟨rfl,rfl⟩
theorem TP(n:Int):Ah n 4=decide (0<=n/\n<4294967296):=by
 unfold Ah;rw[YJ,Yt,Yj,Yj,Yj];have e:(256:Nat) ^ 4=4294967296:=by decide
 rw[e];constructor
 ·rintro⟨h1,h2⟩;refine⟨h1,?_⟩;omega
 ·rintro⟨h1,h2⟩;refine⟨h1,?_⟩;omega
theorem ajp(n:Int)(w:World):Calls prog 265 #[.int .i64 n,.int .i64 4] w λe w'=>e=.returned (.bool (Ah n 4))/\w=w':=by
 rw[TP];by_cases h0:0<=n
 ·by_cases h1:n<4294967296
  ·rw[zt ⟨h0,h1⟩];go_enter func265,ntmps265;go_wp2_with fail;go_ret;exact⟨rfl,rfl⟩
  ·rw[zf (λh=>h1 h.2)];go_enter func265,ntmps265;go_wp2_with fail;go_ret;exact⟨rfl,rfl⟩
 ·rw[zf (λh=>h0 h.1)];go_enter func265,ntmps265;go_wp2_with fail;go_ret;exact⟨rfl,rfl⟩
theorem af6(n:Int)(w:World):Calls prog 198 #[.int .i64 n,.int .i64 4] w λe w'=>e=.returned (.int .i64 (gQ n 4).2)/\w=w':=by
 have HF:=zH (λW=>ajp n W);cases hf:Ah n 4 with
 | true=>
   have e1:(gQ n 4).2=0:=by unfold gQ;rw[hf];rfl
   rw[e1];rw[hf]at HF;clear e1 hf;go_enter func198,ntmps198;go_wp2_with fail;refine(HF.out _).mono ?_;rintro e w' ⟨rfl,rfl⟩;go_wp2_with fail;go_ret;exact⟨rfl,rfl⟩
 | false=>
   have e1:(gQ n 4).2=2:=by unfold gQ;rw[hf];rfl
   rw[e1];rw[hf]at HF;clear e1 hf;go_enter func198,ntmps198;go_wp2_with fail;refine(HF.out _).mono ?_;rintro e w' ⟨rfl,rfl⟩;go_wp2_with fail;go_ret;exact⟨rfl,rfl⟩
theorem Em(x:Int)(w:World):Calls prog 200 #[.int .i64 x] w λe w'=>∃b:Nat,e=.returned (.func (.func 266) #[] #[.pointer (some ⟨b,0,none⟩)])/\w'.cell? ⟨b,0,none⟩=some (.int .i64 x)/\w.heap.size<=b/\Below w.heap.size w w':=by
 have hc:(w.alloc (.cells #[.int .i64 x] 3)).cell? ⟨w.heap.size,0,none⟩=some (.int .i64 x):=by rw[Xd _ _ _ _ _ _ (Xl w _)];rfl
 have hb:=(zB w.heap.size w).alloc (zl _) (.cells #[.int .i64 x] 3);have HC:=zH hc;have HB:=zH hb;clear hc hb;go_enter func200,ntmps200;go_wp2_with fail;go_ret;exact⟨_,rfl,HC.out,zl _,HB.out⟩
theorem Jd(b:Nat)(size k:Int)(w:World)(hc:w.cell? ⟨b,0,none⟩=some (.int .i64 size))(h0:0<=k)(h1:k<size)(h2:size<=8):Calls prog 266 #[.int .i64 k,.pointer (some ⟨b,0,none⟩)] w λe w'=>e=.returned (.int .i64 (size-1-k))/\w=w':=by go_enter func266,ntmps266;go_wp2_with fail;go_ret;exact⟨rfl,rfl⟩
def wrE(n size k:Nat):List UInt8:=List.replicate (size-k) 0++(leN n k).reverse
theorem sizeE:(prog.info? 5).map (·.size)=some 1:=by kernel_rfl
theorem Vz{n size k:Nat}(h:k<=size):(wrE n size k).length=size:=by simp[wrE,wQ];omega
theorem ah4{n size k:Nat}(h:k<size):(wrE n size k).set (size-1-k) (leB n k)=wrE n size (k+1):=by
 obtain⟨m,rfl⟩:∃m,size=k+1+m:=⟨size-k-1,by omega⟩;have e1:k+1+m-k=m+1:=by omega
 have e2:k+1+m-1-k=m:=by omega
 have e3:k+1+m-(k+1)=m:=by omega
 unfold wrE;rw[e1,e2,e3,List.replicate_succ',Yz,List.set_append_right _ _ (by simp)];simp[leN]
theorem afc(n size:Nat):wrE n size 0=List.replicate size 0:=by simp[wrE,leN]
theorem ah3(n size:Nat):wrE n size size=VK n size:=by simp[wrE,VK]
theorem write_any(N size:Nat)(x y:Int)(b:Nat)(w:World)(hy:y=N)(hx:x=size)(hs:size<=4)(hn:N<=9223372036854775807)(hc:w.cell? ⟨b,0,none⟩=some (.int .i64 x)):
 Calls prog 199 #[.int .i64 y,.int .i64 x,.func (.func 266) #[] #[.pointer (some ⟨b,0,none⟩)]] w λe w'=>e=.returned (.string (str (VK N size)))/\Below w.heap.size w w':=by
 subst hx hy;have hbl:=zc w _ hc;simp only at hbl;have HC:=zH hc;clear hc;go_enter func199,ntmps199;go_wp2_with (refine fM rfl _ _ rfl underlying65 infoE size rfl rfl rfl rfl (by omega) (zl _) ?_;intro w1 hown1 PQ);have hb1:=(zB w.heap.size w).grown PQ (zl _) (λk hk=>by cases hk);rw[<-afc N size]at hown1;clear PQ
 go_loopw [12] (λvk wr=>∃k:Nat,k<=size/\vk=.int .i64 k/\wr.ownsRow w.heap.size 5 1 (.slice (some ⟨w.heap.size,0,none⟩) size size) size (bs (wrE N size k))/\Below w.heap.size w wr) (λvk _=>size-(RowKit.intOf vk).toNat)
 case atStart=>exact⟨0,by omega,rfl,hown1,hb1⟩
 case round=>
  clear hown1 hb1;obtain⟨k,hk,rfl,hown,hb⟩:=hrel;by_cases hlt:k<size
  ·have hcb:wr.cell? ⟨b,0,none⟩=some (.int .i64 size):=(hb.cell (p:=⟨b,0,none⟩) hbl).trans HC.out;have hfo:=hown.frozenAt (size-1-k);have hco:wr.cell? ⟨w.heap.size,size-1-k,none⟩=some (B (G.ix (wrE N size k) (size-1-k))):=by rw[hown.cellAt _ (by omega),jh (by rw[Vz hk];omega)]
   go_wp2_with fail;have e1:IntKind.i64.wrap (8*(k:Int))=8*(k:Int):=IntWalk.i64_in _ (by omega);have e2:(0:Int)<=(size:Int)-1-(k:Int):=by omega
   have e3:(size:Int)-1-(k:Int)<(size:Int):=by omega
   have hix:∀W,(Instr.indexAt 65 (.slice (some ⟨w.heap.size,0,none⟩) size size) (.int .i64 ((size:Int)-1-(k:Int)))).run prog W=.ok (.pointer (some ⟨w.heap.size,size-1-k,none⟩)) W:=λW=>by have:=bJ (P:=prog) (cap:=size) underlying65 sizeE (rfl:some (⟨w.heap.size,0,none⟩:Addr)=_) (show size-1-k<size by omega) _ (show(size:Int)-1-(k:Int)=((size-1-k:Nat):Int) by omega) W;rwa[Yf]at this
   have e4:IntKind.u8.wrap ((N:Int)/2 ^ (8*(k:Int)).toNat)=((leB N k).toNat:Int):=by
    unfold leB;rw[UInt8.toNat_ofNat'];have e9:(8*(k:Int)).toNat=8*k:=by omega
    have e10:(2:Nat) ^ (8*k)=256 ^ k:=by rw[Nat.pow_mul]
    have e11:(N:Int)/2 ^ (8*k)=((N/256 ^ k:Nat):Int):=by rw[<-e10];simp
    rw[e9,e11];simp[IntKind.wrap,IntKind.bits,IntKind.signed]
   obtain⟨c,hcc⟩:∃c,c=leB N k:=⟨_,rfl⟩;rw[<-hcc]at e4;have HCC:=zH hcc;clear hcc;go_still_tail 10,(by kernel_rfl)
   still_call (Jn (Jd b size k _ hcb (by omega) (by omega) (by omega)))
   repeat still_step
   refine wpStill_nil ?_;clear e1 e2 e3 e4 hix;change wpList _ _ _ _ _ wr.drew;go_wp2_with fail;go_roundw;case rel=>
    refine⟨k+1,by omega,by go_num,?_,(hb.drew).setCell (zl _) _⟩;have h:=hown.drew.stored (size-1-k) (B c);rw[Ac,HCC.out,ah4 hlt]at h;rw[HCC.out];exact h.1
   case measure=>simp[RowKit.intOf];omega
  ·obtain rfl:k=size:=by omega
   rw[ah3]at hown;have hrd:Rd wr (.slice (some ⟨w.heap.size,0,none⟩) k k) (VK N k):=Rd.nU hown (by omega);have hcx:=eX (P:=prog) underlying65 underlying5 underlying9 hrd;clear hown hrd;go_wp2_with fail;go_ret;exact⟨rfl,hb⟩
theorem ab8(n:Int)(w:World)(hn:n<=9223372036854775807):Calls prog 118 #[.int .i64 n,.int .i64 2] w λe w'=>e=.returned (.tuple #[.string (str (gQ n 2).1),.int .i64 (gQ n 2).2])/\Below w.heap.size w w':=by
 have HC:=zH (λW=>af5 n W);cases hf:Ah n 2 with
 | false=>
   have e1:gQ n 2=([],2):=by unfold gQ;rw[hf];rfl
   rw[e1]at HC ⊢;clear e1 hf;go_enter func118,ntmps118;go_wp2_with fail;refine(HC.out _).mono ?_;rintro e w' ⟨rfl,rfl⟩;go_wp2_with fail;go_ret2;exact⟨rfl,zB _ _⟩
 | true=>
   have e1:gQ n 2=(VK n.toNat 2,0):=by unfold gQ;rw[hf];rfl
   have h0:0<=n:=by rw[TN]at hf;exact(YU hf).1
   rw[e1]at HC ⊢;obtain⟨N,rfl⟩:∃N:Nat,n=N:=⟨n.toNat,by omega⟩;have e2:((N:Int)).toNat=N:=by omega
   rw[e2];have HD:=zH (λW=>Em 2 W);have HW:=zH (λb W hc=>write_any N 2 2 (N:Int) b W rfl rfl (by omega) (by omega) hc);clear e1 hf e2;go_enter func118,ntmps118;go_wp2_with fail;refine(HC.out _).mono ?_;rintro e w' ⟨rfl,rfl⟩;go_wp2_with fail;refine(HD.out _).mono ?_;rintro e w1 ⟨b,rfl,hc1,hbs,hb1⟩;go_wp2_with fail;refine(HW.out b _ hc1).mono ?_;rintro e w2 ⟨rfl,hb2⟩;have hb3:=hb1.trans (hb2.mono hb1.size);clear hc1 hb1 hb2;go_wp2_with fail;go_ret2;exact⟨rfl,hb3⟩
theorem ab9(n:Int)(w:World)(hn:n<=9223372036854775807):Calls prog 118 #[.int .i64 n,.int .i64 4] w λe w'=>e=.returned (.tuple #[.string (str (gQ n 4).1),.int .i64 (gQ n 4).2])/\Below w.heap.size w w':=by
 have HC:=zH (λW=>af6 n W);cases hf:Ah n 4 with
 | false=>
   have e1:gQ n 4=([],2):=by unfold gQ;rw[hf];rfl
   rw[e1]at HC ⊢;clear e1 hf;go_enter func118,ntmps118;go_wp2_with fail;refine(HC.out _).mono ?_;rintro e w' ⟨rfl,rfl⟩;go_wp2_with fail;go_ret2;exact⟨rfl,zB _ _⟩
 | true=>
   have e1:gQ n 4=(VK n.toNat 4,0):=by unfold gQ;rw[hf];rfl
   have h0:0<=n:=by rw[TP]at hf;exact(YU hf).1
   rw[e1]at HC ⊢;obtain⟨N,rfl⟩:∃N:Nat,n=N:=⟨n.toNat,by omega⟩;have e2:((N:Int)).toNat=N:=by omega
   rw[e2];have HD:=zH (λW=>Em 4 W);have HW:=zH (λb W hc=>write_any N 4 4 (N:Int) b W rfl rfl (by omega) (by omega) hc);clear e1 hf e2;go_enter func118,ntmps118;go_wp2_with fail;refine(HC.out _).mono ?_;rintro e w' ⟨rfl,rfl⟩;go_wp2_with fail;refine(HD.out _).mono ?_;rintro e w1 ⟨b,rfl,hc1,hbs,hb1⟩;go_wp2_with fail;refine(HW.out b _ hc1).mono ?_;rintro e w2 ⟨rfl,hb2⟩;have hb3:=hb1.trans (hb2.mono hb1.size);clear hc1 hb1 hb2;go_wp2_with fail;go_ret2;exact⟨rfl,hb3⟩
def sQ(l:List UInt8):Nat:=l.foldl (λa c=>256*a+c.toNat) 0
theorem D8:∀(l:List UInt8)(a:Nat),l.foldl (λa c=>256*a+c.toNat) a=a*256 ^ l.length+sQ l
 | [],a=>by simp[sQ]
 | c :: l,a=>by
   have e:sQ (c::l)=(256*0+c.toNat)*256 ^ l.length+sQ l:=D8 l _;rw[e,Ve,D8 l,Yn,Nat.pow_succ,Nat.mul_zero,Yf,Nat.add_mul,XD]
   congr 1
   rw[XI 256 a,Nat.mul_assoc,XI 256]
theorem D7(c:UInt8)(l:List UInt8):sQ (c::l)=c.toNat*256 ^ l.length+sQ l:=by have e:sQ (c::l)=(256*0+c.toNat)*256 ^ l.length+sQ l:=D8 l _;rw[e,Nat.mul_zero,Yf]
theorem VL(n:Nat):∀k,sQ (VK n k)=n%256 ^ k
 |0=>by simp[VK,leN,sQ,Nat.mod_one]
 | k+1=>by
   have e:VK n (k+1)=leB n k::VK n k:=by simp[VK,leN]
   have e2:(leB n k).toNat=n/256 ^ k%256:=by unfold leB;rw[UInt8.toNat_ofNat'];omega
   rw[e,D7,wE,VL n k,e2,Nat.mod_pow_succ,Nat.add_comm,XI]
theorem KU:∀l:List UInt8,sQ l<256 ^ l.length
 | []=>by simp[sQ]
 |c::l=>by have h1:=KU l;have h2:=c.toNat_lt;rw[D7,Yn,Nat.pow_succ];have h3:c.toNat*256 ^ l.length<=255*256 ^ l.length:=XA _ (by omega);omega
def dO(s:List UInt8)(at' size:Nat):Nat:=if at'+size<=s.length then sQ ((s.drop at').take size) else 0
theorem og(a b c:List UInt8){o k:Nat}(ha:a.length=o)(hb:b.length=k):dO (a++b++c) o k=sQ b:=by subst ha hb;unfold dO;rw[zj (by simp),Yz,List.drop_left,List.take_left]
theorem pJ(s:List UInt8)(o k:Nat)(hk:0<k):dO s o k<256 ^ k:=by
 unfold dO;split
 ·have:=KU ((s.drop o).take k);have e:((s.drop o).take k).length=k:=by rw[Yk,List.length_drop];omega
  rwa[e]at this
 ·exact Nat.pos_of_ne_zero (by simp)
theorem jP(n:Int)(k:Nat):(gQ n k).1.length<=k:=by
 unfold gQ;split
 ·rw[wE];omega
 ·simp
def U8(l:List UInt8)(o size k:Nat):List UInt8:=(l.drop (o+size-k)).take k
theorem ahH(l:List UInt8)(o size:Nat):U8 l o size size=(l.drop o).take size:=by unfold U8;rw[XM]
theorem aeM{l:List UInt8}{o size k:Nat}(h:k<size)(hl:o+size<=l.length):U8 l o size (k+1)=G.ix l (o+(size-1-k))::U8 l o size k:=by
 unfold U8;have e1:o+size-(k+1)=o+(size-1-k):=by omega
 have e2:o+size-k=o+(size-1-k)+1:=by omega
 rw[e1,e2,List.drop_eq_getElem_cons (show o+(size-1-k)<l.length by omega),List.take_succ_cons];simp[G.ix,Ye (show o+(size-1-k)<l.length by omega)]
theorem seg_length{l:List UInt8}{o size k:Nat}(h:k<=size)(hl:o+size<=l.length):(U8 l o size k).length=k:=by unfold U8;rw[Yk,List.length_drop];omega
theorem ru(s:ByteArray)(o c:Int)(w:World)(h0:0<=o)(h1:0<=c)(h2:o<=1000000)(h3:c<=8)(hs:s.size<=1000000):
 Calls prog 342 #[.string s,.int .i64 o,.int .i64 c] w λe w'=>e=.returned (.bool (decide (o+c<=s.size)))/\w=w':=by
 by_cases h:o+c<=s.size
 ·rw[zt h];have hx:o<=(s.size:Int)-c:=by omega
  go_enter func342,ntmps342;go_wp2_with fail;go_ret;exact⟨rfl,rfl⟩
 ·rw[zf h];have hx:¬ o<=(s.size:Int)-c:=by omega
  go_enter func342,ntmps342;go_wp2_with fail;go_ret;exact⟨rfl,rfl⟩
theorem aoG{a c k:Nat}(ha:a<256 ^ k)(hc:c<256)(hk:k<=6):bits .or .u64 (a:Int) ((c*2 ^ (8*k):Nat):Int)=((c*256 ^ k+a:Nat):Int):=by
 have e:(256:Nat) ^ k=2 ^ (8*k):=by rw[Nat.pow_mul]
 rw[e]at ha ⊢;have hb:c*2 ^ (8*k)+a=a ||| c*2 ^ (8*k):=by rw[XI,Nat.two_pow_add_eq_or_of_lt ha,Nat.or_comm]
 have hp:(2:Nat) ^ (8*k)<=2 ^ 48:=XB (by omega) (by omega);have hq:c*2 ^ (8*k)<=255*2 ^ 48:=Nat.mul_le_mul (by omega) hp;rw[hb];generalize c*2 ^ (8*k)=q at *;have hz:a ||| q<2 ^ 62:=by rw[<-hb];omega
 show IntKind.u64.wrap ((BitVec.ofInt 64 (a:Int) ||| BitVec.ofInt 64 (q:Int)).toNat:Int)=_;rw[BitVec.toNat_or,ofInt_u64 a (by omega),ofInt_u64 q (by omega)];generalize a ||| q=z at *
 simp[IntKind.wrap,IntKind.bits,IntKind.signed];omega
theorem amX(c k:Nat)(hc:c<256)(hk:k<=6):IntKind.u64.wrap (IntKind.u64.wrap (c:Int)*2 ^ (8*k))=((c*2 ^ (8*k):Nat):Int):=by
 have hp:(2:Nat) ^ (8*k)<=2 ^ 48:=XB (by omega) (by omega);have hq:c*2 ^ (8*k)<=255*2 ^ 48:=Nat.mul_le_mul (by omega) hp;have e1:IntKind.u64.wrap (c:Int)=(c:Int):=by simp[IntKind.wrap,IntKind.bits,IntKind.signed];omega
 have e2:(c:Int)*2 ^ (8*k)=((c*2 ^ (8*k):Nat):Int):=by simp
 rw[e1,e2];generalize c*2 ^ (8*k)=q at *;simp[IntKind.wrap,IntKind.bits,IntKind.signed];omega
theorem aev(l:List UInt8)(o size:Nat)(x y:Int)(b:Nat)(w:World)(hy:y=o)(hx:x=size)(h1:1<=size)(hs:size<=4)(ho:o<=1000000)(hl:l.length<=1000000)(hc:w.cell? ⟨b,0,none⟩=some (.int .i64 x))(hin:o+size<=l.length):
 Calls prog 264 #[.string (str l),.int .i64 y,.int .i64 x,.func (.func 266) #[] #[.pointer (some ⟨b,0,none⟩)]] w λe w'=>e=.returned (.tuple #[.int .i64 (dO l o size),.int .i64 0])/\w=w':=by
 have HI:=zH (λW=>ru (str l) y x W (by omega) (by omega) (by omega) (by omega) (by rw[au];exact hl));have hd:decide (y+x<=((str l).size:Int))=true:=by rw[au];simp;omega
 rw[hd]at HI;subst hx hy;have HR:Hid (dO l o size=sQ (U8 l o size size)):=zH (by unfold dO;rw[zj hin,ahH]);clear hd;go_enter func264,ntmps264;go_wp2_with fail;refine(HI.out _).mono ?_;rintro e w' ⟨rfl,rfl⟩;go_wp2_with fail
 go_loop [10,26] (λvn vk=>∃k n:Nat,k<=size/\vk=.int .i64 k/\vn=.int .u64 n/\Hid (n=sQ (U8 l o size k))/\n<256 ^ 4) (λ_ vk=>size-(RowKit.intOf vk).toNat)
 case atStart=>exact⟨0,0,by omega,rfl,rfl,zH (by simp[U8,sQ]),by omega⟩
 case round=>
  obtain⟨k,n,hk,rfl,rfl,HN,hnb⟩:=hrel;by_cases hlt:k<size
  ·have hix:=λW=>aa7 (P:=prog) underlying9 l (o+(size-1-k)) (by omega) ((o:Int)+((size:Int)-1-(k:Int))) (by omega) W
   go_wp2_with (go_at_call 266;refine(Jd b size k _ hc (by omega) (by omega) (by omega)).mono ?_;rintro e w1 ⟨rfl,rfl⟩);go_round;case rel=>
    have hz:=HN.out;have hkk:n<256 ^ k:=by have:=KU (U8 l o size k);rw[seg_length hk hin]at this;rw[hz];exact this
    have hc8:=(G.ix l (o+(size-1-k))).toNat_lt;have hsz:sQ (U8 l o size (k+1))=(G.ix l (o+(size-1-k))).toNat*256 ^ k+n:=by rw[aeM hlt hin,D7,seg_length hk hin,<-hz]
    have hlt2:sQ (U8 l o size (k+1))<256 ^ 4:=by have:=KU (U8 l o size (k+1));rw[seg_length (by omega) hin]at this;exact zL this (XB (by omega) (by omega))
    refine⟨k+1,sQ (U8 l o size (k+1)),by omega,by go_num,Yp (Value.int .u64) ?_,zH rfl,hlt2⟩;rw[hsz];generalize (G.ix l (o+(size-1-k))).toNat=c at *;rw[<-aoG hkk hc8 (by omega),amX c k hc8 (by omega)]
   case measure=>simp[RowKit.intOf];omega
  ·obtain rfl:k=size:=by omega
   have hnb':n<=9223372036854775807:=by omega
   have hcv:IntKind.i64.wrap (n:Int)=n:=IntWalk.i64_in _ (by omega);have HZ:Hid (n=dO l o k):=zH (by rw[HR.out];exact HN.out);clear HN HR;go_wp2_with fail;go_ret2;rw[<-HZ.out];exact⟨rfl,rfl⟩
def rdC(l:List UInt8)(o size:Nat):Int:=if o+size<=l.length then 0 else 2
theorem aew(l:List UInt8)(o size:Nat)(x y:Int)(f:Value)(w:World)(hy:y=o)(hx:x=size)(h1:1<=size)(hs:size<=4)(ho:o<=1000000)(hl:l.length<=1000000)(hin:¬ o+size<=l.length):
 Calls prog 264 #[.string (str l),.int .i64 y,.int .i64 x,f] w λe w'=>e=.returned (.tuple #[.int .i64 0,.int .i64 2])/\w=w':=by
 have HI:=zH (λW=>ru (str l) y x W (by omega) (by omega) (by omega) (by omega) (by rw[au];exact hl));have hd:decide (y+x<=((str l).size:Int))=false:=by rw[au];simp;omega
 rw[hd]at HI;subst hx hy;clear hd;go_enter func264,ntmps264;go_wp2_with fail;refine(HI.out _).mono ?_;rintro e w' ⟨rfl,rfl⟩;go_wp2_with fail;go_ret2;exact⟨rfl,rfl⟩
theorem QV(l:List UInt8)(o size:Nat)(x y:Int)(w:World)(hy:y=o)(hx:x=size)(h1:1<=size)(hs:size<=4)(ho:o<=1000000)(hl:l.length<=1000000):
 Calls prog 197 #[.string (str l),.int .i64 y,.int .i64 x] w λe w'=>e=.returned (.tuple #[.int .i64 (dO l o size),.int .i64 (rdC l o size)])/\Below w.heap.size w w':=by
 have HD:=zH (λW=>Em x W);by_cases hin:o+size<=l.length
 ·have HR:=zH (λb W hc=>aev l o size x y b W hy hx h1 hs ho hl hc hin);have e:rdC l o size=0:=by unfold rdC;rw[zj hin]
  rw[e];clear e hy hx;go_enter func197,ntmps197;go_wp2_with fail;refine(HD.out _).mono ?_;rintro e w1 ⟨b,rfl,hc1,hbs,hb1⟩;go_wp2_with fail;refine(HR.out b _ hc1).mono ?_;rintro e w2 ⟨rfl,rfl⟩;clear hc1;go_wp2_with fail;go_ret2;exact⟨rfl,hb1⟩
 ·have HR:=zH (λf W=>aew l o size x y f W hy hx h1 hs ho hl hin);have e:rdC l o size=2:=by unfold rdC;rw[zi hin]
  have e2:dO l o size=0:=by unfold dO;rw[zi hin]
  rw[e,e2];clear e e2 hy hx;go_enter func197,ntmps197;go_wp2_with fail;refine(HD.out _).mono ?_;rintro e w1 ⟨b,rfl,hc1,hbs,hb1⟩;go_wp2_with fail;refine(HR.out _ _).mono ?_;rintro e w2 ⟨rfl,rfl⟩;clear hc1;go_wp2_with fail;go_ret2;exact⟨rfl,hb1⟩
def ic(x:Int):List Value:=[.int .i64 x]
theorem aam(x:Int):(ic x).length=1:=rfl
abbrev RdN(w:World)(v:Value)(l:List Int):Prop:=dB 0 ic 1 w v l
theorem DC(a b:List UInt8):str a++str b=str (a++b):=by
 unfold str
 ext1
 simp
def fD(size:Nat)(xs:List Int):List UInt8:=xs.flatMap λn=>(gQ n size).1
theorem EG{size:Nat}{xs:List Int}{i:Nat}(h:i<xs.length):fD size (xs.take (i+1))=fD size (xs.take i)++(gQ (aJ 0 xs i) size).1:=by unfold fD;rw[List.take_add_one,Vk];simp[aJ,Ye h]
theorem EF(size:Nat)(xs:List Int):(fD size xs).length<=size*xs.length:=by
 induction xs with
 |nil=>simp[fD]
 | cons x xs ih=>
   have:=jP x size;unfold fD at ih ⊢;rw[List.flatMap_cons,Yb,Yn,Nat.mul_succ];omega
def aiC(b:Nat)(s:List UInt8)(w:World)(e:Ending)(w':World):Prop:=
 e=.returned (.tuple #[])/\Bx w' b 9 [.string (str s)]/\Below b w w'/\∀k,k<w.heap.size->k≠b->w'.heap[k]? = w.heap[k]?
theorem sizeIntE:(prog.info? 3).map (·.size)=some 1:=by kernel_rfl
theorem alg(v:Value)(xs:List Int)(b:Nat)(cur:List UInt8)(w:World)(hb:Bx w b 9 [.string (str cur)])(hr:RdN w v xs)(hne:∀a n c,v=.slice (some a) n c->a.block≠b)(hx:∀i,i<xs.length->aJ 0 xs i<=9223372036854775807)(hn:xs.length<=120)(hc:cur.length<=100000):
 Calls prog 318 #[.int .i64 2,v,.pointer (some ⟨b,0,none⟩)] w (aiC b (cur++fD 2 xs) w):=by
 obtain⟨a,c,rfl,hac⟩:=dB.form hr;obtain⟨b0,off,hcell⟩:=dB.at hr;have HX:=zH hx;clear hx;have HC:=zH hcell;clear hcell hr;have hbl:=hb.lt;have Hne:=zH (λ(h0:0<xs.length)=>(show b0≠b from hne ⟨b0,off,none⟩ xs.length c (by rw[(HC.out 0 h0).1])));clear hne;go_enter func318,ntmps318;go_wp2_with fail
 go_loopw [11] (λvi wr=>∃i:Nat,i<=xs.length/\vi=.int .i64 i/\Bx wr b 9 [.string (str (cur++fD 2 (xs.take i)))]/\Below b w wr/\Hid (∀k,k<w.heap.size->k≠b->wr.heap[k]? = w.heap[k]?)) (λvi _=>xs.length-(RowKit.intOf vi).toNat)
 case atStart=>exact⟨0,by omega,rfl,by simpa[fD]using hb,zB _ _,zH λk _ _=>rfl⟩
 case round=>
  clear hb;obtain⟨i,hi,rfl,hbx,hbw,HK⟩:=hrel;by_cases hlt:i<xs.length
  ·obtain⟨ha,hrg⟩:=HC.out i hlt;have hix:=λw'=>aB underlying31 sizeIntE (cap:=c) ha hlt _ rfl w'
   have hcl:w.cell? ⟨b0,off+i*1,none⟩=some (.int .i64 (aJ 0 xs i)):=hrg 0 _ rfl;have hcell:wr.cell? ⟨b0,off+i*1,none⟩=some (.int .i64 (aJ 0 xs i)):=(XC (w:=w) (a:=⟨b0,off+i*1,none⟩) (HK.out b0 (zc w _ hcl) (Hne.out (by omega)))).trans hcl;simp only[Yy]at hix hcell;have HS:=zH (EG (size:=2) hlt);have hxb:=HX.out i hlt;have hfl:=EF 2 (xs.take i);rw[Yk]at hfl;have ajH:=jP (aJ 0 xs i) 2;generalize aJ 0 xs i=x at *;clear hcl hrg;have HBG:=zH (λW=>ab8 x W hxb);obtain⟨y,hy⟩:∃y,y=(gQ x 2).1:=⟨_,rfl⟩;rw[<-hy]at HBG HS ajH;obtain⟨S,hS⟩:∃S,S=cur++fD 2 (xs.take i):=⟨_,rfl⟩;rw[<-hS]at hbx;have hSl:S.length<=101000:=by rw[hS,Yb];omega
   have HS2:Hid (cur++fD 2 (xs.take (i+1))=S++y):=zH (by rw[HS.out,<-Yz,hS]);clear hy hS HS hfl ha;have hsz1:=au S;have hsz2:=au y;have hnl:¬ 9223372036854775807<(str S).size+(str y).size:=by omega
   go_wp2_with fail;refine(HBG.out _).mono ?_;rintro e w1 ⟨rfl,hb1⟩;have Uf:=hbx.call hb1;have hc1:=Uf.cell (i:=0) rfl;have hf1:=Uf.free;clear hix hcell;go_wp2_with fail;go_roundw;case rel=>
    refine⟨i+1,by omega,by go_num,?_,(hbw.trans (hb1.mono (Nat.le_of_lt hbx.lt))).setCell (zl _) _,zH λk hk hkb=>?_⟩
    ·have h:=Uf.set 0 (.string (str S++str y));rw[HS2.out,<-DC];exact h
    ·rw[zh _ _ _ _ hkb,hb1.block k (zL hk hbw.size)];exact HK.out k hk hkb
   case measure=>simp[RowKit.intOf];omega
  ·obtain rfl:i=xs.length:=by omega
   rw[YD]at hbx;go_wp2_with fail;go_end0;exact⟨rfl,hbx,hbw,HK.out⟩
theorem alh(v:Value)(xs:List Int)(b:Nat)(cur:List UInt8)(w:World)(hb:Bx w b 9 [.string (str cur)])(hr:RdN w v xs)(hne:∀a n c,v=.slice (some a) n c->a.block≠b)(hx:∀i,i<xs.length->aJ 0 xs i<=9223372036854775807)(hn:xs.length<=120)(hc:cur.length<=100000):
 Calls prog 318 #[.int .i64 4,v,.pointer (some ⟨b,0,none⟩)] w (aiC b (cur++fD 4 xs) w):=by
 obtain⟨a,c,rfl,hac⟩:=dB.form hr;obtain⟨b0,off,hcell⟩:=dB.at hr;have HX:=zH hx;clear hx;have HC:=zH hcell;clear hcell hr;have hbl:=hb.lt;have Hne:=zH (λ(h0:0<xs.length)=>(show b0≠b from hne ⟨b0,off,none⟩ xs.length c (by rw[(HC.out 0 h0).1])));clear hne;go_enter func318,ntmps318;go_wp2_with fail
 go_loopw [11] (λvi wr=>∃i:Nat,i<=xs.length/\vi=.int .i64 i/\Bx wr b 9 [.string (str (cur++fD 4 (xs.take i)))]/\Below b w wr/\Hid (∀k,k<w.heap.size->k≠b->wr.heap[k]? = w.heap[k]?)) (λvi _=>xs.length-(RowKit.intOf vi).toNat)
 case atStart=>exact⟨0,by omega,rfl,by simpa[fD]using hb,zB _ _,zH λk _ _=>rfl⟩
 case round=>
  clear hb;obtain⟨i,hi,rfl,hbx,hbw,HK⟩:=hrel;by_cases hlt:i<xs.length
  ·obtain⟨ha,hrg⟩:=HC.out i hlt;have hix:=λw'=>aB underlying31 sizeIntE (cap:=c) ha hlt _ rfl w'
   have hcl:w.cell? ⟨b0,off+i*1,none⟩=some (.int .i64 (aJ 0 xs i)):=hrg 0 _ rfl;have hcell:wr.cell? ⟨b0,off+i*1,none⟩=some (.int .i64 (aJ 0 xs i)):=(XC (w:=w) (a:=⟨b0,off+i*1,none⟩) (HK.out b0 (zc w _ hcl) (Hne.out (by omega)))).trans hcl;simp only[Yy]at hix hcell;have HS:=zH (EG (size:=4) hlt);have hxb:=HX.out i hlt;have hfl:=EF 4 (xs.take i);rw[Yk]at hfl;have ajH:=jP (aJ 0 xs i) 4;generalize aJ 0 xs i=x at *;clear hcl hrg;have HBG:=zH (λW=>ab9 x W hxb);obtain⟨y,hy⟩:∃y,y=(gQ x 4).1:=⟨_,rfl⟩;rw[<-hy]at HBG HS ajH;obtain⟨S,hS⟩:∃S,S=cur++fD 4 (xs.take i):=⟨_,rfl⟩;rw[<-hS]at hbx;have hSl:S.length<=101000:=by rw[hS,Yb];omega
   have HS2:Hid (cur++fD 4 (xs.take (i+1))=S++y):=zH (by rw[HS.out,<-Yz,hS]);clear hy hS HS hfl ha;have hsz1:=au S;have hsz2:=au y;have hnl:¬ 9223372036854775807<(str S).size+(str y).size:=by omega
   go_wp2_with fail;refine(HBG.out _).mono ?_;rintro e w1 ⟨rfl,hb1⟩;have Uf:=hbx.call hb1;have hc1:=Uf.cell (i:=0) rfl;have hf1:=Uf.free;clear hix hcell;go_wp2_with fail;go_roundw;case rel=>
    refine⟨i+1,by omega,by go_num,?_,(hbw.trans (hb1.mono (Nat.le_of_lt hbx.lt))).setCell (zl _) _,zH λk hk hkb=>?_⟩
    ·have h:=Uf.set 0 (.string (str S++str y));rw[HS2.out,<-DC];exact h
    ·rw[zh _ _ _ _ hkb,hb1.block k (zL hk hbw.size)];exact HK.out k hk hkb
   case measure=>simp[RowKit.intOf];omega
  ·obtain rfl:i=xs.length:=by omega
   rw[YD]at hbx;go_wp2_with fail;go_end0;exact⟨rfl,hbx,hbw,HK.out⟩
end E1
end Go.Proofs.YtfnehkmhcmkhjaaGreat
