/- Parts:XScal XProd XPoly XRem -/
import Derived.Test.YtfnehkmhcmkhjaaGreatDvAl
import Derived.Test.YtfnehkmhcmkhjaaGreatChecked
import Derived.Test.YtfnehkmhcmkhjaaGreatDv03
set_option maxRecDepth 100000
set_option maxHeartbeats 8000000
set_option linter.unusedVariables false
namespace Go.Proofs.YtfnehkmhcmkhjaaGreat
open Tryz
section
open Go.RowKit
theorem kR(a:Nat)(w:World)(ha:a<256):
 Calls prog 369 #[.int .u8 a] w fun e w'=>e=.returned (.int .u8 (Gf.yC a:Nat))/\w=w':=by
 by_cases h:128<=a
 ·go_enter func369,ntmps369;go_wp2_with fail;go_ret;refine⟨UI ((MK (2 * a - 256) 29 (by omega) rfl (by omega) (by omega)).trans ?_),rfl⟩;rw[Gf.yC,zj h]
 ·go_enter func369,ntmps369;go_wp2_with fail;go_ret;refine⟨UI ?_,rfl⟩;rw[Gf.yC,zi h];omega
theorem mul_any(a b:Nat)(w:World)(ha:a<256)(hb:b<256):
 Calls prog 324 #[.int .u8 a,.int .u8 b] w fun e w'=>e=.returned (.int .u8 (Gf.mul a b:Nat))/\w=w':=by
 go_enter func324,ntmps324;go_wp2_with fail
 go_loop [0,1,5] (fun va vb vo=>∃k x y o:Nat,k<=8/\x<256/\y<2 ^ k/\o<256/\va=.int .u8 x/\vb=.int .u8 y/\vo=.int .u8 o/\o ^^^ Gf.mulN k x y=Gf.mul a b) (fun _ vb _=>(RowKit.intOf vb).toNat)
 case atStart=>exact⟨8,a,b,0,by omega,ha,hb,by omega,rfl,rfl,rfl,by simp[Gf.mul]⟩
 case round=>
  obtain⟨k,x,y,o,hk,hx,hy,ho,rfl,rfl,rfl,hm⟩:=hrel;have hy8:y<256:=zL hy (Nat.pow_le_pow_right (by omega) hk:2 ^ k<=2 ^ 8);have Hm:=zH hm; clear hm;have Hy:=zH hy; clear hy;by_cases h0:y=0
  ·subst h0;go_wp2_with fail;go_ret;refine⟨UI ?_,rfl⟩;rw[<-Hm.out,Gf.og,Nat.xor_zero]
  ·obtain⟨j,rfl⟩:∃j,k=j+1:=⟨k - 1,by
   rcases k with _ | k
   ·have:=Hy.out; simp at this; omega
   ·rfl⟩
   have Hj:Hid (y / 2<2 ^ j):=zH (by have:=Hy.out; rw[Nat.pow_succ]at this; omega);have Ha:=zH (and_one y hy8);have hn:((y:Int) != 0)=true:=by rw[bne_iff_ne]; omega
   by_cases h1:y % 2=1
   ·have hb1:(bits .and .u8 (y:Int) 1 == 1)=true:=by rw[Ha.out,h1]; rfl
    go_wp2_with (go_at_call 369; refine(kR _ _ hx).mono ?_; rintro e w' ⟨rfl,rfl⟩);go_round;case rel=>
     refine⟨j,Gf.yC x,y / 2,o ^^^ x,by omega,Gf.rX hx,Hj.out,Gf.Ls ho hx,rfl,by simp,?_,?_⟩
     ·rw[MK o x rfl rfl ho hx]
     ·rw[<-Hm.out,Gf.mulN,zj h1,Nat.xor_assoc]
    case measure=>simp[RowKit.intOf]; omega
   ·have hb1:(bits .and .u8 (y:Int) 1 == 1)=false:=by rw[Ha.out,beq_eq_false_iff_ne]; omega
    go_wp2_with (go_at_call 369; refine(kR _ _ hx).mono ?_; rintro e w' ⟨rfl,rfl⟩);go_round;case rel=>
     refine⟨j,Gf.yC x,y / 2,o,by omega,Gf.rX hx,Hj.out,ho,rfl,by simp,rfl,?_⟩;rw[<-Hm.out,Gf.mulN,zi h1,Nat.zero_xor]
    case measure=>simp[RowKit.intOf]; omega
theorem abp(x y:Int)(a b:Nat)(w:World)(hx:x=a)(hy:y=b)(ha:a<256)(hb:b<256):
 Calls prog 324 #[.int .u8 x,.int .u8 y] w fun e w'=>e=.returned (.int .u8 (Gf.mul a b:Nat))/\w=w':=by
 subst hx hy; exact mul_any a b w ha hb
def ex(n:Int):Nat:=(n % 255).toNat
theorem acO(n:Int):ex n<255:=by unfold ex; omega
theorem KX(n:Int):-255<n.tmod 255/\n.tmod 255<255:=
 ⟨Int.lt_tmod_of_pos n (by omega),Int.tmod_lt_of_pos n (by omega)⟩
theorem tmod_neg(n:Int)(h:n.tmod 255<0):n.tmod 255+255=ex n:=by have h1:=Int.mul_tdiv_add_tmod n 255;have h2:=KX n;unfold ex;omega
theorem Vb(n:Int)(h:0<=n.tmod 255):n.tmod 255=ex n:=by have h1:=Int.mul_tdiv_add_tmod n 255;have h2:=KX n;unfold ex;omega
theorem OW(n:Nat):∀a,Gf.iter (n+1) a=Gf.yC (Gf.iter n a):=by
 induction n with
 | zero=>intro a; rfl
 | succ n ih=>intro a; exact ih (Gf.yC a)
theorem yG(n:Nat):Gf.exp (n+1)=Gf.yC (Gf.exp n):=OW n 1
theorem W9(n:Int)(w:World)(h1:-9223372036854775808<=n)(h2:n<=9223372036854775807):
 Calls prog 321 #[.int .i64 n] w fun e w'=>e=.returned (.int .u8 (Gf.exp (ex n):Nat))/\w=w':=by
 obtain⟨hb1,hb2⟩:=KX n;have He:=acO n;by_cases h:n.tmod 255<0
 ·obtain⟨m,hm⟩:∃m,m=n.tmod 255:=⟨_,rfl⟩;have Hn:Hid (n.tmod 255+255=ex n):=zH (tmod_neg n h);go_enter func321,ntmps321;go_wp2_with fail;rw[Hn.out]
  go_loop [3,11] (fun va vi=>∃k:Nat,k<=ex n/\vi=.int .i64 k/\va=.int .u8 (Gf.exp k:Nat)) (fun _ vi=>ex n - (RowKit.intOf vi).toNat)
  case atStart=>exact⟨0,by omega,rfl,rfl⟩
  case round=>
   obtain⟨k,hk,rfl,rfl⟩:=hrel;have Hs:=zH (yG k);by_cases hlt:k<ex n
   ·go_wp2_with (go_at_call 369; refine(kR _ _ (Gf.vw k)).mono ?_; rintro e w' ⟨rfl,rfl⟩);go_round;case rel=>exact⟨k+1,by omega,by go_num,by rw[Hs.out]⟩
    case measure=>simp[RowKit.intOf]; omega
   ·go_wp2_with fail;go_ret;exact⟨UI (by rw[show k=ex n by omega]),rfl⟩
 ·have h':0<=n.tmod 255:=by omega
  have Hn:Hid (n.tmod 255=ex n):=zH (Vb n h');go_enter func321,ntmps321;go_wp2_with fail;rw[Hn.out]
  go_loop [3,11] (fun va vi=>∃k:Nat,k<=ex n/\vi=.int .i64 k/\va=.int .u8 (Gf.exp k:Nat)) (fun _ vi=>ex n - (RowKit.intOf vi).toNat)
  case atStart=>exact⟨0,by omega,rfl,rfl⟩
  case round=>
   obtain⟨k,hk,rfl,rfl⟩:=hrel;have Hs:=zH (yG k);by_cases hlt:k<ex n
   ·go_wp2_with (go_at_call 369; refine(kR _ _ (Gf.vw k)).mono ?_; rintro e w' ⟨rfl,rfl⟩);go_round;case rel=>exact⟨k+1,by omega,by go_num,by rw[Hs.out]⟩
    case measure=>simp[RowKit.intOf]; omega
   ·go_wp2_with fail;go_ret;exact⟨UI (by rw[show k=ex n by omega]),rfl⟩
def uI:Array Value:=Array.replicate 255 (.int .u8 0)
def pw:Nat->Array Value
 | 0=>uI
 | k+1=>(pw k).setIfInBounds k (.int .u8 (Gf.exp k:Nat))
theorem xN(k:Nat):(pw k).size=255:=by
 induction k with
 | zero=>simp[pw,uI]
 | succ k ih=>simp[pw,ih]
theorem aby(k:Nat):∀i,i<k->k<=255->(pw k)[i]? = some (.int .u8 (Gf.exp i:Nat)):=by
 induction k with
 | zero=>intro i h; omega
 | succ k ih=>
   intro i h hk;simp only[pw];by_cases e:i=k
   ·subst e;rw[Array.getElem?_setIfInBounds_self_of_lt (by rw[xN]; omega)]
   ·rw[Array.getElem?_setIfInBounds_ne (by omega)];exact ih i (by omega) (by omega)
theorem Ya(k i:Nat)(h:i<255):∃v,(pw k)[i]? = some v:=by
 have:i<(pw k).size:=by rw[xN]; exact h
 exact⟨_,Array.getElem?_eq_getElem this⟩
theorem abz(k:Nat):∀v ∈ (pw k),v.oneCell'=true:=by
 induction k with
 | zero=>intro v hv; simp[pw,uI]at hv; subst hv; rfl
 | succ k ih=>
   intro v hv;rcases Array.mem_or_eq_of_mem_setIfInBounds hv with h | h
   ·exact ih v h
   ·subst h; rfl
theorem Vz:∀w,(zeroValue 436).run prog w=.ok (.agg uI) w:=fun _=>by kernel_rfl
theorem Kr(w:World):
 Calls prog 399 #[] w fun e w'=>e=.returned (.agg (pw 255))/\Below w.heap.size w w':=by
 have hz:=Vz;go_enter func399,ntmps399;go_wp2_with fail;have h0:((w.alloc (.cells uI 436)).alloc (.cells uI 436)).heap[w.heap.size]? = some (.cells (pw 0) 436):=heap_alloc2_old _ _ _;have h1:((w.alloc (.cells uI 436)).alloc (.cells uI 436)).heap[w.heap.size+1]? = some (.cells (pw 0) 436):=heap_alloc2_new _ _ _;have h2:Below w.heap.size w ((w.alloc (.cells uI 436)).alloc (.cells uI 436)):=((zB _ _).alloc (zl _) _).alloc (by simp) _;generalize (w.alloc (.cells uI 436)).alloc (.cells uI 436)=w1 at h0 h1 h2 ⊢;clear hz
 go_loopw [2,3,4] (fun va vi vk wr=>∃k:Nat,k<=255/\va=.int .u8 (Gf.exp k:Nat)/\vk=.int .i64 k/\wr.heap[w.heap.size]? = some (.cells uI 436)/\wr.heap[w.heap.size+1]? = some (.cells (pw k) 436)/\Below w.heap.size w wr) (fun _ _ vk _=>255 - (RowKit.intOf vk).toNat)
 case atStart=>exact⟨0,by omega,rfl,rfl,h0,h1,h2⟩
 case round=>
  obtain⟨k,hk,rfl,rfl,g0,g1,g2⟩:=hrel;clear h0 h1 h2;have Hs:=zH (yG k);by_cases hlt:k<255
  ·obtain⟨v,hv⟩:=Ya k k hlt;have hc:wr.cell? ⟨w.heap.size+1,k,none⟩=some v:=by rw[cell_of_row wr _ k _ _ _ g1]; exact hv
   have hf:=frozen_of_row wr _ k _ _ g1;clear hv;have G0:=zH g0; have G1:=zH g1; clear g0 g1;go_wp2_with (go_at_call 369; refine(kR _ _ (Gf.vw k)).mono ?_; rintro e w' ⟨rfl,rfl⟩);go_roundw;case rel=>
    refine⟨k+1,by omega,by rw[Hs.out],by go_num,?_,?_,g2.setCell (by simp) _⟩
    ·rw[heap_setCell_other _ _ _ _ (by simp)]; exact G0.out
    ·exact heap_setCell_same _ _ _ _ _ _ G1.out
   case measure=>simp[RowKit.intOf]; omega
  ·obtain rfl:k=255:=by omega
   have G0:=zH g0; have G1:=zH g1; clear g0 g1;have hi:(prog.info? 436).map (·.size)=some (pw 255).size:=by rw[xN]; kernel_rfl
   have h1:(pw 255).all (·.oneCell')=true:=Array.all_eq_true_iff_forall_mem.2 (abz 255);go_wp2_with (first | (refine wpList_load_row rfl 436 _ rfl _ rfl 436 _ _ _ G1.out underlying436 rfl hi ?_) | (refine wpList_store_row rfl 436 _ _ rfl w.heap.size (pw 255) rfl rfl 436 _ G0.out hi (by simp[uI,xN]) h1 ?_));exact zr (v:=.agg (pw 255)) (results_cell_row rfl _ _ w.heap.size 436 (pw 255) (0,0) _ rfl (setRow_heap _ _ _ _ _ _ G0.out) underlying436 rfl hi) rfl ⟨rfl,Below.setRow g2 (zl _) _⟩
def TZ(a:Nat):Value:=.tuple #[.int .i64 ((if a=0 then 0 else Gf.log a:Nat):Int),.int .i64 (if a=0 then 1 else 0)]
theorem log_any(a:Nat)(w:World)(ha:a<256):
 Calls prog 370 #[.int .u8 a] w fun e w'=>e=.returned (TZ a)/\Below w.heap.size w w':=by
 go_enter func370,ntmps370;go_wp2_with fail;refine(Kr _).mono ?_;rintro e w1 ⟨rfl,hb⟩;generalize hP:pw 255=adF;have HP:=zH hP; clear hP;go_wp2_with fail
 go_loop [4,5,7] (fun _ _ vk=>∃k:Nat,k<=255/\vk=.int .i64 k/\Hid (∀i,i<k->Gf.exp i≠a)) (fun _ _ vk=>255 - (RowKit.intOf vk).toNat)
 case atStart=>exact⟨0,by omega,rfl,zH (fun i h=>by omega)⟩
 case round=>
  obtain⟨k,hk,rfl,hno⟩:=hrel;by_cases hlt:k<255
  ·have hg:Sem.run prog (Instr.index 436 (.agg adF) (.int .i64 k)) w1=.ok (.int .u8 (Gf.exp k:Nat)) w1:=
   AQ w1 underlying436 underlying5 rfl (by kernel_rfl) adF k hlt _ (by rw[<-HP.out]; exact aby 255 k hlt (by omega))
   have Hl:=zH (Gf.MX hlt);have Hz:=zH (Gf.FQ k);by_cases he:Gf.exp k=a
   ·have ht:(((Gf.exp k:Nat):Int) == (a:Int))=true:=by rw[he]; simp
    have He:=zH he; clear he;go_wp2_with fail;go_ret2;refine⟨?_,hb⟩;rw[<-He.out];simp[TZ,Hz.out,Hl.out]
   ·have ht:(((Gf.exp k:Nat):Int) == (a:Int))=false:=by rw[beq_eq_false_iff_ne]; omega
    have He:=zH he; clear he;go_wp2_with fail;go_round;case rel=>
     refine⟨k+1,by omega,by go_num,zH fun i hi=>?_⟩;by_cases e:i=k
     ·rw[e]; exact He.out
     ·exact hno.out i (by omega)
    case measure=>simp[RowKit.intOf]; omega
  ·obtain rfl:k=255:=by omega
   have h0:a=0:=by
    by_cases h0:a=0
    ·exact h0
    ·obtain⟨h1,h2⟩:=Gf.xE ha h0;exact(hno.out _ h1 h2).elim
   have H0:=zH h0; clear h0;go_wp2_with fail;go_ret2;refine⟨?_,hb⟩;rw[H0.out]; rfl
def invV(a:Nat):Value:=.tuple #[.int .u8 (Gf.inv a:Nat),.int .i64 (if a=0 then 1 else 0)]
theorem OZ:TZ 0=.tuple #[.int .i64 0,.int .i64 1]:=rfl
theorem XJ{a:Nat}(h:a≠0):TZ a=.tuple #[.int .i64 (Gf.log a:Nat),.int .i64 0]:=by simp[TZ,h]
theorem ML{a:Nat}(h:a≠0):invV a=.tuple #[.int .u8 (Gf.inv a:Nat),.int .i64 0]:=by simp[invV,h]
theorem SN(x n:Int)(w:World)(hx:x=n)(h1:-9223372036854775808<=n)(h2:n<=9223372036854775807):
 Calls prog 321 #[.int .i64 x] w fun e w'=>e=.returned (.int .u8 (Gf.exp (ex n):Nat))/\w=w':=by
 subst hx; exact W9 x w h1 h2
theorem Xz(a:Nat)(w:World)(ha:a<256):
 Calls prog 323 #[.int .u8 a] w fun e w'=>e=.returned (invV a)/\Below w.heap.size w w':=by
 by_cases h0:a=0
 ·subst h0;go_enter func323,ntmps323;go_wp2_with (go_at_call 370; refine(log_any 0 _ (by omega)).mono ?_; rintro e w1 ⟨rfl,hb⟩; rw[OZ]);go_ret2;exact⟨rfl,hb⟩
 ·obtain⟨h1,h2⟩:=Gf.xE ha h0;have H2:=zH h2; clear h2;have H0:=zH h0; clear h0;go_enter func323,ntmps323;go_wp2_with fail;refine(log_any a _ ha).mono ?_;rintro e w1 ⟨rfl,hb⟩;rw[XJ H0.out];go_wp2_with fail;refine(SN _ (-(Gf.log a:Nat)) _ rfl (by omega) (by omega)).mono ?_;rintro e w2 ⟨rfl,rfl⟩;go_wp2_with fail;go_ret2;refine⟨?_,hb⟩;rw[ML H0.out,Gf.inv,zi H0.out];have e:ex (-(Gf.log a:Nat))=(255 - Gf.log a) % 255:=by unfold ex; omega
  rw[e];rfl
theorem infoU8:(prog.info? 5).map (fun i=>(i.zero,i.size,i.bytes))=some (some (.int .u8 0),1,1):=by kernel_rfl
theorem Dx(x y:Int)(a b:UInt8)(w:World)(hx:x=a.toNat)(hy:y=b.toNat):
 Calls prog 324 #[.int .u8 x,.int .u8 y] w fun e w'=>e=.returned (B (G.mul a b))/\w=w':=
 (abp x y a.toNat b.toNat w hx hy (G.lt a) (G.lt b)).mono fun e w' ⟨h1,h2⟩=>⟨by rw[h1,<-G.toNat_mul],h2⟩
theorem GY(vp vq:Value)(p q:List UInt8)(w:World)(hp:Rd w vp p)(hq:Rd w vq q):
 Calls prog 320 #[vp,vq] w fun e w'=>∃v,e=.returned v/\w'.ownsRow w.heap.size 5 1 v (G.prod p q).length (bs (G.prod p q))/\Below w.heap.size w w':=by
 obtain⟨i0,hi,hz0,hz1,hz2⟩:=info_parts infoU8;obtain⟨hpl,⟨a,cap,rfl,rfl⟩ | ⟨bp,op,cp,rfl,hp0,hpc⟩⟩:=hp.cases
 ·obtain⟨aq,cq,rfl⟩:∃a c,vq=.slice a q.length c:=hq.form;go_enter func320,ntmps320;go_wp2_with fail;go_ret;rw[G.Az];exact⟨_,rfl,World.ownsRow_nil _ _ _ _,zB _ _⟩
 obtain⟨hql,⟨a,cap,rfl,rfl⟩ | ⟨bq,oq,cq,rfl,hq0,hqc⟩⟩:=hq.cases
 ·have hlp:0<p.length:=List.length_pos_iff.2 hp0;have hp1:((p.length:Int) == 0)=false:=by rw[beq_eq_false_iff_ne]; omega
  clear hpc;go_enter func320,ntmps320;go_wp2_with fail;go_ret;rw[G.zy];exact⟨_,rfl,World.ownsRow_nil _ _ _ _,zB _ _⟩
 have hlp:0<p.length:=List.length_pos_iff.2 hp0;have hlq:0<q.length:=List.length_pos_iff.2 hq0;have hp1:((p.length:Int) == 0)=false:=by rw[beq_eq_false_iff_ne]; omega
 have hq1:((q.length:Int) == 0)=false:=by rw[beq_eq_false_iff_ne]; omega
 have HP:=zH hpc; clear hpc;have HQ:=zH hqc; clear hqc;obtain⟨n,hn⟩:∃n:Nat,n=p.length+q.length - 1:=⟨_,rfl⟩;have hnb:n<=281474976702464:=by omega
 have hn1:n+1<=p.length+q.length:=by omega
 have hn2:p.length+q.length<=n+1:=by omega
 have Hn:Hid ((p.length:Int)+(q.length:Int) - 1=n):=zH (by omega);have Hm:=zH hn; clear hn;have hbp:bp<w.heap.size:=zc w _ (HP.out 0 hlp);have hbq:bq<w.heap.size:=zc w _ (HQ.out 0 hlq);go_enter func320,ntmps320;go_wp2_with (refine wpList_make_full _ rfl _ _ 65 rfl w.heap.size 5 i0 _ 1 underlying65 hi hz0 hz1 .i64 .i64 _ _ n rfl rfl Hn.out Hn.out (by rw[hz2]; omega) (by unfold maxLen; omega) (zl _) ?_; intro w1 hown1 F8);have hb1:Below w.heap.size w w1:=(zB _ _).grown F8 (zl _) (by simp);have TB:w1.ownsRow w.heap.size 5 1 (.slice (some ⟨w.heap.size,0,none⟩) n n) n (bs (G.eF p q 0)):=by
  have e:(madeCells (Value.int .u8 0).cells (n * 1)).toList=bs (G.eF p q 0):=by simp only[Value.cells,toList_madeCells_one,G.eF,nH,<-Hm.out,Nat.mul_one];rfl
  rw[<-e]; exact hown1
 clear hown1 F8
 go_loopw [27] (fun vk wr=>∃k:Nat,k<=p.length/\vk=.int .i64 k/\wr.ownsRow w.heap.size 5 1 (.slice (some ⟨w.heap.size,0,none⟩) n n) n (bs (G.eF p q k))/\Below w.heap.size w wr) (fun vk _=>p.length - (RowKit.intOf vk).toNat)
 case atStart=>exact⟨0,by omega,rfl,TB,hb1⟩
 case round=>
  clear TB hb1;obtain⟨k,hk,rfl,hown,hb⟩:=hrel;obtain⟨wo,rfl⟩:∃wo:World,wo=wr:=⟨_,rfl⟩;by_cases hlt:k<p.length
  ·have hcp:wo.cell? ⟨bp,op+k,none⟩=some (B (G.ix p k)):=by rw[hb.cell hbp]; exact HP.out k hlt
   go_wp2_with fail
   go_loopw [34] (fun vj wr=>∃j:Nat,j<=q.length/\vj=.int .i64 j/\wr.ownsRow w.heap.size 5 1 (.slice (some ⟨w.heap.size,0,none⟩) n n) n (bs (G.addRow k (G.ix p k) q j (G.eF p q k)))/\Below w.heap.size w wr) (fun vj _=>q.length - (RowKit.intOf vj).toNat)
   case atStart=>exact⟨0,by omega,rfl,hown,hb⟩
   case round=>
    clear hown hb hcp;obtain⟨j,hj,rfl,hown,hb⟩:=hrel;by_cases hlj:j<q.length
    ·have hcq:wr.cell? ⟨bq,oq+j,none⟩=some (B (G.ix q j)):=by rw[hb.cell hbq]; exact HQ.out j hlj
     have hcl:(G.addRow k (G.ix p k) q j (G.eF p q k)).length=n:=by rw[G.iy,G.iW,Hm.out]
     have hco:wr.cell? ⟨w.heap.size,k+j,none⟩=some (B (G.ix (G.addRow k (G.ix p k) q j (G.eF p q k)) (k+j))):=by rw[hown.cellAt _ (by omega),jK (by omega)]
     have hfo:=hown.frozenAt (k+j);have Hcl:=zH hcl; clear hcl;go_wp2_with fail;have e1:IntKind.i64.wrap ((k:Int)+(j:Int))=(k:Int)+(j:Int):=IntWalk.i64_in _ (by omega);have e2:(0:Int)<=(k:Int)+(j:Int):=by omega
     have e3:(k:Int)+(j:Int)<(n:Int):=by omega
     have e4:((k:Int)+(j:Int)).toNat=k+j:=by omega
     go_still_tail 11,(by kernel_rfl)
     still_call (FX (Dx _ _ (G.ix p k) (G.ix q j) _ rfl rfl))
     repeat still_step
     refine wpStill_nil ?_;clear e1 e2 e3 e4;change wpList _ _ _ _ _ wr.drew;go_wp2_with fail;go_roundw;case rel=>
      refine⟨j+1,by omega,by go_num,?_,(hb.drew).setCell (zl _) _⟩;have h:=hown.drew.stored (k+j) (B (G.ix (G.addRow k (G.ix p k) q j (G.eF p q k)) (k+j) ^^^ G.mul (G.ix p k) (G.ix q j)));rw[yx]at h;rw[YJ];exact h.1
     case measure=>simp[RowKit.intOf]; omega
    ·go_wp2_with fail;go_roundw;case rel=>
      refine⟨k+1,by omega,by go_num,?_,hb⟩;obtain rfl:j=q.length:=by omega
      exact hown
     case measure=>simp[RowKit.intOf]; omega
  ·go_wp2_with fail;go_ret;refine⟨_,rfl,?_,hb⟩;obtain rfl:k=p.length:=by omega
   have e:(G.prod p q).length=n:=by rw[G.wL p q hp0 hq0,Hm.out]
   rw[e,G.Nj hp0 hq0];exact hown
theorem sizeU8:(prog.info? 5).map (·.size)=some 1:=by kernel_rfl
def lu(l:List UInt8):List UInt8:=l.dropWhile (· == 0)
theorem Qp(l:List UInt8)(k:Nat)(h:k<l.length)(h0:G.ix l k=0):lu (l.drop k)=lu (l.drop (k+1)):=by
 have e:l.drop k=G.ix l k :: l.drop (k+1):=by rw[List.drop_eq_getElem_cons h]; simp[G.ix,h]
 rw[e,h0]; simp[lu]
theorem Ey(l:List UInt8)(k:Nat)(h:k<l.length)(h0:G.ix l k≠0):lu (l.drop k)=l.drop k:=by
 have e:l.drop k=G.ix l k :: l.drop (k+1):=by rw[List.drop_eq_getElem_cons h]; simp[G.ix,h]
 rw[e]; simp[lu,h0]
theorem Vd(vp:Value)(p:List UInt8)(w:World)(hp:Rd w vp p):
 Calls prog 322 #[vp] w fun e w'=>∃v,e=.returned v/\Rd w v (lu p)/\w=w':=by
 go_enter func322,ntmps322;go_wp2_with fail
 go_loop [0] (fun vs=>∃l:List UInt8,Rd w vs l/\lu l=lu p) (fun vs=>slen vs)
 case atStart=>exact⟨p,hp,rfl⟩
 case round=>
  obtain⟨l,hl,ht⟩:=hrel;have Ht:=zH ht; clear ht;have hl':=hl;obtain⟨h0,a,cap,bp,op,rfl,hcap,hcell⟩:=hl;have HC:=zH hcell; clear hcell;by_cases hlt:0<l.length
  ·obtain⟨ha,hcp⟩:=HC.out 0 hlt;have hix:=ku (P:=prog) underlying65 sizeU8 (cap:=cap) ha hlt 0 rfl w;have Ha:=zH ha; clear ha;simp only[Nat.add_zero]at hcp hix;obtain⟨v',hv',_,hcut,_⟩:=Nz (P:=prog) underlying65 sizeU8 hl' 1 l.length hlt (zl _);have hcut:=hcut rfl 1 w rfl;rw[List.take_length]at hv';by_cases hz:G.ix l 0=0
   ·have hz1:(((G.ix l 0).toNat:Int) == 0)=true:=by rw[hz]; rfl
    have Hz:=zH hz; clear hz;have Hv:=zH hv'; clear hv';go_wp2_with fail;go_round;case rel=>
     have e:=Qp l 0 hlt Hz.out;rw[List.drop_zero]at e;exact⟨_,Hv.out,by rw[<-Ht.out,e]⟩
    case measure=>
     obtain⟨a',c',e'⟩:=Hv.out.form;rw[e'];simp[slen];omega
   ·have hz1:(((G.ix l 0).toNat:Int) == 0)=false:=by rw[beq_eq_false_iff_ne]; intro e; exact hz (G.ext (by simpa using e))
    have Hz:=zH hz; clear hz;go_wp2_with fail;go_ret;refine⟨_,rfl,?_,rfl⟩;have e:=Ey l 0 hlt Hz.out;rw[List.drop_zero]at e;rw[<-Ht.out,e];exact hl'
  ·go_wp2_with fail;go_ret;refine⟨_,rfl,?_,rfl⟩;obtain rfl:l = []:=List.eq_nil_of_length_eq_zero (by omega);rw[<-Ht.out];exact hl'
theorem Xg(x:Int)(a:UInt8)(w:World)(hx:x=a.toNat)(h0:a≠0):
 Calls prog 323 #[.int .u8 x] w fun e w'=>e=.returned (.tuple #[B (G.inv a),.int .i64 0])/\Below w.heap.size w w':=by
 subst hx;refine(Xz a.toNat w (G.lt a)).mono fun e w' ⟨h1,h2⟩=>⟨?_,h2⟩
 rw[h1,ML (G.toNat_ne h0),B,G.Qo]
theorem KZ(q:List UInt8)(h:G.ix q 0≠0):lu q=q:=by
 cases q with
 | nil=>rfl
 | cons c q=>simp[lu,G.ix]at h ⊢; simp[h]
theorem KY(l:List UInt8)(h:lu l≠[]):G.ix (lu l) 0≠0:=by
 induction l with
 | nil=>exact(h rfl).elim
 | cons c l ih=>
   unfold lu at h ⊢;rw[List.dropWhile_cons]at h ⊢;split
   ·rename_i hc
    rw[zj hc]at h;exact ih h
   ·rename_i hc
    simpa[G.ix]using hc
theorem Ee(vp vq:Value)(p q0 q:List UInt8)(w:World)(hp:Rd w vp p)(hq:Rd w vq q0)(h0:lu q0=q)(hne:q≠[])(hps:p.length<=1073741824)(hqs:q.length<=1073741824):
 Calls prog 252 #[vp,vq] w fun e w'=>∃v,e=.returned (.tuple #[v,.int .i64 0])/\w'.ownsRow w.heap.size 5 1 v (G.rem p q).length (bs (G.rem p q))/\Below w.heap.size w w':=by
 obtain⟨i0,hi,hz0,hz1,hz2⟩:=info_parts infoU8;have H0:=zH h0; clear h0;have hlq:0<q.length:=List.length_pos_iff.2 hne;have hq1:((q.length:Int) == 0)=false:=by rw[beq_eq_false_iff_ne]; omega
 go_enter func252,ntmps252;go_wp2_with fail;refine(Vd vq q0 _ hq).mono ?_;rintro e w1 ⟨v,rfl,hv,rfl⟩;rw[H0.out]at hv;clear hq;obtain⟨hql,⟨a,cap,rfl,rfl⟩ | ⟨bq,oq,cq,rfl,hq0,hqc⟩⟩:=hv.cases
 ·exact(hne rfl).elim
 have HQ:=zH hqc; clear hqc;have hc0:=HQ.out 0 hlq;simp only[Nat.add_zero]at hc0;have hbq:bq<w.heap.size:=zc w _ hc0;have hn0:G.ix q 0≠0:=by rw[<-H0.out]; exact KY q0 (by rw[H0.out]; exact hne)
 have Hn0:=zH hn0; clear hn0;have hp0:=hp;obtain⟨ap,cp,rfl⟩:=hp.form;go_wp2_with fail;refine(Xg _ (G.ix q 0) _ rfl Hn0.out).mono ?_;rintro e w1 ⟨rfl,hb1⟩;obtain⟨iv,hiv⟩:∃iv,iv=G.inv (G.ix q 0):=⟨_,rfl⟩;rw[<-hiv];have Hiv:=zH hiv; clear hiv;obtain⟨m,hm⟩:∃m:Nat,m=q.length - 1:=⟨_,rfl⟩;have hm1:m+1<=q.length:=by omega
 have hm2:q.length<=m+1:=by omega
 have Hm:Hid ((q.length:Int) - 1=m):=zH (by omega);have Hm':=zH hm; clear hm;have OD:=hb1.size;go_wp2_with (first | (refine lC (base:=w.heap.size) rfl _ _ rfl underlying65 infoU8 m rfl rfl Hm.out Hm.out (by omega) OD ?_; intro w2 hown2 ac8; have hb2:Below w.heap.size w w2:=hb1.grown ac8 OD (by simp); have hp2:=hp0.keep hb2) | (refine lT rfl _ _ rfl underlying65 infoU8 hown2 rfl hp2 rfl (by omega) hb2.size ?_; intro v3 w3 hown3 OG hnil; obtain⟨g,cap,rfl,hg1,hg2,hcap⟩:=Um hown3 (fun h=>by have:=hnil.1 h; simp at this); have hb3:Below w.heap.size w w3:=hb2.grown OG hb2.size (by simp[Value.ownBlock]; exact OD); clear OG hnil hown2 ac8));rw[<-G.pad]at hown3;obtain⟨n,hn⟩:∃n:Nat,n=m+p.length:=⟨_,rfl⟩;rw[<-hn]at hown3 hcap ⊢;have hn1:n<=m+p.length:=by omega
 have hn2:m+p.length<=n:=by omega
 have hN:Hid ((m:Int)+(p.length:Int) - ((q.length:Int) - 1)=p.length):=zH (by omega);have hN2:Hid ((n:Int) - ((q.length:Int) - 1)=p.length):=zH (by omega);clear hn;rw[hN.out]
 go_loopw [37] (fun vk wr=>∃k:Nat,k<=p.length/\vk=.int .i64 k/\wr.ownsRow w.heap.size 5 1 (.slice (some ⟨g,0,none⟩) n cap) n (bs (G.fZ q iv k (G.pad m p)))/\Below w.heap.size w wr) (fun vk _=>p.length - (RowKit.intOf vk).toNat)
 case atStart=>exact⟨0,by omega,rfl,hown3,hb3⟩
 case round=>
  clear hown3 hb3 hg2;obtain⟨k,hk,rfl,hown,hb⟩:=hrel;obtain⟨wo,rfl⟩:∃wo:World,wo=wr:=⟨_,rfl⟩;have hcl:(G.fZ q iv k (G.pad m p)).length=n:=by rw[G.oV,G.zg]; omega
  by_cases hlt:k<p.length
  ·have hcr:wo.cell? ⟨g,k,none⟩=some (B (G.ix (G.fZ q iv k (G.pad m p)) k)):=by rw[hown.cellAt _ (by omega),jK (by omega)]
   have Hcl:=zH hcl; clear hcl;go_wp2_with (go_at_call 324; refine(Dx _ _ (G.ix (G.fZ q iv k (G.pad m p)) k) iv _ rfl rfl).mono ?_; rintro e w' ⟨rfl,rfl⟩);obtain⟨f,hf⟩:∃f,f=G.mul (G.ix (G.fZ q iv k (G.pad m p)) k) iv:=⟨_,rfl⟩;rw[<-hf];have Hf:=zH hf; clear hf hcr
   go_loopw [48] (fun vj wr=>∃j:Nat,j<=q.length/\vj=.int .i64 j/\wr.ownsRow w.heap.size 5 1 (.slice (some ⟨g,0,none⟩) n cap) n (bs (G.addRow k f q j (G.fZ q iv k (G.pad m p))))/\Below w.heap.size w wr) (fun vj _=>q.length - (RowKit.intOf vj).toNat)
   case atStart=>exact⟨0,by omega,rfl,hown,hb⟩
   case round=>
    clear hown hb;obtain⟨j,hj,rfl,hown,hb⟩:=hrel;obtain⟨r,hr⟩:∃r,r=G.addRow k f q j (G.fZ q iv k (G.pad m p)):=⟨_,rfl⟩;rw[<-hr]at hown;have hrl:r.length=n:=by rw[hr,G.iy,Hcl.out]
    have Hr:=zH hr; clear hr;by_cases hlj:j<q.length
    ·have hcq:wr.cell? ⟨bq,oq+j,none⟩=some (B (G.ix q j)):=by rw[hb.cell hbq]; exact HQ.out j hlj
     have hco:wr.cell? ⟨g,k+j,none⟩=some (B (G.ix r (k+j))):=by rw[hown.cellAt _ (by omega),jK (by omega)]
     have hfo:=hown.frozenAt (k+j);have Hrl:=zH hrl; clear hrl;go_wp2_with fail;have e1:IntKind.i64.wrap ((k:Int)+(j:Int))=(k:Int)+(j:Int):=IntWalk.i64_in _ (by omega);have e2:(0:Int)<=(k:Int)+(j:Int):=by omega
     have e3:(k:Int)+(j:Int)<(n:Int):=by omega
     have e4:((k:Int)+(j:Int)).toNat=k+j:=by omega
     go_still_tail 11,(by kernel_rfl)
     still_call (FX (Dx _ _ f (G.ix q j) _ rfl rfl))
     repeat still_step
     refine wpStill_nil ?_;clear e1 e2 e3 e4;change wpList _ _ _ _ _ wr.drew;go_wp2_with fail;go_roundw;case rel=>
      refine⟨j+1,by omega,by go_num,?_,(hb.drew).setCell hg1 _⟩;have h:=hown.drew.stored (k+j) (B (G.ix r (k+j) ^^^ G.mul f (G.ix q j)));rw[yx]at h;rw[YJ,G.addRow,<-Hr.out];exact h.1
     case measure=>simp[RowKit.intOf]; omega
    ·have Hrl:=zH hrl; clear hrl;go_wp2_with fail;go_roundw;case rel=>
      refine⟨k+1,by omega,by go_num,?_,hb⟩;obtain rfl:j=q.length:=by omega
      rw[G.fZ,<-Hf.out,<-Hr.out];exact hown
     case measure=>simp[RowKit.intOf]; omega
  ·obtain rfl:k=p.length:=by omega
   obtain⟨r,hr⟩:∃r,r=G.fZ q iv p.length (G.pad m p):=⟨_,rfl⟩;rw[<-hr]at hown hcl;have hrr:Rd wo (.slice (some ⟨g,0,none⟩) n cap) r:=by rw[<-hcl]at hown ⊢;exact Rd.bM hown (by omega)
   have Hr:=zH hr; clear hr;obtain⟨vc,QP,_,hcut,_⟩:=Nz (P:=prog) underlying65 sizeU8 hrr p.length r.length (by omega) (zl _);rw[List.take_length]at QP;have hc1:=fun w'=>hcut rfl ((n:Int) - ((q.length:Int) - 1)) w' hN2.out
   have hc2:=fun w'=>hcut rfl (p.length:Int) w' rfl
   clear hcut hrr;have Hcl:=zH hcl; clear hcl;have hbs:=hb.size;have hoe:(wo.alloc (.cells #[] 5)).ownsRow w.heap.size 5 1 (.slice (some ⟨wo.heap.size,0,none⟩) 0 0) 0 (bs []):=World.ownsRow_lit wo #[] 0 hbs (by simp) (by simp);have hve:Rd (wo.alloc (.cells #[] 5)) vc (r.drop p.length):=QP.keep ((zB _ _).alloc (zl _) _);have hbe:Below w.heap.size w (wo.alloc (.cells #[] 5)):=hb.alloc hbs _;have hl:(r.drop p.length).length<=140737488351232:=QP.1;clear QP;go_wp2_with (refine lT rfl _ _ rfl underlying65 infoU8 hoe rfl hve rfl (by omega) hbe.size ?_; intro v4 w4 hown4 ae8 _);go_ret2;have e:r.drop p.length=G.rem p q:=by rw[Hr.out,Hiv.out,Hm'.out]; rfl
   rw[List.nil_append,Nat.zero_add,e]at hown4;exact⟨_,rfl,hown4,hbe.grown ae8 hbe.size (by simp[Value.ownBlock]; exact hbs)⟩
end
end Go.Proofs.YtfnehkmhcmkhjaaGreat
