/- Parts:XTkV -/
import Derived.Test.YtfnehkmhcmkhjaaGreatDvAl
import Derived.Test.YtfnehkmhcmkhjaaGreatDv04
import Derived.Deep.CutBlock
import Derived.Deep.DeepCutAuto
set_option maxRecDepth 100000
set_option maxHeartbeats 8000000
set_option linter.unusedVariables false
namespace Go.Proofs.YtfnehkmhcmkhjaaGreat
open Tryz
section
open Go.RowKit
namespace T
def okX(cap cl:Int)(i:Nat)(x:az)(e s:Int):Prop:=
 x.num=i+1/\x.bP=(if 0<i/\x.bP=s+1 then s+1 else s)/\x.bP<=cl+1/\x.bP<=16/\
 x.st=(if 0<i/\x.bP=s+1 then e+16 else e)/\1<=x.len/\x.len<=cap - x.st/\
 0<=x.pk/\x.pk<=1024/\x.st<=x.nx/\x.nx<=x.st+x.len/\
 (0<x.pk->x.len.tmod x.pk=0/\(x.nx - x.st).tmod x.pk=0)/\
 (x.cZ=2/\x.nx=x.st+x.len\/x.cZ=0/\x.nx=x.st\/x.cZ=1/\x.nx≠x.st)/\
 (x.bP<=cl->x.cZ=2)
theorem abu(cap cl:Int)(l:List az)(i:Nat):okR cap cl l i↔okX cap cl i (tr l i) (eB l i) (sB l i):=Iff.rfl
theorem okR.bds{cap cl:Int}{l:List az}{n:Nat}(hc:cap<=449849)(h:∀i,i<n->okR cap cl l i):0<=eB l n/\eB l n<=449849/\1<=sB l n/\sB l n<=16:=by
 have h1:=okR.ends h n (zl _);have h2:=okR.mono h 0 n (by omega);rw[Nat.zero_add,uw]at h2;cases n with
 | zero=>rw[Dh,uw]; omega
 | succ n=>
   obtain⟨_,_,_,g4,_,g6,g7,_⟩:=h n (by omega);rw[lK]at h1 ⊢;rw[eQ]at h2 ⊢;omega
def Zp(cap cl:Int)(i:Nat)(x:az)(a s:Int):Prop:=
 x.num=i+1/\x.bP=s/\s<=cl+1/\s<=16/\x.st=a/\1<=x.len/\x.len<=cap - a/\0<=x.pk/\x.pk<=1024/\a<=x.nx/\x.nx<=a+x.len/\
 (0<x.pk->x.len % x.pk=0/\(x.nx - a) % x.pk=0)/\(x.cZ=2/\x.nx=a+x.len\/x.cZ=0/\x.nx=a\/x.cZ=1/\x.nx≠a)/\(s<=cl->x.cZ=2)
theorem Ug{cap cl:Int}{i:Nat}{x:az}{e s a s':Int}(h1:(if 0<i/\x.bP=s+1 then s+1 else s)=s')(h2:(if 0<i/\x.bP=s+1 then e+16 else e)=a):okX cap cl i x e s↔Zp cap cl i x a s':=by
 unfold okX Zp;rw[h1,h2];constructor
 ·rintro⟨g1,g2,g3,g4,g5,g6,g7,g8,g9,g10,g11,g12,g13,g14⟩;subst g2 g5;refine⟨g1,rfl,g3,g4,rfl,g6,g7,g8,g9,g10,g11,fun h=>?_,g13,g14⟩;have:=g12 h;rwa[Int.tmod_eq_emod_of_nonneg (by omega),Int.tmod_eq_emod_of_nonneg (by omega)]at this
 ·rintro⟨g1,g2,g3,g4,g5,g6,g7,g8,g9,g10,g11,g12,g13,g14⟩;subst g2 g5;refine⟨g1,rfl,g3,g4,rfl,g6,g7,g8,g9,g10,g11,fun h=>?_,g13,g14⟩;have:=g12 h;rwa[Int.tmod_eq_emod_of_nonneg (by omega),Int.tmod_eq_emod_of_nonneg (by omega)]
end T
def qj(cap cl:Int)(fin:Bool)(l:List T.az)(w:World)(e:Ending)(w':World):Prop:=e=.returned (.bool (T.aF cap cl fin l))/\Below w.heap.size w w'
theorem zM(cap cl:Int)(fin:Bool)(sv:Value)(l:List T.az)(w:World)(hr:aW w sv l)(hb:¬ (1<=cap/\cap<=449849/\l.length<=99/\0<=cl/\cl<=16))(hlen:l.length<=281474976710656):
 Calls prog 130 #[.int .i64 cap,.agg #[.int .i64 cl,.bool fin,sv]] w (qj cap cl fin l w):=by
 have hF:T.aF cap cl fin l=false:=T.bJ.2 fun h=>hb ⟨h.1,h.2.1,h.2.2.1,h.2.2.2.1,h.2.2.2.2.1⟩
 have HF:=zH hF;clear hF;obtain⟨a,c,rfl,hac⟩:=hr.form;by_cases hcap:1<=cap/\cap<=449849
 ·go_enter func130,ntmps130;have hd:decide (1<=cap/\cap<=449849)=true:=by simpa using hcap
  go_wp2_with (refine(oP cap _).mono ?_; rintro e w' ⟨rfl,rfl⟩; rw[hd]);all_goals
   go_ret;exact⟨fQ HF.out.symm,(zB _ _).alloc (zl _) _⟩
 ·go_enter func130,ntmps130;have hd:decide (1<=cap/\cap<=449849)=false:=by simpa using hcap
  go_wp2_with (refine(oP cap _).mono ?_; rintro e w' ⟨rfl,rfl⟩; rw[hd]);all_goals
   go_ret;exact⟨fQ HF.out.symm,(zB _ _).alloc (zl _) _⟩
theorem PZ(cap cl:Int)(fin:Bool)(sv:Value)(l:List T.az)(w:World)(hr:aW w sv l)(hf:nC l)(h1:1<=cap)(h2:cap<=449849)(h3:l.length<=99)(h4:0<=cl)(h5:cl<=16):
 Calls prog 130 #[.int .i64 cap,.agg #[.int .i64 cl,.bool fin,sv]] w (qj cap cl fin l w):=by
 obtain⟨a,c,b,off,rfl,hac,hcell⟩:=hr;have HC:=zH hcell; clear hcell;have Ak:=zH hf; clear hf;have hd:decide (1<=cap/\cap<=449849)=true:=by simp; omega
 go_enter func130,ntmps130;go_wp2_with (refine(oP cap _).mono ?_; rintro e w' ⟨rfl,rfl⟩; rw[hd]);clear hd
 go_loopw [5,6,7] (fun ve vs vk wr=>∃(k:Nat)(e s:Int),k<=l.length/\vk=.int .i64 k/\ve=.int .i64 e/\vs=.int .i64 s/\Hid (e=T.eB l k)/\Hid (s=T.sB l k)/\Hid (∀i,i<k->T.okR cap cl l i)/\
  Below (w.heap.size+1) (w.alloc (.cells #[.int .i64 cl,.bool fin,.slice a l.length c] 37)) wr) (fun _ _ vk _=>l.length - (RowKit.intOf vk).toNat)
 case atStart=>exact⟨0,0,1,by omega,rfl,rfl,rfl,zH rfl,zH rfl,zH fun i hi=>by omega,by simpa using zB _ _⟩
 case round=>
  obtain⟨k,e,s,hk,rfl,rfl,rfl,HE,HS,HO,hb⟩:=hrel;have ht0:wr.cell? ⟨w.heap.size,0,none⟩=some (.int .i64 cl):=(hb.cell (p:=⟨w.heap.size,0,none⟩) (by simp)).trans (by simp[go_sem]);have ht1:wr.cell? ⟨w.heap.size,1,none⟩=some (.bool fin):=(hb.cell (p:=⟨w.heap.size,1,none⟩) (by simp)).trans (by simp[go_sem]);have ht2:wr.cell? ⟨w.heap.size,2,none⟩=some (.slice a l.length c):=(hb.cell (p:=⟨w.heap.size,2,none⟩) (by simp)).trans (by simp[go_sem]);have hsz:w.heap.size<wr.heap.size:=by have:=hb.size; simp at this; omega
  have hb0:Below w.heap.size w wr:=((zB _ _).alloc (zl _) _).trans (hb.mono (by omega));obtain⟨be1,be2,be3,be4⟩:=T.okR.bds h2 HO.out;rw[<-HE.out]at be1 be2;rw[<-HS.out]at be3 be4;by_cases hlt:k<l.length
  ·obtain⟨ha,hrange⟩:=HC.out k hlt;obtain⟨IA,H7,oz,oC,AU,IB,IC⟩:=Ak.out.2 k hlt;unfold sm at IA H7 oz oC AU IB IC;have hV:T.aQ cap cl fin l->T.okX cap cl k (T.tr l k) e s:=fun h=>by rw[HE.out,HS.out]; exact h.2.2.2.2.2.1 k hlt
   have hW:T.okX cap cl k (T.tr l k) e s->∀i,i<k+1->T.okR cap cl l i:=fun h i hi=>by
    by_cases e1:i<k
    ·exact HO.out i e1
    ·obtain rfl:i=k:=by omega
     rw[T.abu,<-HE.out,<-HS.out]; exact h
   have hN:T.eB l (k+1)=(T.tr l k).st+(T.tr l k).len:=T.lK l k;have hN2:T.sB l (k+1)=(T.tr l k).bP:=T.eQ l k;obtain⟨x,hx⟩:∃x,x=T.tr l k:=⟨_,rfl⟩;rw[<-hx]at hV hW hN hN2 IA H7 oz oC AU IB IC hrange;have HV:=zH hV; have HW:=zH hW; have HN:=zH hN; have VC:=zH hN2;clear hV hW hN hN2 hx;have hix:=fun w'=>aH underlying35 sizeTrack (cap:=c) ha hlt _ rfl w'
   have hrg:wr.rangeAt b (off+k * 7) (jy x):=fun j u hu=>(hb.cell (p:=⟨b,off+k * 7+j,none⟩) (by
    have:=zc w _ (hrange j u hu); simp only at this ⊢; omega)).trans (by
    have:=zc w _ (hrange j u hu);rw[World.cell?_alloc_lt _ _ _ this]; exact hrange j u hu)
   clear hrange;have Ha:=zH ha; clear ha;have hc0:wr.cell? ⟨b,off+k * 7,none⟩=some (.int .i64 x.num):=hrg 0 _ rfl;have hc1:wr.cell? ⟨b,off+k * 7+1,none⟩=some (.int .i64 x.bP):=hrg 1 _ rfl;have hc2:wr.cell? ⟨b,off+k * 7+2,none⟩=some (.int .i64 x.st):=hrg 2 _ rfl;have hc3:wr.cell? ⟨b,off+k * 7+3,none⟩=some (.int .i64 x.len):=hrg 3 _ rfl;have hc4:wr.cell? ⟨b,off+k * 7+4,none⟩=some (.int .i64 x.nx):=hrg 4 _ rfl;have hc5:wr.cell? ⟨b,off+k * 7+5,none⟩=some (.int .i64 x.cZ):=hrg 5 _ rfl;have hc6:wr.cell? ⟨b,off+k * 7+6,none⟩=some (.int .i64 x.pk):=hrg 6 _ rfl;clear hrg;by_cases hg:0<k/\x.bP=s+1
   ·as_aux_lemma=>
    have HM:=zH (T.Ug (cap:=cap) (cl:=cl) (e:=e) (zj hg) (zj hg));obtain⟨hg1,hg2⟩:=hg;have hd1:decide (0<(k:Int))=true:=by rw[decide_eq_true_eq]; omega
    have hd2:((x.bP:Int) == s+1)=true:=by rw[beq_iff_eq]; exact hg2
    clear hg2;go_wp2_with fail;all_goals first
     | (go_ret
        refine⟨fQ (Eq.symm (T.bJ.2 fun hv=>?_)),hb0.alloc (by omega) _⟩;have ho:=HM.out.1 (HV.out hv);try simp only[beq_iff_eq,bne_iff_ne,beq_eq_false_iff_ne,bne_eq_false_iff_eq,ne_eq]at *
        unfold T.Zp at ho;omega)
     | (go_roundw
        case rel=>
         try simp only[beq_iff_eq,beq_eq_false_iff_ne,bne_eq_false_iff_eq,ne_eq]at *
         refine⟨k+1,_,_,by omega,by go_num,rfl,rfl,zH (by rw[HN.out]; omega),zH (by rw[VC.out]; omega),zH (HW.out (HM.out.2 (by unfold T.Zp; omega))),hb.alloc (by omega) _⟩
        case measure=>simp[RowKit.intOf]; omega)
   ·have HM:=zH (T.Ug (cap:=cap) (cl:=cl) (e:=e) (zi hg) (zi hg));by_cases hg1:0<k
    ·as_aux_lemma=>
     have hd1:decide (0<(k:Int))=true:=by rw[decide_eq_true_eq]; omega
     have hd2:((x.bP:Int) == s+1)=false:=by rw[beq_eq_false_iff_ne]; exact fun h=>hg ⟨hg1,h⟩
     clear hg;go_wp2_with fail;all_goals first
      | (go_ret
         refine⟨fQ (Eq.symm (T.bJ.2 fun hv=>?_)),hb0.alloc (by omega) _⟩;have ho:=HM.out.1 (HV.out hv);try simp only[beq_iff_eq,bne_iff_ne,beq_eq_false_iff_ne,bne_eq_false_iff_eq,ne_eq]at *
         unfold T.Zp at ho;omega)
      | (go_roundw
         case rel=>
          try simp only[beq_iff_eq,beq_eq_false_iff_ne,bne_eq_false_iff_eq,ne_eq]at *
          refine⟨k+1,_,_,by omega,by go_num,rfl,rfl,zH (by rw[HN.out]; omega),zH (by rw[VC.out]; omega),zH (HW.out (HM.out.2 (by unfold T.Zp; omega))),hb.alloc (by omega) _⟩
         case measure=>simp[RowKit.intOf]; omega)
    ·as_aux_lemma=>
     have hd1:decide (0<(k:Int))=false:=by rw[decide_eq_false_iff_not]; omega
     clear hg;go_wp2_with fail;all_goals first
      | (go_ret
         refine⟨fQ (Eq.symm (T.bJ.2 fun hv=>?_)),hb0.alloc (by omega) _⟩;have ho:=HM.out.1 (HV.out hv);try simp only[beq_iff_eq,bne_iff_ne,beq_eq_false_iff_ne,bne_eq_false_iff_eq,ne_eq]at *
         unfold T.Zp at ho;omega)
      | (go_roundw
         case rel=>
          try simp only[beq_iff_eq,beq_eq_false_iff_ne,bne_eq_false_iff_eq,ne_eq]at *
          refine⟨k+1,_,_,by omega,by go_num,rfl,rfl,zH (by rw[HN.out]; omega),zH (by rw[VC.out]; omega),zH (HW.out (HM.out.2 (by unfold T.Zp; omega))),hb.alloc (by omega) _⟩
         case measure=>simp[RowKit.intOf]; omega)
  ·obtain rfl:k=l.length:=by omega
   have hE:T.aF cap cl fin l=(decide (cl<=if 0<l.length then s else 0) && (!fin || (decide (1<=cl) && decide ((if 0<l.length then s else 0)=cl)))):=by
    rw[Bool.eq_iff_iff,T.ay];have h6:=HO.out;unfold T.aQ;rw[<-HS.out];simp only[Bool.and_eq_true,Bool.or_eq_true,decide_eq_true_eq,Bool.not_eq_true'];constructor
    ·rintro⟨_,_,_,_,_,_,g7,g8⟩;refine⟨g7,?_⟩;cases fin
     ·exact .inl rfl
     ·exact .inr (g8 rfl)
    ·rintro⟨g7,g8⟩;refine⟨h1,h2,h3,h4,h5,h6,g7,fun hf=>?_⟩;rcases g8 with g8 | g8
     ·rw[hf]at g8; cases g8
     ·exact g8
   by_cases hn:0<l.length
   ·have hd1:decide (0<l.length)=true:=zt hn;rw[zj hn]at hE;have HEq:=zH hE; clear hE hk hlt;cases fin;all_goals
     go_wp2_with fail;all_goals
      go_ret;refine⟨fQ ?_,hb0⟩;rw[HEq.out];try simp only[beq_iff_eq,bne_iff_ne,beq_eq_false_iff_ne,bne_eq_false_iff_eq,ne_eq]at *
      rw[Bool.eq_iff_iff];simp;try omega
   ·have hd1:decide (0<l.length)=false:=zf hn;rw[zi hn]at hE;have HEq:=zH hE; clear hE hk hlt;cases fin;all_goals
     go_wp2_with fail;all_goals
      go_ret;refine⟨fQ ?_,hb0⟩;rw[HEq.out];try simp only[beq_iff_eq,bne_iff_ne,beq_eq_false_iff_ne,bne_eq_false_iff_eq,ne_eq]at *
      rw[Bool.eq_iff_iff];simp;try omega
end
end Go.Proofs.YtfnehkmhcmkhjaaGreat
