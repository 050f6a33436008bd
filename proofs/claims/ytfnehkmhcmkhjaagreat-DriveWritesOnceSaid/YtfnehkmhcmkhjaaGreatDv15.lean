/- Parts:XAp XRin XQt XEn4 XEn5 XEn6 XTkC -/
import Derived.Test.YtfnehkmhcmkhjaaGreatDvAl
import Derived.Test.YtfnehkmhcmkhjaaGreatDv11
import Derived.OrdersIn
import Derived.Test.YtfnehkmhcmkhjaaGreatDv08
import Derived.Test.YtfnehkmhcmkhjaaGreatDv10
import Derived.Deep.CutBlock
import Derived.Deep.DeepCutAuto
set_option maxRecDepth 100000
set_option maxHeartbeats 8000000
set_option linter.unusedVariables false
namespace Go.Proofs.YtfnehkmhcmkhjaaGreat
open Tryz
section
open Go.RowKit
def Q7(h:Nat)(v v':Value):Prop:=∀k,v'.ownBlock=some k->v.ownBlock=some k\/h<=k
theorem Yi{P:Program}{t ty e:TypeId}{i:TypeInfo}{z:Value}{size bytes base:Nat}(ht:P.underlying t=some (.slice e))(hi:P.info? e=some i)(hz:i.zero=some z)(hsize:i.size=size)(hby:i.bytes=bytes)(hzs:z.cells.size=size)(hsz:0<size)
 {w:World}{v:Value}{n:Nat}{xs:List Value}(hown:w.ownsRow base e size v n xs){a:Addr}{m c:Nat}{news:List Value}(hm:0<m)(hl:news.length=m * size)(hnews:∀j u,news[j]? = some u->w.cell? (a.add j)=some u)(h1:∀u ∈ news,u.oneCell'=true)
 (h63:n+m<=maxLen)(hbytes:(n+m) * bytes<=140737488355328)(hbase:base<=w.heap.size):
 ∃v' w',(Builtin.append_ #[t,t] ty #[v,.slice (some a) m c]).run P w=.ok v' w'/\w'.ownsRow base e size v' (n+m) (xs++news)/\w.grownBy w' v.ownBlock/\Q7 w.heap.size v v':=by
 obtain⟨v',w',r1,r2,r3,_⟩:=run_append_own (P:=P) w base t ty e i z size bytes ht hi hz hsize hby hzs hsz v n xs hown a m c news hl hnews h1 h63 hbytes hbase;refine⟨v',w',r1,r2,r3,?_⟩;unfold maxLen at h63;subst hsize hby;rcases hown.2 with ⟨rfl,rfl⟩ | ⟨g,cap,cur,rfl,_,hg,_,_,hcs,_⟩
 ·have h9:=run_append_nil (P:=P) w t ty e i z ht hi hz a m c news hl hnews hm (by omega) (by simp only[Nat.zero_add]at hbytes; omega);rw[r1]at h9;injection h9 with e1 e2
  subst e1;intro k hk;simp only[Value.ownBlock,Option.some.injEq]at hk;exact .inr (by omega)
 ·by_cases hroom:n+m<=cap
  ·have hfit:n * i.size+news.length<=cur.size:=by rw[hl,hcs,<-Nat.add_mul]; exact Nat.mul_le_mul_right _ hroom
   have h9:=run_append_room (P:=P) w t ty e i ht hi g n cap cur hg a m c news hl hnews h1 hroom hfit;rw[r1]at h9;injection h9 with e1 e2
   subst e1;intro k hk;simp only[Value.ownBlock]at hk ⊢;exact .inl hk
  ·have h9:=run_append_grow (P:=P) w t ty e i z ht hi hz ⟨g,0,none⟩ n cap xs hown.1 (hown.cells (g:=g) rfl) a m c news hl hnews (by omega) (by omega) (growslice_fits (by omega) hbytes);rw[r1]at h9;injection h9 with e1 e2
   subst e1;intro k hk;simp only[Value.ownBlock,Option.some.injEq]at hk;exact .inr (by omega)
theorem Ll{P:Program}{ops:Array Oper}{rest:List Oper}{o:Oper}{ac:Act}{Q:Exit->Act->World->Prop}{w:World}(hg:o.guard=none)(s x:Operand){t:TypeId}
 (hop:o.op=.call { callee:=.builtin .append,args:=#[s,x],argTypes:=#[t,t] }){e:TypeId}{z:Value}{size bytes base:Nat}
 (ht:P.underlying t=some (.slice e))(h2:(P.info? e).map (fun i=>(i.zero,i.size,i.bytes))=some (some z,size,bytes))(hzs:z.cells.size=size)(hsz:0<size)
 {v:Value}{n:Nat}{xs:List Value}(hown:w.ownsRow base e size v n xs)(hv:ac.eval s=v){a:Addr}{m c:Nat}{news:List Value}(hx:ac.eval x=.slice (some a) m c)(hm:0<m)(hl:news.length=m * size)(hnews:∀j u,news[j]? = some u->w.cell? (a.add j)=some u)(h1:∀u ∈ news,u.oneCell'=true)
 (h63:n+m<=maxLen)(hbytes:(n+m) * bytes<=140737488355328)(hbase:base<=w.heap.size)
 (hK:∀v' w',w'.ownsRow base e size v' (n+m) (xs++news)->w.grownBy w' v.ownBlock->Q7 w.heap.size v v'->wpList P ops Q rest (ac.put o.dst v') w'):wpList P ops Q (o :: rest) ac w:=by
 obtain⟨i0,hi,hz0,hz1,hz2⟩:=info_parts h2;refine wpList_plain hg fun K hK'=>?_
 obtain⟨v',w',hrun,r1,r2,r3⟩:=Yi (ty:=o.type) ht hi hz0 hz1 hz2 hzs hsz hown hm hl hnews h1 h63 hbytes hbase;obtain⟨vs,hvs⟩:∃vs,vs=Value.slice (some a) m c:=⟨_,rfl⟩;rw[<-hvs]at hx hrun;unfold Oper.wp;simp[execOp,hop,resolve,invoke,builtin,hv,hx,hrun,Result.andThen];exact hK' _ _ (hK v' w' r1 r2 r3)
theorem Lj{P:Program}{ops:Array Oper}{rest:List Oper}{o:Oper}{ac:Act}{Q:Exit->Act->World->Prop}{w:World}(hg:o.guard=none)(s x:Operand){t:TypeId}
 (hop:o.op=.call { callee:=.builtin .append,args:=#[s,x],argTypes:=#[t,t] }){e:TypeId}{z:Value}{bytes base:Nat}
 (ht:P.underlying t=some (.slice e))(h2:(P.info? e).map (fun i=>(i.zero,i.size,i.bytes))=some (some z,1,bytes))(hzs:z.cells.size=1)
 {v:Value}{n:Nat}{xs:List Value}(hown:w.ownsRow base e 1 v n xs)(hv:ac.eval s=v){g:Nat}{y:Value}(hx:ac.eval x=.slice (some ⟨g,0,none⟩) 1 1)(hc:w.cell? ⟨g,0,none⟩=some y)(h1:y.oneCell'=true)
 (h63:n+1<=maxLen)(hbytes:(n+1) * bytes<=140737488355328)(hbase:base<=w.heap.size)
 (hK:∀v' w',w'.ownsRow base e 1 v' (n+1) (xs++[y])->w.grownBy w' v.ownBlock->Q7 w.heap.size v v'->wpList P ops Q rest (ac.put o.dst v') w'):wpList P ops Q (o :: rest) ac w:=
 Ll hg s x hop ht h2 hzs (by omega) hown hv (a:=⟨g,0,none⟩) (m:=1) (news:=[y]) hx (by omega) rfl (fun j u hu=>by
  cases j with
  | zero=>
    simp only[List.getElem?_cons_zero,Option.some.injEq]at hu;subst hu;exact hc
  | succ j=>simp at hu) (fun u hu=>by simp only[List.mem_singleton]at hu; rw[hu]; exact h1) h63 hbytes hbase hK
end
section
open Go Go.RowKit
section
variable {P:Program} {Q:Exit->Act->World->Prop} {n l₀:Nat}
def lN(o:Oper):Bool:=match o.op with
 | .defer _=>false
 | _=>true
theorem J8{o:Oper}(h:lN o=true):∀c,o.op≠ .defer c:=fun c e=>by simp[lN,e]at h
theorem Ap{f:FuncId}{args:Array Value}{w:World}{R:Ending->World->Prop}(h:Calls P f args w R):CallsIn (Fence.wide.inRound l₀) n P f args w R:=CallsIn.inRound l₀ (callsIn_wide.2 h)
theorem XO{o:Oper}{a:Act}{w:World}{K:Act->World->Prop}(hd:lN o=true)(h:o.wp P a w K Q):o.wpIn (Fence.wide.inRound l₀) n P a w K Q:=by
 refine⟨fun _ _=>trivial,?_⟩;have e:o.semAt (Fence.wide.inRound l₀).round a.eval=execOp a.eval o:=Oper.semAt_some l₀ _ o (J8 hd);rw[e];unfold Oper.wp at h;generalize (execOp a.eval o).run P w=r at *;cases r with
 | ok x w'=>
   cases x with
   | value v=>exact h
   | skip=>exact h
   | defer d=>exact h
   | enter f args=>exact⟨fun hh=>(by cases hh),Ap h⟩
   | row r args=>exact⟨fun hh=>(by cases hh),fun c cs _=>let ⟨v,w'',hR,hs⟩:=h c cs; ⟨v,w'',hR,stepsIn_wide.2 hs⟩⟩
   | _=>exact h.elim
 | halt x w'=>
   cases x <;> exact h
theorem GH{l:List Oper}(h:l.all lN=true){i:Nat}{o:Oper}(ho:l[i]? = some o):lN o=true:=List.all_eq_true.1 h o (List.mem_of_getElem? ho)
theorem pX{l:List Oper}(hd:l.all lN=true)(hQ:¬ LetsOut Q):∀(fuel:Nat)(listed:Array Bool)(a:Act)(w:World),wpAny P .any l.toArray Q fuel listed a w->wpAnyIn (Fence.wide.inRound l₀) n P .any l.toArray Q fuel listed a w
 | 0,listed,a,w,h=>h
 | fuel+1,listed,a,w,h=>by
   refine⟨h.1,fun i hi=>?_⟩;have h2:=h.2 i hi;unfold wpOp at h2;unfold wpOpIn;cases ho:l.toArray[i]? with
   | none=>
     rw[ho]at h2;exact pX hd hQ fuel _ a w h2
   | some o=>
     rw[ho]at h2;simp only at h2 ⊢;by_cases hw:Region.wanted o (yielded l.toArray a.tmps)=true
     ·rw[zj hw]at h2 ⊢;rcases h2 with h2 | ⟨_,h2⟩
      ·exact XO (GH hd (by simpa using ho)) (Oper.wp_mono (fun a w=>pX hd hQ fuel _ a w) h2)
      ·exact(hQ h2).elim
     ·rw[zi hw]at h2 ⊢;exact⟨fun _ _=>trivial,pX hd hQ fuel _ _ w h2⟩
theorem xu{id:Nat}{l:List Oper}{a0:Act}{w:World}(hQ:¬ LetsOut Q)(hd:l.all lN=true)(hm:P.follows .mixedOrders=true)(R:World->World->Prop)(C:World->Prop)(V:Nat->Value->World->Prop)(sk:Nat->Bool)(hf:kT l a0.tmps.size=true)
 (hC:∀w w',R w w'->C w->C w')(hV:∀i v w w',R w w'->V i v w->V i v w')(h0:C w.drew)
 (hstep:rM P Q R C V sk l a0 0 l)
 (hend:∀a w,C w->a.defers=a0.defers->a.tmps.size=a0.tmps.size->(∀t,eP l t=true->a.tmps.getD t undef=a0.tmps.getD t undef)->
  (∀(i:Nat)(o:Oper),l[i]? = some o->sk i=false->V i (dC o.dst a) w)->Q .normal a w):(Code.region id l.toArray true).wpIn (Fence.wide.inRound l₀) n P Q a0 w:=by
 refine wpIn_region_any hm (pX hd hQ _ _ _ _ ?_);have hn:(Array.replicate l.toArray.size false).size=l.length:=by simp
 refine Ci hf hC hV hstep hend _ _ _ _ hn ?_ ⟨h0,rfl,rfl,fun t _=>rfl,fun i o ho _ hl=>?_⟩
 ·have:=List.length_filter_le (fun i=>!(Array.replicate l.toArray.size false).getD i true) (List.range l.length);unfold left;simpa using this
 ·exfalso;have hi:=(List.getElem?_eq_some_iff.1 ho).1;simp[Array.getD,hi]at hl
end
end
namespace xA
open Go.RowKit
def nmb(m s f:Int):Int:=(60 * m+s) * 75+f
theorem abr{m s f:Int}(h:vB m s f=true):0<=nmb m s f/\nmb m s f<450000:=by have:=NK.1 h; unfold nmb; omega
theorem XF(m s f:Int)(w:World)(h:vB m s f=true):Calls prog 150 #[iV m s f] w (R2B (.int .i64 (nmb m s f - 150)) (.int .i64 0) w):=by have HV:=zH h;have hbd:=abr h;have HN:=zH (fun W=>ET m s f W (NK.1 h));clear h;have HE:Hid ((60 * m+s) * 75+f=nmb m s f):=zH rfl;go_enter func150,ntmps150;go_wp2_with fail;refine(rQ m s f _).mono ?_;rw[HV.out];rintro e w1 ⟨rfl,hb⟩;have hM:=(Bx.new w 235 [.int .i64 m,.int .i64 s,.int .i64 f]).call hb;have hle:=((zB w.heap.size w).alloc (zl _) (.cells #[.int .i64 m,.int .i64 s,.int .i64 f] 235)).trans (hb.mono (by simp));have c0:=hM.cell (i:=0) rfl;have c1:=hM.cell (i:=1) rfl;have c2:=hM.cell (i:=2) rfl;clear hb hM;go_wp2_with fail;refine(HN.out _).mono ?_;rw[HE.out];rintro e w2 ⟨rfl,hb2⟩;go_wp2_with fail;go_ret2;exact⟨rfl,hle.trans (hb2.mono hle.size)⟩
end xA
namespace E1
open Go.RowKit
def KQ(l:List UInt8)(o size k:Nat):List UInt8:=(l.drop (o+size - k)).take k
theorem Yl(l:List UInt8)(o size:Nat):KQ l o size size=(l.drop o).take size:=by unfold KQ; rw[Nat.add_sub_cancel]
theorem UW{l:List UInt8}{o size k:Nat}(h:k<size)(hl:o+size<=l.length):KQ l o size (k+1)=G.ix l (o+(size - 1 - k)) :: KQ l o size k:=by
 unfold KQ;have e1:o+size - (k+1)=o+(size - 1 - k):=by omega
 have e2:o+size - k=o+(size - 1 - k)+1:=by omega
 rw[e1,e2,List.drop_eq_getElem_cons (show o+(size - 1 - k)<l.length by omega),List.take_succ_cons];simp[G.ix,List.getElem?_eq_getElem (show o+(size - 1 - k)<l.length by omega)]
theorem seg_length{l:List UInt8}{o size k:Nat}(h:k<=size)(hl:o+size<=l.length):(KQ l o size k).length=k:=by unfold KQ; rw[List.length_take,List.length_drop]; omega
theorem yP(s:ByteArray)(o c:Int)(w:World)(h0:0<=o)(h1:0<=c)(h2:o<=1000000)(h3:c<=8)(hs:s.size<=1000000):
 Calls prog 342 #[.string s,.int .i64 o,.int .i64 c] w fun e w'=>e=.returned (.bool (decide (o+c<=s.size)))/\w=w':=by
 by_cases h:o+c<=s.size
 ·rw[zt h];have hx:o<=(s.size:Int) - c:=by omega
  go_enter func342,ntmps342;go_wp2_with fail;go_ret;exact⟨rfl,rfl⟩
 ·rw[zf h];have hx:¬ o<=(s.size:Int) - c:=by omega
  go_enter func342,ntmps342;go_wp2_with fail;go_ret;exact⟨rfl,rfl⟩
theorem afg{a c k:Nat}(ha:a<256 ^ k)(hc:c<256)(hk:k<=6):bits .or .u64 (a:Int) ((c * 2 ^ (8 * k):Nat):Int)=((c * 256 ^ k+a:Nat):Int):=by
 have e:(256:Nat) ^ k=2 ^ (8 * k):=by rw[Nat.pow_mul]
 rw[e]at ha ⊢;have hb:c * 2 ^ (8 * k)+a=a ||| c * 2 ^ (8 * k):=by rw[Nat.mul_comm,Nat.two_pow_add_eq_or_of_lt ha,Nat.or_comm]
 have hp:(2:Nat) ^ (8 * k)<=2 ^ 48:=Nat.pow_le_pow_right (by omega) (by omega);have hq:c * 2 ^ (8 * k)<=255 * 2 ^ 48:=Nat.mul_le_mul (by omega) hp;rw[hb];generalize c * 2 ^ (8 * k)=q at *;have hz:a ||| q<2 ^ 62:=by rw[<-hb]; omega
 show IntKind.u64.wrap ((BitVec.ofInt 64 (a:Int) ||| BitVec.ofInt 64 (q:Int)).toNat:Int)=_;rw[BitVec.toNat_or,ofInt_u64 a (by omega),ofInt_u64 q (by omega)];generalize a ||| q=z at *
 simp[IntKind.wrap,IntKind.bits,IntKind.signed];omega
theorem adT(c k:Nat)(hc:c<256)(hk:k<=6):IntKind.u64.wrap (IntKind.u64.wrap (c:Int) * 2 ^ (8 * k))=((c * 2 ^ (8 * k):Nat):Int):=by
 have hp:(2:Nat) ^ (8 * k)<=2 ^ 48:=Nat.pow_le_pow_right (by omega) (by omega);have hq:c * 2 ^ (8 * k)<=255 * 2 ^ 48:=Nat.mul_le_mul (by omega) hp;have e1:IntKind.u64.wrap (c:Int)=(c:Int):=by simp[IntKind.wrap,IntKind.bits,IntKind.signed]; omega
 have e2:(c:Int) * 2 ^ (8 * k)=((c * 2 ^ (8 * k):Nat):Int):=by simp
 rw[e1,e2];generalize c * 2 ^ (8 * k)=q at *;simp[IntKind.wrap,IntKind.bits,IntKind.signed];omega
theorem UB(l:List UInt8)(o size:Nat)(x y:Int)(b:Nat)(w:World)(hy:y=o)(hx:x=size)(h1:1<=size)(hs:size<=4)(ho:o<=1000000)(hl:l.length<=1000000)(hc:w.cell? ⟨b,0,none⟩=some (.int .i64 x))(hin:o+size<=l.length):
 Calls prog 264 #[.string (str l),.int .i64 y,.int .i64 x,.func (.func 266) #[] #[.pointer (some ⟨b,0,none⟩)]] w fun e w'=>e=.returned (.tuple #[.int .i64 (dK l o size),.int .i64 0])/\w=w':=by
 have HI:=zH (fun W=>yP (str l) y x W (by omega) (by omega) (by omega) (by omega) (by rw[ax]; exact hl));have hd:decide (y+x<=((str l).size:Int))=true:=by rw[ax]; simp; omega
 rw[hd]at HI;subst hx hy;have HR:Hid (dK l o size=oI (KQ l o size size)):=zH (by unfold dK; rw[zj hin,Yl]);clear hd;go_enter func264,ntmps264;go_wp2_with fail;refine(HI.out _).mono ?_;rintro e w' ⟨rfl,rfl⟩;go_wp2_with fail
 go_loop [10,26] (fun vn vk=>∃k n:Nat,k<=size/\vk=.int .i64 k/\vn=.int .u64 n/\Hid (n=oI (KQ l o size k))/\n<256 ^ 4) (fun _ vk=>size - (RowKit.intOf vk).toNat)
 case atStart=>exact⟨0,0,by omega,rfl,rfl,zH (by simp[KQ,oI]),by omega⟩
 case round=>
  obtain⟨k,n,hk,rfl,rfl,HN,hnb⟩:=hrel;by_cases hlt:k<size
  ·have hix:=fun W=>BU (P:=prog) underlying9 l (o+(size - 1 - k)) (by omega) ((o:Int)+((size:Int) - 1 - (k:Int))) (by omega) W
   go_wp2_with (go_at_call 266; refine(Bg b size k _ hc (by omega) (by omega) (by omega)).mono ?_; rintro e w1 ⟨rfl,rfl⟩);go_round;case rel=>
    have hz:=HN.out;have hkk:n<256 ^ k:=by have:=CX (KQ l o size k); rw[seg_length hk hin]at this; rw[hz]; exact this
    have hc8:=(G.ix l (o+(size - 1 - k))).toNat_lt;have hsz:oI (KQ l o size (k+1))=(G.ix l (o+(size - 1 - k))).toNat * 256 ^ k+n:=by rw[UW hlt hin,yu,seg_length hk hin,<-hz]
    have hlt2:oI (KQ l o size (k+1))<256 ^ 4:=by have:=CX (KQ l o size (k+1)); rw[seg_length (by omega) hin]at this;exact zL this (Nat.pow_le_pow_right (by omega) (by omega))
    refine⟨k+1,oI (KQ l o size (k+1)),by omega,by go_num,congrArg (Value.int .u64) ?_,zH rfl,hlt2⟩;rw[hsz];generalize (G.ix l (o+(size - 1 - k))).toNat=c at *;rw[<-afg hkk hc8 (by omega),adT c k hc8 (by omega)]
   case measure=>simp[RowKit.intOf]; omega
  ·obtain rfl:k=size:=by omega
   have hnb':n<=9223372036854775807:=by omega
   have hcv:IntKind.i64.wrap (n:Int)=n:=IntWalk.i64_in _ (by omega);have HZ:Hid (n=dK l o k):=zH (by rw[HR.out]; exact HN.out);clear HN HR;go_wp2_with fail;go_ret2;rw[<-HZ.out];exact⟨rfl,rfl⟩
def rdC(l:List UInt8)(o size:Nat):Int:=if o+size<=l.length then 0 else 2
theorem UD(l:List UInt8)(o size:Nat)(x y:Int)(f:Value)(w:World)(hy:y=o)(hx:x=size)(h1:1<=size)(hs:size<=4)(ho:o<=1000000)(hl:l.length<=1000000)(hin:¬ o+size<=l.length):
 Calls prog 264 #[.string (str l),.int .i64 y,.int .i64 x,f] w fun e w'=>e=.returned (.tuple #[.int .i64 0,.int .i64 2])/\w=w':=by
 have HI:=zH (fun W=>yP (str l) y x W (by omega) (by omega) (by omega) (by omega) (by rw[ax]; exact hl));have hd:decide (y+x<=((str l).size:Int))=false:=by rw[ax]; simp; omega
 rw[hd]at HI;subst hx hy;clear hd;go_enter func264,ntmps264;go_wp2_with fail;refine(HI.out _).mono ?_;rintro e w' ⟨rfl,rfl⟩;go_wp2_with fail;go_ret2;exact⟨rfl,rfl⟩
theorem G8(l:List UInt8)(o size:Nat)(x y:Int)(w:World)(hy:y=o)(hx:x=size)(h1:1<=size)(hs:size<=4)(ho:o<=1000000)(hl:l.length<=1000000):
 Calls prog 197 #[.string (str l),.int .i64 y,.int .i64 x] w fun e w'=>e=.returned (.tuple #[.int .i64 (dK l o size),.int .i64 (rdC l o size)])/\Below w.heap.size w w':=by
 have HD:=zH (fun W=>yF x W);by_cases hin:o+size<=l.length
 ·have HR:=zH (fun b W hc=>UB l o size x y b W hy hx h1 hs ho hl hc hin);have e:rdC l o size=0:=by unfold rdC; rw[zj hin]
  rw[e];clear e hy hx;go_enter func197,ntmps197;go_wp2_with fail;refine(HD.out _).mono ?_;rintro e w1 ⟨b,rfl,hc1,hbs,hb1⟩;go_wp2_with fail;refine(HR.out b _ hc1).mono ?_;rintro e w2 ⟨rfl,rfl⟩;clear hc1;go_wp2_with fail;go_ret2;exact⟨rfl,hb1⟩
 ·have HR:=zH (fun f W=>UD l o size x y f W hy hx h1 hs ho hl hin);have e:rdC l o size=2:=by unfold rdC; rw[zi hin]
  have e2:dK l o size=0:=by unfold dK; rw[zi hin]
  rw[e,e2];clear e e2 hy hx;go_enter func197,ntmps197;go_wp2_with fail;refine(HD.out _).mono ?_;rintro e w1 ⟨b,rfl,hc1,hbs,hb1⟩;go_wp2_with fail;refine(HR.out _ _).mono ?_;rintro e w2 ⟨rfl,rfl⟩;clear hc1;go_wp2_with fail;go_ret2;exact⟨rfl,hb1⟩
def ic(x:Int):List Value:=[.int .i64 x]
abbrev RdN(w:World)(v:Value)(l:List Int):Prop:=dX 0 ic 1 w v l
theorem kz(a b:List UInt8):str a++str b=str (a++b):=by
 unfold str
 ext1
 simp
def eH(size:Nat)(xs:List Int):List UInt8:=xs.flatMap fun n=>(dQ n size).1
theorem yK{size:Nat}{xs:List Int}{i:Nat}(h:i<xs.length):eH size (xs.take (i+1))=eH size (xs.take i)++(dQ (bF 0 xs i) size).1:=by unfold eH;rw[List.take_add_one,List.flatMap_append];simp[bF,List.getElem?_eq_getElem h]
theorem yJ(size:Nat)(xs:List Int):(eH size xs).length<=size * xs.length:=by
 induction xs with
 | nil=>simp[eH]
 | cons x xs ih=>
   have:=ig x size;unfold eH at ih ⊢;rw[List.flatMap_cons,List.length_append,List.length_cons,Nat.mul_succ];omega
def ZB(b:Nat)(s:List UInt8)(w:World)(e:Ending)(w':World):Prop:=
 e=.returned (.tuple #[])/\Bx w' b 9 [.string (str s)]/\Below b w w'/\∀k,k<w.heap.size->k≠b->w'.heap[k]? = w.heap[k]?
theorem sizeIntE:(prog.info? 3).map (·.size)=some 1:=by kernel_rfl
theorem acF(v:Value)(xs:List Int)(b:Nat)(cur:List UInt8)(w:World)(hb:Bx w b 9 [.string (str cur)])(hr:RdN w v xs)(hne:∀a n c,v=.slice (some a) n c->a.block≠b)(hx:∀i,i<xs.length->bF 0 xs i<=9223372036854775807)(hn:xs.length<=120)(hc:cur.length<=100000):
 Calls prog 318 #[.int .i64 2,v,.pointer (some ⟨b,0,none⟩)] w (ZB b (cur++eH 2 xs) w):=by
 obtain⟨a,c,rfl,hac⟩:=dX.form hr;obtain⟨b0,off,hcell⟩:=dX.at hr;have HX:=zH hx; clear hx;have HC:=zH hcell; clear hcell hr;have hbl:=hb.lt;have Hne:=zH (fun(h0:0<xs.length)=>(show b0≠b from hne ⟨b0,off,none⟩ xs.length c (by rw[(HC.out 0 h0).1])));clear hne;go_enter func318,ntmps318;go_wp2_with fail
 go_loopw [11] (fun vi wr=>∃i:Nat,i<=xs.length/\vi=.int .i64 i/\Bx wr b 9 [.string (str (cur++eH 2 (xs.take i)))]/\Below b w wr/\Hid (∀k,k<w.heap.size->k≠b->wr.heap[k]? = w.heap[k]?)) (fun vi _=>xs.length - (RowKit.intOf vi).toNat)
 case atStart=>exact⟨0,by omega,rfl,by simpa[eH]using hb,zB _ _,zH fun k _ _=>rfl⟩
 case round=>
  clear hb;obtain⟨i,hi,rfl,hbx,hbw,HK⟩:=hrel;by_cases hlt:i<xs.length
  ·obtain⟨ha,hrg⟩:=HC.out i hlt;have hix:=fun w'=>aH underlying31 sizeIntE (cap:=c) ha hlt _ rfl w'
   have hcl:w.cell? ⟨b0,off+i * 1,none⟩=some (.int .i64 (bF 0 xs i)):=hrg 0 _ rfl;have hcell:wr.cell? ⟨b0,off+i * 1,none⟩=some (.int .i64 (bF 0 xs i)):=(World.cell?_of_block (w:=w) (a:=⟨b0,off+i * 1,none⟩) (HK.out b0 (zc w _ hcl) (Hne.out (by omega)))).trans hcl;simp only[Nat.mul_one]at hix hcell;have HS:=zH (yK (size:=2) hlt);have hxb:=HX.out i hlt;have hfl:=yJ 2 (xs.take i);rw[List.length_take]at hfl;have aaT:=ig (bF 0 xs i) 2;generalize bF 0 xs i=x at *;clear hcl hrg;have VV:=zH (fun W=>Rw x W hxb);obtain⟨y,hy⟩:∃y,y=(dQ x 2).1:=⟨_,rfl⟩;rw[<-hy]at VV HS aaT;obtain⟨S,hS⟩:∃S,S=cur++eH 2 (xs.take i):=⟨_,rfl⟩;rw[<-hS]at hbx;have hSl:S.length<=101000:=by rw[hS,List.length_append]; omega
   have HS2:Hid (cur++eH 2 (xs.take (i+1))=S++y):=zH (by rw[HS.out,<-List.append_assoc,hS]);clear hy hS HS hfl ha;have hsz1:=ax S;have hsz2:=ax y;have hnl:¬ 9223372036854775807<(str S).size+(str y).size:=by omega
   go_wp2_with fail;refine(VV.out _).mono ?_;rintro e w1 ⟨rfl,hb1⟩;have JF:=hbx.call hb1;have hc1:=JF.cell (i:=0) rfl;have hf1:=JF.free;clear hix hcell;go_wp2_with fail;go_roundw;case rel=>
    refine⟨i+1,by omega,by go_num,?_,(hbw.trans (hb1.mono (Nat.le_of_lt hbx.lt))).setCell (zl _) _,zH fun k hk hkb=>?_⟩
    ·have h:=JF.set 0 (.string (str S++str y));rw[HS2.out,<-kz];exact h
    ·rw[zh _ _ _ _ hkb,hb1.block k (zL hk hbw.size)];exact HK.out k hk hkb
   case measure=>simp[RowKit.intOf]; omega
  ·obtain rfl:i=xs.length:=by omega
   rw[List.take_length]at hbx;go_wp2_with fail;go_end0;exact⟨rfl,hbx,hbw,HK.out⟩
theorem acG(v:Value)(xs:List Int)(b:Nat)(cur:List UInt8)(w:World)(hb:Bx w b 9 [.string (str cur)])(hr:RdN w v xs)(hne:∀a n c,v=.slice (some a) n c->a.block≠b)(hx:∀i,i<xs.length->bF 0 xs i<=9223372036854775807)(hn:xs.length<=120)(hc:cur.length<=100000):
 Calls prog 318 #[.int .i64 4,v,.pointer (some ⟨b,0,none⟩)] w (ZB b (cur++eH 4 xs) w):=by
 obtain⟨a,c,rfl,hac⟩:=dX.form hr;obtain⟨b0,off,hcell⟩:=dX.at hr;have HX:=zH hx; clear hx;have HC:=zH hcell; clear hcell hr;have hbl:=hb.lt;have Hne:=zH (fun(h0:0<xs.length)=>(show b0≠b from hne ⟨b0,off,none⟩ xs.length c (by rw[(HC.out 0 h0).1])));clear hne;go_enter func318,ntmps318;go_wp2_with fail
 go_loopw [11] (fun vi wr=>∃i:Nat,i<=xs.length/\vi=.int .i64 i/\Bx wr b 9 [.string (str (cur++eH 4 (xs.take i)))]/\Below b w wr/\Hid (∀k,k<w.heap.size->k≠b->wr.heap[k]? = w.heap[k]?)) (fun vi _=>xs.length - (RowKit.intOf vi).toNat)
 case atStart=>exact⟨0,by omega,rfl,by simpa[eH]using hb,zB _ _,zH fun k _ _=>rfl⟩
 case round=>
  clear hb;obtain⟨i,hi,rfl,hbx,hbw,HK⟩:=hrel;by_cases hlt:i<xs.length
  ·obtain⟨ha,hrg⟩:=HC.out i hlt;have hix:=fun w'=>aH underlying31 sizeIntE (cap:=c) ha hlt _ rfl w'
   have hcl:w.cell? ⟨b0,off+i * 1,none⟩=some (.int .i64 (bF 0 xs i)):=hrg 0 _ rfl;have hcell:wr.cell? ⟨b0,off+i * 1,none⟩=some (.int .i64 (bF 0 xs i)):=(World.cell?_of_block (w:=w) (a:=⟨b0,off+i * 1,none⟩) (HK.out b0 (zc w _ hcl) (Hne.out (by omega)))).trans hcl;simp only[Nat.mul_one]at hix hcell;have HS:=zH (yK (size:=4) hlt);have hxb:=HX.out i hlt;have hfl:=yJ 4 (xs.take i);rw[List.length_take]at hfl;have aaT:=ig (bF 0 xs i) 4;generalize bF 0 xs i=x at *;clear hcl hrg;have VV:=zH (fun W=>Rx x W hxb);obtain⟨y,hy⟩:∃y,y=(dQ x 4).1:=⟨_,rfl⟩;rw[<-hy]at VV HS aaT;obtain⟨S,hS⟩:∃S,S=cur++eH 4 (xs.take i):=⟨_,rfl⟩;rw[<-hS]at hbx;have hSl:S.length<=101000:=by rw[hS,List.length_append]; omega
   have HS2:Hid (cur++eH 4 (xs.take (i+1))=S++y):=zH (by rw[HS.out,<-List.append_assoc,hS]);clear hy hS HS hfl ha;have hsz1:=ax S;have hsz2:=ax y;have hnl:¬ 9223372036854775807<(str S).size+(str y).size:=by omega
   go_wp2_with fail;refine(VV.out _).mono ?_;rintro e w1 ⟨rfl,hb1⟩;have JF:=hbx.call hb1;have hc1:=JF.cell (i:=0) rfl;have hf1:=JF.free;clear hix hcell;go_wp2_with fail;go_roundw;case rel=>
    refine⟨i+1,by omega,by go_num,?_,(hbw.trans (hb1.mono (Nat.le_of_lt hbx.lt))).setCell (zl _) _,zH fun k hk hkb=>?_⟩
    ·have h:=JF.set 0 (.string (str S++str y));rw[HS2.out,<-kz];exact h
    ·rw[zh _ _ _ _ hkb,hb1.block k (zL hk hbw.size)];exact HK.out k hk hkb
   case measure=>simp[RowKit.intOf]; omega
  ·obtain rfl:i=xs.length:=by omega
   rw[List.take_length]at hbx;go_wp2_with fail;go_end0;exact⟨rfl,hbx,hbw,HK.out⟩
end E1
section
open Go.RowKit
instance (a:Int):Decidable (sm a):=by unfold sm; infer_instance
instance (x:T.az):Decidable (uB x):=by unfold uB; infer_instance
instance (l:List T.az):Decidable (nC l):=by unfold nC; infer_instance
theorem gu(count pk:Int)(w:World)(h1:-9223372036854775808<=count)(h2:count<=9223372036854775807):
 Calls prog 237 #[.int .i64 count,.int .i64 pk] w fun e w'=>e=.returned (.bool (decide (1<=count/\0<=pk/\pk<=1024/\(0<pk->count.tmod pk=0))))/\w=w':=by
 have hM:decide (1<=count/\0<=pk/\pk<=1024/\(0<pk->count.tmod pk=0))=decide (1<=count/\0<=pk/\pk<=1024/\(0<pk->count % pk=0)):=decide_eq_decide.2
  ⟨fun⟨a,b,c,d⟩=>⟨a,b,c,fun h=>by rw[<-Int.tmod_eq_emod_of_nonneg (by omega)]; exact d h⟩,fun⟨a,b,c,d⟩=>⟨a,b,c,fun h=>by rw[Int.tmod_eq_emod_of_nonneg (by omega)]; exact d h⟩⟩
 rw[hM];clear hM;by_cases hp:pk=0
 ·subst hp;go_enter func237,ntmps237;go_wp2;all_goals
   go_ret;refine⟨fQ ?_,rfl⟩
   (try simp only[beq_iff_eq,bne_iff_ne,beq_eq_false_iff_ne,bne_eq_false_iff_eq,ne_eq]at *) <;> (rw[Bool.eq_iff_iff]; (try simp) <;> (try omega))
 ·have hz:(pk == 0)=false:=by rw[beq_eq_false_iff_ne]; exact hp
  go_enter func237,ntmps237;go_wp2;all_goals
   go_ret;refine⟨fQ ?_,rfl⟩
   (try simp only[beq_eq_false_iff_ne,ne_eq]at *) <;> (rw[Bool.eq_iff_iff]; (try simp) <;> (try omega))
end
end Go.Proofs.YtfnehkmhcmkhjaaGreat
