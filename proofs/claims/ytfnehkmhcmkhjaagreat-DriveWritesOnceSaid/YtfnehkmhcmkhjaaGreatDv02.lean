/- Parts:XCa XGpo XRs XCrc -/
import Derived.Test.YtfnehkmhcmkhjaaGreatDv00
set_option maxRecDepth 100000
set_option maxHeartbeats 8000000
set_option linter.unusedVariables false
namespace Go.Proofs.YtfnehkmhcmkhjaaGreat.C9
structure Sc where
 f:Int
 c:Int
def FU(n:Nat)(s:Sc):Bool:=decide (0<=s.f) && decide (1<=s.c) && decide (s.c<=(n:Int)) && decide (s.f<=(n:Int) - s.c)
def acQ(n:Nat)(l:List Sc):Bool:=l.all (FU n)
def aeW(s:Sc)(x:Int)(g:Nat):Bool:=decide (s.f<=(g:Int)) && decide ((g:Int)<s.f+x)
def gon(l:List Sc)(g:Nat):Bool:=l.any fun s=>aeW s s.c g
def Dl(l:List Sc)(f k:Nat):List Int:=((List.range k).filter fun i=>gon l (f+4 * i)).map Int.ofNat
def ers(l:List Sc)(f:Nat):List Int:=Dl l f 28
theorem Za(l:List Sc)(f k:Nat):(Dl l f k).length<=k:=by unfold Dl;rw[List.length_map];have:=List.length_filter_le (fun i=>gon l (f+4 * i)) (List.range k);rwa[List.length_range]at this
def lsK(E:List Int)(f k:Nat):List Int:=if E.length<=4 then [] else((E.take k).filter fun i=>decide (i<24)).map fun i=>24 * (f:Int)+i
def ls(E:List Int)(f:Nat):List Int:=lsK E f E.length
theorem abm(E:List Int)(f k:Nat)(hE:E.length<=28):(lsK E f k).length<=28:=by
 unfold lsK;split
 ·simp
 ·rw[List.length_map];have h1:=List.length_filter_le (fun i=>decide (i<24)) (E.take k);have h2:(E.take k).length<=E.length:=List.length_take_le' _ _;omega
def yU(l:List Sc):Nat->List Int
 | 0=>[]
 | n+1=>yU l n++ls (ers l n) n
theorem nM{l:List Sc}(h:∀f,(ers l f).length<=4):∀n,yU l n = []
 | 0=>rfl
 | n+1=>by show yU l n++lsK _ _ _ = [];rw[nM h n];unfold lsK;rw[if_pos (h n)];rfl
end Go.Proofs.YtfnehkmhcmkhjaaGreat.C9
namespace Go.Proofs.YtfnehkmhcmkhjaaGreat.G
theorem Dp{l m:List UInt8}(hl:l.length=m.length)(h:∀i,i<l.length->ix l i=ix m i):l=m:=by apply List.ext_getElem hl;intro i h1 h2;have:=h i h1;simpa[ix,h1,h2]using this
theorem XA(out:List UInt8)(j:Nat)(v:UInt8)(t:Nat):ix (bump out j v) t=if t=j/\j<out.length then ix out t ^^^ v else ix out t:=by
 unfold bump ix;rw[List.getD_eq_getElem?_getD,List.getElem?_set];by_cases h:j=t
 ·subst h;by_cases hl:j<out.length
  ·simp[hl]
  ·simp[hl]
 ·rw[if_neg h,if_neg (by omega),List.getD_eq_getElem?_getD]
theorem OX(i:Nat)(a:UInt8)(q:List UInt8)(out:List UInt8)(t:Nat):∀k,ix (addRow i a q k out) t=if i<=t/\t<i+k/\t<out.length then ix out t ^^^ mul a (ix q (t - i)) else ix out t:=by
 intro k
 induction k with
 | zero=>rw[addRow,if_neg (by omega)]
 | succ k ih=>
   rw[addRow,XA,iy,ih];by_cases h:t=i+k/\i+k<out.length
   ·obtain⟨rfl,h2⟩:=h;rw[if_pos ⟨rfl,h2⟩,if_neg (by omega),if_pos (by omega),show i+k - i=k by omega]
   ·rw[if_neg h];by_cases h':i<=t/\t<i+k/\t<out.length
    ·rw[if_pos h',if_pos (by omega)]
    ·rw[if_neg h',if_neg (by omega)]
theorem pz(i:Nat)(a:UInt8)(q:List UInt8)(out:List UInt8)(t:Nat)(ht:t<out.length):
 ix (addRow i a q q.length out) t=ix out t ^^^ (if i<=t then mul a (ix q (t - i)) else 0):=by
 rw[OX];by_cases h:i<=t
 ·by_cases h2:t<i+q.length
  ·rw[if_pos ⟨h,h2,ht⟩,if_pos h]
  ·rw[if_neg (by omega),if_pos h,TP (l:=q) (i:=t - i) (by omega),mul_zero,xor_zero]
 ·rw[if_neg (by omega),if_neg h,xor_zero]
/-! ### abA -/
theorem SY(n:Nat):ix (gen n) 0=1:=by
 induction n with
 | zero=>rfl
 | succ n ih=>
   have hl:=jo n;have h:gen n≠[]:=by intro e; rw[e]at hl; simp at hl
   have key:∀i,ix (eF (gen n) [1,exp n] (i+1)) 0=1:=by
    intro i
    induction i with
    | zero=>
      rw[eF,pz _ _ _ _ _ (by rw[iW]; simp),eF,TR,if_pos (Nat.le_refl _),ih];simp[ix,one_mul]
    | succ i ih2=>
      rw[eF,pz _ _ _ _ _ (by rw[iW]; simp),ih2,if_neg (by omega),xor_zero]
   rw[gen,Nj h (by simp),hl];exact key n
def enc(l:List UInt8)(n:Nat):List UInt8:=l++rem (l++List.replicate n 0) (gen n)
theorem Jr(l:List UInt8)(n:Nat):(enc l n).length=l.length+n:=by unfold enc; rw[List.length_append,zJ,jo]; omega
end Go.Proofs.YtfnehkmhcmkhjaaGreat.G
namespace Go.Proofs.YtfnehkmhcmkhjaaGreat
def dm(l:List Int)(i:Nat):Int:=l.getD i 0
namespace G
end G
end Go.Proofs.YtfnehkmhcmkhjaaGreat
namespace Go.Proofs.YtfnehkmhcmkhjaaGreat.C
def st1(n:Nat):Nat:=if n / 32768=1 then(n % 32768 * 2) ^^^ 4129 else n % 32768 * 2
def qN:Nat->Nat->Nat
 | 0,n=>n
 | k+1,n=>st1 (qN k n)
def st8(n:Nat):Nat:=qN 8 n
theorem abH{n:Nat}(h:n<65536):st1 n<65536:=by
 unfold st1;split
 ·exact Nat.xor_lt_two_pow (n:=16) (by omega) (by omega)
 ·omega
theorem zO{n:Nat}(h:n<65536):∀k,qN k n<65536
 | 0=>h
 | k+1=>abH (zO h k)
def reg(c:Nat)(b:UInt8):Nat:=st8 (c ^^^ b.toNat * 256)
def crc(c:Nat)(s:List UInt8):Nat:=s.foldl reg c
theorem uZ{c:Nat}(h:c<65536):∀s:List UInt8,crc c s<65536
 | []=>h
 | b :: s=>uZ (zO (Nat.xor_lt_two_pow (n:=16) (by omega) (by have:=b.toNat_lt; omega)) 8) s
theorem RP(c:Nat)(s:List UInt8)(b:UInt8):crc c (s++[b])=reg (crc c s) b:=by simp[crc]
def tab(b:Nat):Nat:=st8 (b * 256)
theorem Yp:∀hi,hi<256->∀lo,lo<256->st8 (hi * 256+lo)=(lo * 256) ^^^ tab hi:=by decide+kernel
theorem abE{n:Nat}(h:n<65536):st8 n=(n % 256 * 256) ^^^ tab (n / 256):=by have:=Yp (n / 256) (by omega) (n % 256) (by omega);rwa[show n / 256 * 256+n % 256=n by omega]at this
end Go.Proofs.YtfnehkmhcmkhjaaGreat.C
