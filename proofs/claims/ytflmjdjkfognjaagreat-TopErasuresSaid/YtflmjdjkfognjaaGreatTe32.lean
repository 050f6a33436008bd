/- Parts: XSol1 XSol2 XSol3 XSol4 XOpenI XSol5 XSol6 XDe XDf XIj XFa XMb -/
import Derived.Test.YtflmjdjkfognjaaGreatTe14
import Derived.Test.YtflmjdjkfognjaaGreatTe03
import Derived.Deep.LoopGhost
import Derived.Deep.RegionWith
import Derived.Deep.DeepMust
import Derived.Deep.CutBlock
import Derived.Deep.DeepCutAuto
import Derived.RegionTactic
import Derived.ChangeAlike
import Derived.Test.YtflmjdjkfognjaaGreatTe10
import Derived.Test.YtflmjdjkfognjaaGreatTe31
import Derived.Test.YtflmjdjkfognjaaGreatTe29
import Derived.Test.YtflmjdjkfognjaaGreatTe27
import Derived.Test.YtflmjdjkfognjaaGreatTe23
import Derived.Test.YtflmjdjkfognjaaGreatTeShelf
import Derived.Test.YtflmjdjkfognjaaGreatTe00
import Derived.Test.YtflmjdjkfognjaaGreatTe06
import Derived.Test.YtflmjdjkfognjaaGreatChecked
import Derived.Maps.OwnOps
import Derived.Maps.OwnSet
import Derived.Maps.Views
import Derived.Maps.Range
import Derived.Lib.SlKeysI
import Derived.Below
namespace Go.Proofs.YtflmjdjkfognjaaGreat
open Go.RowKit
set_option linter.unusedVariables false
theorem Tryz.infoI64 : (Tryz.prog.info? 3).map (fun i => (i.zero, i.size, i.bytes)) = some (some (.int .i64 0), 1, 8) := by kernel_rfl
def isQ (l : List Int) : List Value := l.map (Value.int .i64)
theorem is_appendQ (l m : List Int) : isQ (l ++ m) = isQ l ++ isQ m := by simp [isQ]
theorem is_oneQ (l : List Int) : ∀ u ∈ isQ l, u.oneCell' = true := by
  intro u hu
  simp only [isQ, List.mem_map] at hu
  obtain ⟨c, _, rfl⟩ := hu
  rfl
theorem wpList_appI {P : Program} {ops : Array Oper} {rest : List Oper} {o : Oper} {a : Act} {Q : Exit → Act → World → Prop} {w : World} (hg : o.guard = none) (s x : Operand) {t : TypeId}
    (hop : o.op = .call { callee := .builtin .append, args := #[s, x], argTypes := #[t, t] }) {e : TypeId} {base : Nat}
    (ht : P.underlying t = some (.slice e)) (h2 : (P.info? e).map (fun i => (i.zero, i.size, i.bytes)) = some (some (.int .i64 0), 1, 8))
    {v : Value} {n : Nat} {l : List Int} (hown : w.ownsRow base e 1 v n (isQ l)) (hv : a.eval s = v) {g : Nat} {y : Int} (hc : w.cell? ⟨g, 0, none⟩ = some (.int .i64 y)) (hx : a.eval x = .slice (some ⟨g, 0, none⟩) 1 1)
    (h63 : n ≤ 1073741824) (hbase : base ≤ w.heap.size)
    (hK : ∀ v' w', w'.ownsRow base e 1 v' (n + 1) (isQ (l ++ [y])) → w.grownBy w' v.ownBlock → wpList P ops Q rest (a.put o.dst v') w') : wpList P ops Q (o :: rest) a w := by
  obtain ⟨i0, hi, hz0, hz1, hz2⟩ := info_parts h2
  refine wpList_app hg s x hop ht hi hz0 hz1 hz2 rfl (by omega) hown hv (m := 1) (news := isQ [y]) ⟨by simp [isQ], _, 1, g, 0, rfl, Nat.le_refl _, fun i u hu => ?_⟩ hx (is_oneQ _) (by unfold maxLen; omega) (by omega) hbase fun v' w' g1 g2 g3 => ?_
  · have hi0 : i = 0 := by
      by_cases h : i = 0
      · exact h
      · simp [isQ, h] at hu
    subst hi0
    simp only [isQ, List.map_cons, List.map_nil, List.getElem?_cons_zero, Option.some.injEq] at hu
    subst hu
    exact ⟨rfl, hc⟩
  · rw [← is_appendQ] at g1
    exact hK v' w' g1 g2
end Go.Proofs.YtflmjdjkfognjaaGreat
namespace Go.Proofs.YtflmjdjkfognjaaGreat
open Go.RowKit
set_option linter.unusedVariables false
end Go.Proofs.YtflmjdjkfognjaaGreat
namespace Go.Proofs.YtflmjdjkfognjaaGreat
open Go.RowKit
set_option linter.unusedVariables false
def RdT (w : World) (v : Value) (l : List UInt8) : Prop :=
  l.length ≤ 1000 ∧ ∃ cap bb cur fz, v = .slice (some ⟨bb, 0, none⟩) l.length cap ∧ l.length ≤ cap ∧ w.heap[bb]? = some (.cells cur 5 fz) ∧ ∀ i, i < l.length → w.cell? ⟨bb, i, none⟩ = some (B (G.ix l i))
theorem RdT.rd {w : World} {v : Value} {l : List UInt8} (h : RdT w v l) : Rd w v l := by
  obtain ⟨h0, cap, bb, cur, fz, rfl, hc, hg, h⟩ := h
  exact ⟨by omega, _, cap, bb, 0, rfl, hc, fun i hi => ⟨rfl, by rw [Nat.zero_add]; exact h i hi⟩⟩
theorem RdT.byte {w : World} {v : Value} {l : List UInt8} (h : RdT w v l) {m : Nat} (hl : l.length = m) (k : Nat) (hk : k < m) : ∃ cap bb, v = .slice (some ⟨bb, 0, none⟩) m cap ∧ w.cell? ⟨bb, k, none⟩ = some (B (G.ix l k)) ∧ m ≤ cap := by
  obtain ⟨h0, cap, bb, cur, fz, rfl, hc, _, h⟩ := h
  exact ⟨cap, bb, by rw [hl], h k (by omega), by omega⟩
theorem RdT.one {w : World} {v : Value} {l : List UInt8} (h : RdT w v l) : v.oneCell' = true := by
  obtain ⟨h0, cap, bb, cur, fz, rfl, _⟩ := h; rfl
def RowsM (w : World) (g : Nat) (R : List (List UInt8)) : Prop :=
  ∃ cur, w.heap[g]? = some (.cells cur 123 (0, 0)) ∧ R.length ≤ cur.size ∧ ∀ i, i < R.length → ∃ v, cur[i]? = some v ∧ RdT w v (G.rw_ R i)
theorem RowsM.lt {w : World} {g : Nat} {R : List (List UInt8)} (h : RowsM w g R) : g < w.heap.size := by
  obtain ⟨cur, hg, _⟩ := h; exact (Array.getElem?_eq_some_iff.1 hg).1
end Go.Proofs.YtflmjdjkfognjaaGreat
namespace Go.Proofs.YtflmjdjkfognjaaGreat
open Go.RowKit
set_option linter.unusedVariables false
end Go.Proofs.YtflmjdjkfognjaaGreat
namespace Go.Proofs.YtflmjdjkfognjaaGreat
open Go.ChangeShapes Go.WideShapes Go.ChangeAt Go.RowKit
set_option linter.unusedVariables false
theorem RdI.nil (w : World) : RdI w (.slice none 0 0) [] := ⟨by simp, ⟨none, 0, 0, 0, rfl, by simp, fun i hi => by simp at hi⟩, fun i hi => by simp at hi⟩
section
variable {H : Type} {enc : TypeId × Value → H} {w : World} {base b0 : Nat} {held : Bool}
end
def RdU (w : World) (v : Value) (l : List Int) : Prop :=
  l.length ≤ 17592186044416 ∧ (∃ a cap b off, v = .slice a l.length cap ∧ l.length ≤ cap ∧ ∀ i, i < l.length → a = some ⟨b, off, none⟩ ∧ w.cell? ⟨b, off + i, none⟩ = some (.int .u16 (ixI l i))) ∧ ∀ i, i < l.length → 0 ≤ ixI l i ∧ ixI l i ≤ 65535
theorem RdU.nil (w : World) : RdU w (.slice none 0 0) [] := ⟨by simp, ⟨none, 0, 0, 0, rfl, by simp, fun i hi => by simp at hi⟩, fun i hi => by simp at hi⟩
section
variable {H : Type} {enc : TypeId × Value → H} {w : World} {base b0 : Nat} {held : Bool}
end
end Go.Proofs.YtflmjdjkfognjaaGreat
namespace Go.Proofs.YtflmjdjkfognjaaGreat
open Go.RowKit
set_option linter.unusedVariables false
end Go.Proofs.YtflmjdjkfognjaaGreat
namespace Go.Proofs.YtflmjdjkfognjaaGreat
open Go.RowKit
set_option linter.unusedVariables false
end Go.Proofs.YtflmjdjkfognjaaGreat
namespace Go.Proofs.YtflmjdjkfognjaaGreat.C9
open Go.RowKit W8
set_option linter.unusedVariables false
end Go.Proofs.YtflmjdjkfognjaaGreat.C9
namespace Go.Proofs.YtflmjdjkfognjaaGreat.C9
open Go.ChangeShapes Go.WideShapes Go.RowKit Go.Deep W8
set_option linter.unusedVariables false
theorem pdecC_any (va : Value) (F : List (List UInt8)) (w : World) (hF : RdStr w va F) (hl : F.length ≤ 9223372036854775807) : Calls Tryz.prog 32 #[va] w (DecP (decR F) w) := by
  unfold decR
  by_cases h : F.length < 109 ∨ 892 < F.length
  · rw [if_pos h]
    exact pdecode_len va F w hF hl h
  · rw [if_neg h]
    exact pdecode_ok va F (F.length - 108) w hF (by omega) (by omega) (by omega)
theorem decR_bd (F : List (List UInt8)) : (decR F).2.1.length ≤ 22000 ∧ ∀ x ∈ (decR F).2.1, -9223372036854775808 ≤ x ∧ x ≤ 9223372036854775807 := by
  unfold decR
  split
  · simp
  · split
    · simp
    · have h1 := lstD_length F (F.length - 108)
      refine ⟨by simp only; omega, fun x hx => ?_⟩
      have := lstD_bd F (F.length - 108) x hx
      omega
theorem DecP.rd {F : List (List UInt8)} {w w' : World} {e : Ending} (h : DecP (decR F) w e w') : ∃ v, e = .returned (.tuple #[.string (str (decR F).1), v, .int .i64 (decR F).2.2]) ∧ RdI w' v (decR F).2.1 ∧ Below w.heap.size w w' := by
  obtain ⟨v, he, ho, hb⟩ := h
  obtain ⟨h1, h2⟩ := decR_bd F
  exact ⟨v, he, rdI_own ho rfl (by omega) h2, hb⟩
section
variable {H : Type} {enc : TypeId × Value → H} {w : World} {base b0 : Nat} {sp : Nat → Bool} {held : Bool}
theorem Tryz.cellsStr9 : Tryz.prog.cellsOf 9 = 1 := by kernel_rfl
def CameStr (w : World) (v : Value) (l : List (List UInt8)) : Prop := RdStr w v l ∧ l.length ≤ 9223372036854775807 ∧ ∀ i, i < l.length → (atD [] l i).length ≤ 9223372036854775807
set_option maxRecDepth 100000 in
theorem open_cstrs {v : Value} {d : DataW H} {ps : List MemPlace} {r : Reach} (hval : Value.okWide Tryz.prog w r b0 47 v) (hd : DataW.Trod enc Tryz.prog w base sp held 47 v d ps) : ∃ l, CameStr w v l := by
  obtain ⟨a, len, cap, rfl⟩ := okWide_slice Tryz.underlying47 hval
  obtain ⟨fuel, hf⟩ := hd
  obtain ⟨l, h1, h2, h3⟩ := open_rdS ([] : List UInt8) ssD (fun x => x.length ≤ 9223372036854775807) Tryz.underlying47 Tryz.cellsStr9 (by omega) (fun n cs x h => by
    obtain ⟨s, h1, _, h2⟩ := DataW.trod_string Tryz.underlying9 h
    refine ⟨s.data.toList, by rw [h1]; show _ = [Value.string (str s.data.toList)]; rw [← str_list s], ?_⟩
    have : (str s.data.toList).size = s.data.toList.length := str_size _
    rw [← str_list s] at this
    unfold maxLen at h2
    omega) (by simpa [Value.cells] using hf)
  exact ⟨l, h1, h2, h3⟩
end
end Go.Proofs.YtflmjdjkfognjaaGreat.C9
namespace Go.Proofs.YtflmjdjkfognjaaGreat.T7
open Go Go.RowKit W10
set_option linter.unusedVariables false
def par (lba : Int) (d : List UInt8) : List UInt8 := W8.encN (bld lba d) (W8.fstI 0) 138
def rec (lba : Int) (d : List UInt8) : List UInt8 := scrL (par lba d)
theorem par_len (lba : Int) {d : List UInt8} (h : d.length = 2048) : (par lba d).length = 2352 := by
  unfold par
  rw [W8.encN_length, bld_len lba h]
theorem rec_len (lba : Int) (d : List UInt8) : (rec lba d).length = 2352 := scrL_len _
theorem rec_par (lba : Int) {d : List UInt8} (h : d.length = 2048) : scrL (rec lba d) = par lba d := scrL_scrL (par_len lba h)
theorem par_good {lba : Int} {d : List UInt8} (h0 : -150 ≤ lba) (h1 : lba ≤ 449849) (hd : d.length = 2048) : Good (par lba d) lba d :=
  ⟨par_len lba hd, hd, h0, h1, W8.take_enc (bld_len lba hd)⟩
theorem par_valid {lba : Int} {d : List UInt8} (hd : d.length = 2048) : W8.vldB (par lba d) 0 = true := W8.vld_enc (bld_len lba hd) rfl
theorem encode_0 (lba : Int) (d : List UInt8) (hd : d.length = 2048) (w : World) : Calls Tryz.prog 77 #[.string (str (bld lba d)), .int .i64 0] w fun e w' => e = .returned (.tuple #[.string (str (par lba d)), .int .i64 0]) ∧ Below w.heap.size w w' := by
  have h := W8.encode8_any (bld lba d) 0 w (by rw [bld_len lba hd]; omega)
  rw [W8.enc8_ok (bld_len lba hd) rfl] at h
  dsimp only at h
  unfold par
  exact h
theorem valid_0 (lba : Int) (d : List UInt8) (hd : d.length = 2048) (w : World) : Calls Tryz.prog 35 #[.string (str (par lba d)), .int .i64 0] w fun e w' => e = .returned (.bool true) ∧ Below w.heap.size w w' := by
  have h := W8.valid8_any (par lba d) 0 w (by rw [par_len lba hd]; omega)
  rw [par_valid hd] at h
  exact h
theorem scramble_0 (lba : Int) (d : List UInt8) (hd : d.length = 2048) (w : World) : Calls Tryz.prog 33 #[.string (str (par lba d))] w fun e w' => e = .returned (.tuple #[.string (str (rec lba d)), .int .i64 0]) ∧ Below w.heap.size w w' := scramble_any _ (par_len lba hd) w
theorem descramble_0 (lba : Int) (d : List UInt8) (hd : d.length = 2048) (w : World) : Calls Tryz.prog 33 #[.string (str (rec lba d))] w fun e w' => e = .returned (.tuple #[.string (str (par lba d)), .int .i64 0]) ∧ Below w.heap.size w w' := by
  have h := scramble_any (rec lba d) (rec_len lba d) w
  rw [rec_par lba hd] at h
  exact h
set_option maxRecDepth 100000 in
set_option maxHeartbeats 4000000 in
theorem recorded_any (lba : Int) (d : List UInt8) (w : World) (h0 : -150 ≤ lba) (h1 : lba ≤ 449849) (hd : d.length = 2048) :
    Calls Tryz.prog 28 #[.int .i64 lba, .string (str d)] w fun e w' => e = .returned (.tuple #[.string (str (rec lba d)), .bool true]) ∧ Below w.heap.size w w' := by
  have HB := Lib.hid (fun W => build_0 lba d W h0 h1 hd)
  have HE := Lib.hid (fun W => encode_0 lba d hd W)
  have HS := Lib.hid (fun W => scramble_0 lba d hd W)
  have hsz := str_size (rec lba d)
  rw [rec_len] at hsz
  unfold secV at HB
  generalize str (rec lba d) = R at *
  generalize str (par lba d) = P at *
  generalize str (bld lba d) = BL at *
  generalize str d = D at *
  have hsz2 : R.data.size = 2352 := hsz
  clear h0 h1 hd
  go_enter Tryz.func28, Tryz.ntmps28
  go_wp2_with fail
  refine (HB.out w).mono ?_
  rintro e w1 ⟨rfl, hb1⟩
  go_wp2_with fail
  refine (HE.out w1).mono ?_
  rintro e w2 ⟨rfl, hb2⟩
  go_wp2_with fail
  refine (HS.out w2).mono ?_
  rintro e w3 ⟨rfl, hb3⟩
  have h2 := hb1.trans (hb2.mono hb1.size)
  have HL := Lib.hid (h2.trans (hb3.mono h2.size))
  clear hb1 hb2 hb3 h2
  go_wp2_with fail
  go_ret2
  exact ⟨rfl, HL.out⟩
theorem repL7 (c : UInt8) : ∀ n, Lib.repeatL [c] n = List.replicate n c
  | 0 => rfl
  | n + 1 => by rw [Lib.repeatL, repL7 c n, List.replicate_succ]; rfl
theorem repeat7 (c : UInt8) (n : Nat) (hn : n ≤ 1000000) (W : World) : Calls Tryz.prog 29 #[.string ⟨#[c]⟩, .int .i64 (n : Nat)] W fun e w' => e = .returned (.string (str (List.replicate n c))) ∧ Below W.heap.size W w' := by
  have h := Tryz.strings_Repeat (⟨#[c]⟩ : ByteArray) n W (by omega) (by simp [ByteArray.size]; omega)
  have e : (⟨(Lib.repeatL (⟨#[c]⟩ : ByteArray).data.toList n).toArray⟩ : ByteArray) = str (List.replicate n c) := by
    have h : (⟨#[c]⟩ : ByteArray).data.toList = [c] := rfl
    rw [h, repL7]
    rfl
  rw [e] at h
  exact h
theorem cameSc7 {W : World} (x : C9.Sc) (hx : C9.Wf x) {g : Nat} (hb : Bx W g 96 (C9.scc x)) : C9.CameSc W (.slice (some ⟨g, 0, none⟩) 1 1) [x] :=
  ⟨⟨some ⟨g, 0, none⟩, 1, g, 0, rfl, Nat.le_refl _, fun i hi => ⟨rfl, fun j u hu => by
    obtain rfl : i = 0 := by simp at hi; omega
    rw [Nat.zero_mul, Nat.zero_add]
    exact hb.cell hu⟩⟩, fun i hi => by
    obtain rfl : i = 0 := by simp at hi; omega
    exact hx, by simp⟩
def zD : List UInt8 := List.replicate 2048 0
theorem zD_len : zD.length = 2048 := List.length_replicate ..
theorem rec_at (lba : Int) {d : List UInt8} (h0 : -150 ≤ lba) (h1 : lba ≤ 449849) (hd : d.length = 2048) {j : Nat} (h : 12 ≤ j) (hj : j < 2064) : G.ix (rec lba d) j = G.ix (bldH lba d) j ^^^ kbU (j - 12) 8 := by
  unfold rec scrL
  rw [scrK_ix _ _ (by omega)]
  unfold scrB
  rw [if_pos (by omega), (par_good h0 h1 hd).byte hj]
theorem rec_head : ((rec 0 zD).drop 12).take (16 - 12) = [1, 130, 0, 97] := by
  apply G.ext_ix
  · rw [List.length_take, List.length_drop, rec_len]; rfl
  · intro i hi
    have hi4 : i < 4 := by rw [List.length_take] at hi; omega
    have e : G.ix (((rec 0 zD).drop 12).take (16 - 12)) i = G.ix (rec 0 zD) (12 + i) := by
      unfold G.ix
      rw [List.getD_eq_getElem?_getD, List.getD_eq_getElem?_getD, List.getElem?_take_of_lt (by omega), List.getElem?_drop]
    rw [e, rec_at 0 (by decide) (by decide) zD_len (by omega) (by omega)]
    have hc : i = 0 ∨ i = 1 ∨ i = 2 ∨ i = 3 := by omega
    rcases hc with rfl | rfl | rfl | rfl <;> decide +kernel
end Go.Proofs.YtflmjdjkfognjaaGreat.T7
namespace Go.Proofs.YtflmjdjkfognjaaGreat.D12
open C9 Go.RowKit
set_option linter.unusedVariables false
structure Sec where
  st : Nat
  cnt : Nat
  raw : List UInt8
  er : Nat → Bool
  ch : Nat → UInt8
structure Med where
  kind : Nat
  endu : Nat
  secs : List Sec
  scr : List Sc
def blank : Sec := ⟨0, 0, [], fun _ => false, fun _ => 0⟩
def Med.n (M : Med) : Nat := M.secs.length
def Med.sec (M : Med) (i : Nat) : Sec := atD blank M.secs i
def Med.put (M : Med) (i : Nat) (s : Sec) : Med := { M with secs := M.secs.set i s }
theorem Med.put_n (M : Med) (i : Nat) (s : Sec) : (M.put i s).n = M.n := by simp [Med.put, Med.n]
theorem Med.put_sec (M : Med) {i : Nat} (s : Sec) (h : i < M.n) : (M.put i s).sec i = s := atD_set_eq _ _ _ h
theorem Med.put_other (M : Med) {i k : Nat} (s : Sec) (h : k ≠ i) : (M.put i s).sec k = M.sec k := atD_set_ne _ _ _ _ h
def lostL (n : Nat) (scr : List Sc) : List Int := lostN scr (98 * n)
def lostP (n : Nat) (scr : List Sc) (i k : Nat) : Bool := decide (((2352 * i + k : Nat) : Int) ∈ lostL n scr)
def Med.goneP (M : Med) (i k : Nat) : Bool := (M.sec i).er k || lostP M.n M.scr i k
def Med.gone (M : Med) (i : Nat) : List Int := ((List.range 2352).filter (M.goneP i)).map Int.ofNat
def byteA (l : List UInt8) (k : Nat) : UInt8 := atD 0 l k
def Med.out (M : Med) (i : Nat) : List UInt8 := (List.range 2352).map fun k => if M.goneP i k = true then 0 else byteA (M.sec i).raw k ^^^ (M.sec i).ch k
def Med.readR (M : Med) (a : Int) : List UInt8 × List Int × Int :=
  if 0 ≤ a ∧ a < M.n then
    if (M.sec a.toNat).st = 0 then ([], [], 8) else if (M.sec a.toNat).st = 1 then (M.out a.toNat, M.gone a.toNat, 0) else ([], [], 9)
  else ([], [], 2)
def Med.cleanP (M : Med) (i : Nat) : Prop := (M.sec i).st = 1 ∧ M.gone i = [] ∧ ∀ k, k < 2352 → (M.sec i).ch k = 0
open Classical in
noncomputable def Med.cleanR (M : Med) (a : Int) : Bool := decide ((0 ≤ a ∧ a < M.n) ∧ M.cleanP a.toNat)
def Med.stateR (M : Med) (a : Int) : Int × Int := if 0 ≤ a ∧ a < M.n then ((M.sec a.toNat).st, 0) else (0, 2)
structure Dam where
  lba : Int
  er : List Int
  ch : List (Int × Int)
def chOk1 (c : Int × Int) : Prop := (0 ≤ c.1 ∧ c.1 < 2352) ∧ 1 ≤ c.2 ∧ c.2 ≤ 255
def Dam.Ok (d : Dam) (n : Nat) : Prop := (0 ≤ d.lba ∧ d.lba < n) ∧ ((∀ x ∈ d.er, 0 ≤ x ∧ x < 2352) ∧ d.er.Pairwise (· < ·)) ∧ ∀ c ∈ d.ch, chOk1 c
def b8 (x : Int) : UInt8 := UInt8.ofNat (x % 256).toNat
def erF (f : Nat → Bool) (l : List Int) : Nat → Bool := fun k => f k || decide ((k : Int) ∈ l)
def ch1 (f : Nat → UInt8) (c : Int × Int) : Nat → UInt8 := fun k => if (k : Int) = c.1 then f k ^^^ b8 c.2 else f k
def chF (f : Nat → UInt8) (l : List (Int × Int)) : Nat → UInt8 := l.foldl ch1 f
theorem erF_nil (f : Nat → Bool) : erF f [] = f := by funext k; simp [erF]
theorem erF_snoc (f : Nat → Bool) (l : List Int) (x : Int) : erF f (l ++ [x]) = fun (k : Nat) => if (k : Int) = x then true else erF f l k := by
  funext k; by_cases h : (k : Int) = x <;> simp [erF, h]
theorem chF_snoc (f : Nat → UInt8) (l : List (Int × Int)) (c : Int × Int) : chF f (l ++ [c]) = ch1 (chF f l) c := by simp [chF]
open Classical in
noncomputable def Med.damage (M : Med) (d : Dam) : Int × Med :=
  if d.Ok M.n then (0, M.put d.lba.toNat { M.sec d.lba.toNat with er := erF (M.sec d.lba.toNat).er d.er, ch := chF (M.sec d.lba.toNat).ch d.ch }) else (1, M)
structure Sec.Ok (s : Sec) (N : Nat) : Prop where
  st : s.st ≤ 3
  cnt : s.cnt ≤ N
  one : s.st = 1 → s.raw.length = 2352
  raw : s.raw.length ≤ 2352
  er : ∀ k, s.er k = true → k < 2352
  ch : ∀ k, s.ch k ≠ 0 → k < 2352
structure Med.Ok (M : Med) (N : Nat) : Prop where
  kind : M.kind ≤ 2
  endu : 1 ≤ M.endu ∧ M.endu ≤ 1048576
  n : 1 ≤ M.n ∧ M.n ≤ 4096
  sec : ∀ i, i < M.n → (M.sec i).Ok N
  scr : M.scr.length ≤ 256
  fit : fitA (98 * M.n + 108) M.scr = true
theorem Sec.Ok.mono {s : Sec} {N K : Nat} (h : s.Ok N) (hk : N ≤ K) : s.Ok K := ⟨h.st, Nat.le_trans h.cnt hk, h.one, h.raw, h.er, h.ch⟩
theorem Med.Ok.mono {M : Med} {N K : Nat} (h : M.Ok N) (hk : N ≤ K) : M.Ok K := ⟨h.kind, h.endu, h.n, fun i hi => (h.sec i hi).mono hk, h.scr, h.fit⟩
theorem Med.Ok.put {M : Med} {N : Nat} (h : M.Ok N) {i : Nat} {s : Sec} (hi : i < M.n) (hs : s.Ok N) : (M.put i s).Ok N := by
  refine ⟨h.kind, h.endu, by rw [Med.put_n]; exact h.n, fun k hk => ?_, h.scr, by rw [Med.put_n]; exact h.fit⟩
  rw [Med.put_n] at hk
  by_cases e : k = i
  · subst e; rw [Med.put_sec _ _ hi]; exact hs
  · rw [Med.put_other _ _ e]; exact h.sec k hk
theorem chF_lt : ∀ (l : List (Int × Int)) (f : Nat → UInt8), (∀ k, f k ≠ 0 → k < 2352) → (∀ c ∈ l, chOk1 c) → ∀ k, chF f l k ≠ 0 → k < 2352
  | [], f, hf, _, k, h => hf k h
  | c :: l, f, hf, hl, k, h => by
    refine chF_lt l (ch1 f c) (fun j hj => ?_) (fun c hc => hl c (.tail _ hc)) k h
    have := hl c (.head _)
    unfold chOk1 at this
    unfold ch1 at hj
    split at hj
    · omega
    · exact hf j hj
theorem Med.Ok.damage {M : Med} {N : Nat} (h : M.Ok N) (d : Dam) : (M.damage d).2.Ok N := by
  unfold Med.damage
  split
  · rename_i hd
    obtain ⟨h1, h2, h3⟩ := hd
    have hi : d.lba.toNat < M.n := by omega
    have hs := h.sec _ hi
    refine h.put hi ⟨hs.st, hs.cnt, hs.one, hs.raw, fun k hk => ?_, chF_lt _ _ hs.ch h3⟩
    simp only [erF, Bool.or_eq_true, decide_eq_true_eq] at hk
    rcases hk with hk | hk
    · exact hs.er k hk
    · have := h2.1 _ hk; omega
  · exact h
structure AC where
  kind : Int
  at_ : Int
  byte : Int
  short : Bool
  scr : List Sc
  dam : Dam
theorem mem_gone (M : Med) (i : Nat) (x : Int) : x ∈ M.gone i ↔ ∃ k : Nat, k < 2352 ∧ M.goneP i k = true ∧ x = k := by
  simp only [Med.gone, List.mem_map, List.mem_filter, List.mem_range]
  constructor
  · rintro ⟨k, ⟨h1, h2⟩, rfl⟩; exact ⟨k, h1, h2, rfl⟩
  · rintro ⟨k, h1, h2, rfl⟩; exact ⟨k, ⟨h1, h2⟩, rfl⟩
theorem gone_sorted (M : Med) (i : Nat) : (M.gone i).Pairwise (· < ·) := by
  unfold Med.gone
  rw [List.pairwise_map]
  exact (List.Pairwise.filter _ List.pairwise_lt_range).imp fun h => by simpa using h
theorem gone_bd (M : Med) (i : Nat) : ∀ x ∈ M.gone i, 0 ≤ x ∧ x < 2352 := fun x hx => by
  obtain ⟨k, h, _, rfl⟩ := (mem_gone M i x).1 hx; omega
theorem sorted_eq {l m : List Int} (hl : l.Pairwise (· < ·)) (hm : m.Pairwise (· < ·)) (h : ∀ z, z ∈ l ↔ z ∈ m) : l = m := by
  have hln : l.Nodup := hl.imp fun h e => by omega
  have hmn : m.Nodup := hm.imp fun h e => by omega
  exact ((List.perm_ext_iff_of_nodup hln hmn).2 h).eq_of_pairwise (le := (· ≤ ·)) (fun a b _ _ h1 h2 => by omega) (hl.imp Int.le_of_lt) (hm.imp Int.le_of_lt)
theorem out_length (M : Med) (i : Nat) : (M.out i).length = 2352 := by simp [Med.out]
end Go.Proofs.YtflmjdjkfognjaaGreat.D12
namespace Go.Proofs.YtflmjdjkfognjaaGreat.Mp
open Go.RowKit Go.Maps Go.MapKept
set_option linter.unusedVariables false
section
variable {H : Type} {R : Value → Option (DataW H × List MemPlace)} {w : World} {b n : Nat} {D : DataW H}
theorem keyedI : Keyed Tryz.prog 3 := int_keyed Tryz.underlying3
theorem perm_keysI (hown : w.ownsMap Tryz.prog 3 R b n D) {K : List Int} (hK : K.Nodup) (hm : ∀ x, x ∈ K ↔ Maps.has D (.int .i64 x) = true) : K.Perm (intKeys D) := by
  obtain ⟨es, hD, hpw, _⟩ := hown.entries keyedI
  obtain ⟨es', hD', hko⟩ := hown.keysOf
  obtain rfl : es = es' := by rw [hD] at hD'; simpa using hD'
  subst hD
  exact perm_intKeys hpw (fun p hp => by obtain ⟨v, hv⟩ := hko p hp; obtain ⟨x, _, hx, _⟩ := Maps.keyOf_i64 Tryz.underlying3 hv; exact ⟨x, hx⟩) hK hm
def keysB (D : DataW H) (N : Nat) : List Int := ((List.range N).filter fun k => Maps.has D (.int .i64 (k : Nat))).map Int.ofNat
theorem mem_keysB {N : Nat} (hk : ∀ x : Int, Maps.has D (.int .i64 x) = true → 0 ≤ x ∧ x < N) (x : Int) : x ∈ keysB D N ↔ Maps.has D (.int .i64 x) = true := by
  unfold keysB
  simp only [List.mem_map, List.mem_filter, List.mem_range]
  constructor
  · rintro ⟨k, ⟨_, h⟩, rfl⟩; exact h
  · intro h
    obtain ⟨h1, h2⟩ := hk x h
    obtain ⟨y, rfl⟩ : ∃ y : Nat, x = y := ⟨x.toNat, by omega⟩
    exact ⟨y, ⟨by omega, h⟩, rfl⟩
theorem keysB_sorted (D : DataW H) (N : Nat) : (keysB D N).Pairwise (· < ·) := by
  unfold keysB
  rw [List.pairwise_map]
  exact (List.Pairwise.filter _ List.pairwise_lt_range).imp fun h => by simpa using h
theorem keysB_length (D : DataW H) (N : Nat) : (keysB D N).length ≤ N := by
  unfold keysB
  rw [List.length_map]
  exact Nat.le_trans (List.length_filter_le _ _) (by simp)
theorem tight {N : Nat} (hown : w.ownsMap Tryz.prog 3 R b n D) (hk : ∀ x : Int, Maps.has D (.int .i64 x) = true → 0 ≤ x ∧ x < N) : w.ownsMap Tryz.prog 3 R b N D := by
  have hnd : (keysB D N).Nodup := (keysB_sorted D N).imp fun h e => by omega
  have hp := perm_keysI hown hnd (mem_keysB hk)
  have hl := hp.length_eq
  have hb := keysB_length D N
  obtain ⟨es0, hD, _, _⟩ := hown.entries keyedI
  subst hD
  have e : (intKeys (DataW.map es0)).length = Maps.size (DataW.map es0) := by simp [intKeys, Maps.size]
  obtain ⟨es, clock, hb0, F, hs, hD⟩ := hown
  refine ⟨es, clock, hb0, F, ?_, hD⟩
  have e2 : Maps.size (DataW.map es0) = es.size := by rw [hD]; simp [Maps.size, length_sorted]
  omega
end
def rawE (v : Value) : Option (DataW Value × List MemPlace) := some (.held v, [])
end Go.Proofs.YtflmjdjkfognjaaGreat.Mp
