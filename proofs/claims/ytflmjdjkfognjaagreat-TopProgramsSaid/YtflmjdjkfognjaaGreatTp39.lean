/- Shaken out of XSol1 XSol2 XSol3 XSol4 XAw4 XOpen XOpenI XSol5 XSol6 XDe XDf XIj XIk XQpl XTk -/
import Derived.Test.YtflmjdjkfognjaaGreatTp34
import Derived.Test.YtflmjdjkfognjaaGreatTp05
import Derived.Deep.LoopGhost
import Derived.Deep.RegionWith
import Derived.Deep.DeepMust
import Derived.Deep.CutBlock
import Derived.Deep.DeepCutAuto
import Derived.RegionTactic
import Derived.ChangeAlike
import Derived.Test.YtflmjdjkfognjaaGreatTp07
import Derived.WalkKit
import Derived.ProofKit
import Derived.OpenShut
import Derived.ShutString
import Derived.ChangeOld
import Derived.Below
import Derived.Test.YtflmjdjkfognjaaGreatTp17
import Derived.Test.YtflmjdjkfognjaaGreatTp38
import Derived.Test.YtflmjdjkfognjaaGreatTp36
import Derived.Test.YtflmjdjkfognjaaGreatTp31
import Derived.Test.YtflmjdjkfognjaaGreatTp21
import Derived.Test.YtflmjdjkfognjaaGreatTp35
import Derived.Test.YtflmjdjkfognjaaGreatShelf
import Derived.Test.YtflmjdjkfognjaaGreatTp24
import Derived.Test.YtflmjdjkfognjaaGreatTp29
import Derived.Test.YtflmjdjkfognjaaGreatChecked
import Derived.Test.YtflmjdjkfognjaaGreatTp01
import Derived.Laws.StructEq
import Derived.IntWalk
namespace Go.Proofs.YtflmjdjkfognjaaGreat
open Go.RowKit
set_option linter.unusedVariables false
theorem Tryz.infoI64 : (Tryz.prog.info? 3).map (fun i => (i.zero, i.size, i.bytes)) = some (some (.int .i64 0), 1, 8) := by kernel_rfl
/-- ints as cells -/
def is (l : List Int) : List Value := l.map (Value.int .i64)
theorem is_append (l m : List Int) : is (l ++ m) = is l ++ is m := by simp [is]
theorem is_length (l : List Int) : (is l).length = l.length := by simp [is]
theorem is_one (l : List Int) : ∀ u ∈ is l, u.oneCell' = true := by
  intro u hu
  simp only [is, List.mem_map] at hu
  obtain ⟨c, _, rfl⟩ := hu
  rfl
theorem is_get {l : List Int} {i : Nat} (h : i < l.length) : (is l)[i]? = some (.int .i64 (ixI l i)) := by
  simp [is, ixI, h]
/-- an owned row of ints can be read -/
theorem RdI.ofOwn {w : World} {base e : Nat} {v : Value} {l : List Int} (h : w.ownsRow base e 1 v l.length (is l)) (hl : l.length ≤ 17592186044416) (hr : ∀ x ∈ l, -9223372036854775808 ≤ x ∧ x ≤ 9223372036854775807) : RdI w v l := by
  refine ⟨hl, ?_, fun i hi => hr _ (ixI_mem hi)⟩
  rcases h.2 with ⟨rfl, h0⟩ | ⟨g, cap, cur, rfl, hg, hh, hn, hm, hcs, ht⟩
  · rw [h0]; exact ⟨none, 0, 0, 0, rfl, by omega, fun i hi => by omega⟩
  · refine ⟨_, cap, g, 0, rfl, hn, fun i hi => ⟨rfl, ?_⟩⟩
    rw [Nat.zero_add, h.cellAt i (by omega), is_get hi]
/-- 'append(v, x)' at ints: the new one lies in a literal -/
theorem wpList_appI {P : Program} {ops : Array Oper} {rest : List Oper} {o : Oper} {a : Act} {Q : Exit → Act → World → Prop} {w : World} (hg : o.guard = none) (s x : Operand) {t : TypeId}
    (hop : o.op = .call { callee := .builtin .append, args := #[s, x], argTypes := #[t, t] }) {e : TypeId} {base : Nat}
    (ht : P.underlying t = some (.slice e)) (h2 : (P.info? e).map (fun i => (i.zero, i.size, i.bytes)) = some (some (.int .i64 0), 1, 8))
    {v : Value} {n : Nat} {l : List Int} (hown : w.ownsRow base e 1 v n (is l)) (hv : a.eval s = v) {g : Nat} {y : Int} (hc : w.cell? ⟨g, 0, none⟩ = some (.int .i64 y)) (hx : a.eval x = .slice (some ⟨g, 0, none⟩) 1 1)
    (h63 : n ≤ 1073741824) (hbase : base ≤ w.heap.size)
    (hK : ∀ v' w', w'.ownsRow base e 1 v' (n + 1) (is (l ++ [y])) → w.grownBy w' v.ownBlock → wpList P ops Q rest (a.put o.dst v') w') : wpList P ops Q (o :: rest) a w := by
  obtain ⟨i0, hi, hz0, hz1, hz2⟩ := info_parts h2
  refine wpList_app hg s x hop ht hi hz0 hz1 hz2 rfl (by omega) hown hv (m := 1) (news := is [y]) ⟨by simp [is], _, 1, g, 0, rfl, Nat.le_refl _, fun i u hu => ?_⟩ hx (is_one _) (by unfold maxLen; omega) (by omega) hbase fun v' w' g1 g2 g3 => ?_
  · have hi0 : i = 0 := by
      by_cases h : i = 0
      · exact h
      · simp [is, h] at hu
    subst hi0
    simp only [is, List.map_cons, List.map_nil, List.getElem?_cons_zero, Option.some.injEq] at hu
    subst hu
    exact ⟨rfl, hc⟩
  · rw [← is_append] at g1
    exact hK v' w' g1 g2
end Go.Proofs.YtflmjdjkfognjaaGreat
namespace Go.Proofs.YtflmjdjkfognjaaGreat
open Go.RowKit
set_option linter.unusedVariables false
end Go.Proofs.YtflmjdjkfognjaaGreat
namespace Go.Proofs.YtflmjdjkfognjaaGreat
open Go.RowKit
set_option linter.unusedVariables false
/-- a row of bytes that is not empty, at the head of a block of bytes -/
def RdT (w : World) (v : Value) (l : List UInt8) : Prop :=
  l.length ≤ 1000 ∧ ∃ cap bb cur fz, v = .slice (some ⟨bb, 0, none⟩) l.length cap ∧ l.length ≤ cap ∧ w.heap[bb]? = some (.cells cur 5 fz) ∧ ∀ i, i < l.length → w.cell? ⟨bb, i, none⟩ = some (B (G.ix l i))
theorem RdT.rd {w : World} {v : Value} {l : List UInt8} (h : RdT w v l) : Rd w v l := by
  obtain ⟨h0, cap, bb, cur, fz, rfl, hc, hg, h⟩ := h
  exact ⟨by omega, _, cap, bb, 0, rfl, hc, fun i hi => ⟨rfl, by rw [Nat.zero_add]; exact h i hi⟩⟩
theorem RdT.keepW {w w' : World} {v : Value} {l : List UInt8} (h : RdT w v l) (hk : ∀ (k : Nat) (cur : Array Value) (fz : Nat × Nat), w.heap[k]? = some (Obj.cells cur 5 fz) → w'.heap[k]? = w.heap[k]?) : RdT w' v l := by
  obtain ⟨h0, cap, bb, cur, fz, rfl, hc, hg, h⟩ := h
  have e := hk bb cur fz hg
  exact ⟨h0, cap, bb, cur, fz, rfl, hc, e.trans hg, fun i hi => by rw [← h i hi]; exact World.cell?_of_block e⟩
theorem RdT.below {w w' : World} {v : Value} {l : List UInt8} (h : RdT w v l) (hb : Below w.heap.size w w') : RdT w' v l := h.keepW fun k cur fz hk => hb.block k (Array.getElem?_eq_some_iff.1 hk).1
theorem RdT.ofOwn {w : World} {base n : Nat} {v : Value} {l : List UInt8} (h : w.ownsRow base 5 1 v n (bs l)) (hn : l.length = n) (h0 : 0 < n) (hl : n ≤ 1000) : RdT w v l := by
  subst hn
  rcases h.2 with ⟨rfl, h1⟩ | ⟨g, cap, cur, rfl, hg, hh, hn, hm, hcs, ht⟩
  · omega
  · refine ⟨hl, cap, g, cur, _, rfl, hn, hh, fun i hi => ?_⟩
    rw [h.cellAt i (by omega), bs_get hi]
theorem RdT.form {w : World} {v : Value} {l : List UInt8} (h : RdT w v l) {k : Nat} (hk : l.length = k) : ∃ cap bb, v = .slice (some ⟨bb, 0, none⟩) k cap := by
  obtain ⟨h0, cap, bb, cur, fz, rfl, _⟩ := h
  exact ⟨cap, bb, by rw [hk]⟩
theorem RdT.byte {w : World} {v : Value} {l : List UInt8} (h : RdT w v l) {m : Nat} (hl : l.length = m) (k : Nat) (hk : k < m) : ∃ cap bb, v = .slice (some ⟨bb, 0, none⟩) m cap ∧ w.cell? ⟨bb, k, none⟩ = some (B (G.ix l k)) ∧ m ≤ cap := by
  obtain ⟨h0, cap, bb, cur, fz, rfl, hc, _, h⟩ := h
  exact ⟨cap, bb, by rw [hl], h k (by omega), by omega⟩
theorem RdT.one {w : World} {v : Value} {l : List UInt8} (h : RdT w v l) : v.oneCell' = true := by
  obtain ⟨h0, cap, bb, cur, fz, rfl, _⟩ := h; rfl
/-- block 'g' holds rows -/
def RowsM (w : World) (g : Nat) (R : List (List UInt8)) : Prop :=
  ∃ cur, w.heap[g]? = some (.cells cur 123 (0, 0)) ∧ R.length ≤ cur.size ∧ ∀ i, i < R.length → ∃ v, cur[i]? = some v ∧ RdT w v (G.rw_ R i)
theorem RowsM.lt {w : World} {g : Nat} {R : List (List UInt8)} (h : RowsM w g R) : g < w.heap.size := by
  obtain ⟨cur, hg, _⟩ := h; exact (Array.getElem?_eq_some_iff.1 hg).1
theorem RowsM.cell {w : World} {g : Nat} {R : List (List UInt8)} (h : RowsM w g R) (i : Nat) (hi : i < R.length) : ∃ v, w.cell? ⟨g, i, none⟩ = some v ∧ RdT w v (G.rw_ R i) := by
  obtain ⟨cur, hg, hs, h⟩ := h
  obtain ⟨v, hv, hr⟩ := h i hi
  exact ⟨v, by rw [cell_of_row w g i cur _ _ hg]; exact hv, hr⟩
theorem RowsM.frozen {w : World} {g : Nat} {R : List (List UInt8)} (h : RowsM w g R) (i : Nat) : w.frozen? ⟨g, i, none⟩ = false := by
  obtain ⟨cur, hg, hs, h⟩ := h
  simp [World.frozen?, hg]
theorem RowsM.below {w w' : World} {g : Nat} {R : List (List UInt8)} (h : RowsM w g R) (hb : Below w.heap.size w w') : RowsM w' g R := by
  have hlt := h.lt
  obtain ⟨cur, hg, hs, h⟩ := h
  exact ⟨cur, (hb.block g hlt).trans hg, hs, fun i hi => by obtain ⟨v, hv, hr⟩ := h i hi; exact ⟨v, hv, hr.below hb⟩⟩
theorem RowsM.drew {w : World} {g : Nat} {R : List (List UInt8)} (h : RowsM w g R) : RowsM w.drew g R := h.below ⟨rfl, rfl, rfl, Nat.le_refl _, fun _ _ => rfl⟩
theorem RowsM.store {w : World} {g : Nat} {R : List (List UInt8)} (h : RowsM w g R) (i : Nat) (hi : i < R.length) {v : Value} {l : List UInt8} (hv : RdT w v l) : RowsM (w.setCell ⟨g, i, none⟩ v) g (R.set i l) := by
  obtain ⟨cur, hg, hs, h⟩ := h
  have hkeep : ∀ (k : Nat) (c : Array Value) (fz : Nat × Nat), w.heap[k]? = some (Obj.cells c 5 fz) → (w.setCell ⟨g, i, none⟩ v).heap[k]? = w.heap[k]? := fun k c fz hk => by
    by_cases e : k = g
    · subst e
      rw [hg] at hk
      simp at hk
    · exact Below.heap_setCell _ _ _ _ e
  refine ⟨cur.setIfInBounds i v, ?_, by simpa using hs, fun j hj => ?_⟩
  · rw [setCell_eq_setRow w g i cur _ _ v hg]
    exact setRow_heap w g cur _ _ _ hg
  · rw [List.length_set] at hj
    by_cases e : j = i
    · subst e
      refine ⟨v, by simp [(by omega : j < cur.size)], ?_⟩
      rw [G.rw_set_self _ _ _ hj]
      exact hv.keepW hkeep
    · obtain ⟨u, hu, hr⟩ := h j hj
      refine ⟨u, by rw [Array.getElem?_setIfInBounds_ne (by omega)]; exact hu, ?_⟩
      rw [G.rw_set_ne _ _ e]
      exact hr.keepW hkeep
/-- a slice of the call's own that grows by rows -/
def Bld (w : World) (base : Nat) (v : Value) (R : List (List UInt8)) : Prop :=
  ∃ vs, w.ownsRow base 123 1 v R.length vs ∧ vs.length = R.length ∧ ∀ i, i < R.length → ∃ u, vs[i]? = some u ∧ RdT w u (G.rw_ R i)
theorem Bld.below {w w' : World} {base : Nat} {v : Value} {R : List (List UInt8)} (h : Bld w base v R) (hb : Below w.heap.size w w') : Bld w' base v R := by
  obtain ⟨vs, h1, h2, h3⟩ := h
  exact ⟨vs, own_keep h1 hb, h2, fun i hi => by obtain ⟨u, hu, hr⟩ := h3 i hi; exact ⟨u, hu, hr.below hb⟩⟩
theorem Bld.ge {w : World} {base : Nat} {v : Value} {R : List (List UInt8)} (h : Bld w base v R) : ∀ k, v.ownBlock = some k → base ≤ k := by
  obtain ⟨vs, h1, _⟩ := h; exact ownBlock_ge h1
end Go.Proofs.YtflmjdjkfognjaaGreat
namespace Go.Proofs.YtflmjdjkfognjaaGreat
open Go.RowKit
set_option linter.unusedVariables false
end Go.Proofs.YtflmjdjkfognjaaGreat
namespace Go.Proofs.YtflmjdjkfognjaaGreat
open Go.RowKit
set_option linter.unusedVariables false
end Go.Proofs.YtflmjdjkfognjaaGreat
namespace Go.Proofs.YtflmjdjkfognjaaGreat
open Go.ChangeShapes Go.WideShapes Go.ChangeAt Go.RowKit
set_option linter.unusedVariables false
section
variable {H : Type} {enc : TypeId × Value → H} {P : Program} {w : World} {base b0 : Nat} {held : Bool}
end
end Go.Proofs.YtflmjdjkfognjaaGreat
namespace Go.Proofs.YtflmjdjkfognjaaGreat
open Go.ChangeShapes Go.WideShapes Go.ChangeAt Go.RowKit
set_option linter.unusedVariables false
theorem RdI.nil (w : World) : RdI w (.slice none 0 0) [] := ⟨by simp, ⟨none, 0, 0, 0, rfl, by simp, fun i hi => by simp at hi⟩, fun i hi => by simp at hi⟩
section
variable {H : Type} {enc : TypeId × Value → H} {w : World} {base b0 : Nat} {held : Bool}
end
/-- a slice of uint16 that is only read -/
def RdU (w : World) (v : Value) (l : List Int) : Prop :=
  l.length ≤ 17592186044416 ∧ (∃ a cap b off, v = .slice a l.length cap ∧ l.length ≤ cap ∧ ∀ i, i < l.length → a = some ⟨b, off, none⟩ ∧ w.cell? ⟨b, off + i, none⟩ = some (.int .u16 (ixI l i))) ∧ ∀ i, i < l.length → 0 ≤ ixI l i ∧ ixI l i ≤ 65535
theorem RdU.nil (w : World) : RdU w (.slice none 0 0) [] := ⟨by simp, ⟨none, 0, 0, 0, rfl, by simp, fun i hi => by simp at hi⟩, fun i hi => by simp at hi⟩
section
variable {H : Type} {enc : TypeId × Value → H} {w : World} {base b0 : Nat} {held : Bool}
end
end Go.Proofs.YtflmjdjkfognjaaGreat
namespace Go.Proofs.YtflmjdjkfognjaaGreat
open Go.RowKit
set_option linter.unusedVariables false
end Go.Proofs.YtflmjdjkfognjaaGreat
namespace Go.Proofs.YtflmjdjkfognjaaGreat
open Go.RowKit
set_option linter.unusedVariables false
end Go.Proofs.YtflmjdjkfognjaaGreat
namespace Go.Proofs.YtflmjdjkfognjaaGreat.C9
open Go.RowKit W8
set_option linter.unusedVariables false
end Go.Proofs.YtflmjdjkfognjaaGreat.C9
namespace Go.Proofs.YtflmjdjkfognjaaGreat.C9
open Go.ChangeShapes Go.WideShapes Go.RowKit Go.Deep W8
set_option linter.unusedVariables false
theorem pdecC_any (va : Value) (F : List (List UInt8)) (w : World) (hF : RdStr w va F) (hl : F.length ≤ 9223372036854775807) : Calls Tryz.prog 32 #[va] w (DecP (decR F) w) := by
  unfold decR
  by_cases h : F.length < 109 ∨ 892 < F.length
  · rw [if_pos h]
    exact pdecode_len va F w hF hl h
  · rw [if_neg h]
    exact pdecode_ok va F (F.length - 108) w hF (by omega) (by omega) (by omega)
theorem decR_bd (F : List (List UInt8)) : (decR F).2.1.length ≤ 22000 ∧ ∀ x ∈ (decR F).2.1, -9223372036854775808 ≤ x ∧ x ≤ 9223372036854775807 := by
  unfold decR
  split
  · simp
  · split
    · simp
    · have h1 := lstD_length F (F.length - 108)
      refine ⟨by simp only; omega, fun x hx => ?_⟩
      have := lstD_bd F (F.length - 108) x hx
      omega
theorem DecP.rd {F : List (List UInt8)} {w w' : World} {e : Ending} (h : DecP (decR F) w e w') : ∃ v, e = .returned (.tuple #[.string (str (decR F).1), v, .int .i64 (decR F).2.2]) ∧ RdI w' v (decR F).2.1 ∧ Below w.heap.size w w' := by
  obtain ⟨v, he, ho, hb⟩ := h
  obtain ⟨h1, h2⟩ := decR_bd F
  exact ⟨v, he, rdI_own ho rfl (by omega) h2, hb⟩
section
variable {H : Type} {enc : TypeId × Value → H} {w : World} {base b0 : Nat} {sp : Nat → Bool} {held : Bool}
end
end Go.Proofs.YtflmjdjkfognjaaGreat.C9
namespace Go.Proofs.YtflmjdjkfognjaaGreat.T7
open Go Go.RowKit W10
set_option linter.unusedVariables false
/-- a built sector with parity -/
def par (lba : Int) (d : List UInt8) : List UInt8 := W8.encN (bld lba d) (W8.fstI 0) 138
/-- what lies on the disc -/
def rec (lba : Int) (d : List UInt8) : List UInt8 := scrL (par lba d)
theorem par_len (lba : Int) {d : List UInt8} (h : d.length = 2048) : (par lba d).length = 2352 := by
  unfold par
  rw [W8.encN_length, bld_len lba h]
theorem rec_len (lba : Int) (d : List UInt8) : (rec lba d).length = 2352 := scrL_len _
theorem rec_par (lba : Int) {d : List UInt8} (h : d.length = 2048) : scrL (rec lba d) = par lba d := scrL_scrL (par_len lba h)
theorem par_good {lba : Int} {d : List UInt8} (h0 : -150 ≤ lba) (h1 : lba ≤ 449849) (hd : d.length = 2048) : Good (par lba d) lba d :=
  ⟨par_len lba hd, hd, h0, h1, W8.take_enc (bld_len lba hd)⟩
theorem par_valid {lba : Int} {d : List UInt8} (hd : d.length = 2048) : W8.vldB (par lba d) 0 = true := W8.vld_enc (bld_len lba hd) rfl
theorem encode_0 (lba : Int) (d : List UInt8) (hd : d.length = 2048) (w : World) : Calls Tryz.prog 77 #[.string (str (bld lba d)), .int .i64 0] w fun e w' => e = .returned (.tuple #[.string (str (par lba d)), .int .i64 0]) ∧ Below w.heap.size w w' := by
  have h := W8.encode8_any (bld lba d) 0 w (by rw [bld_len lba hd]; omega)
  rw [W8.enc8_ok (bld_len lba hd) rfl] at h
  dsimp only at h
  unfold par
  exact h
theorem valid_0 (lba : Int) (d : List UInt8) (hd : d.length = 2048) (w : World) : Calls Tryz.prog 35 #[.string (str (par lba d)), .int .i64 0] w fun e w' => e = .returned (.bool true) ∧ Below w.heap.size w w' := by
  have h := W8.valid8_any (par lba d) 0 w (by rw [par_len lba hd]; omega)
  rw [par_valid hd] at h
  exact h
theorem scramble_0 (lba : Int) (d : List UInt8) (hd : d.length = 2048) (w : World) : Calls Tryz.prog 33 #[.string (str (par lba d))] w fun e w' => e = .returned (.tuple #[.string (str (rec lba d)), .int .i64 0]) ∧ Below w.heap.size w w' := scramble_any _ (par_len lba hd) w
theorem descramble_0 (lba : Int) (d : List UInt8) (hd : d.length = 2048) (w : World) : Calls Tryz.prog 33 #[.string (str (rec lba d))] w fun e w' => e = .returned (.tuple #[.string (str (par lba d)), .int .i64 0]) ∧ Below w.heap.size w w' := by
  have h := scramble_any (rec lba d) (rec_len lba d) w
  rw [rec_par lba hd] at h
  exact h
set_option maxRecDepth 100000 in
set_option maxHeartbeats 4000000 in
theorem recorded_any (lba : Int) (d : List UInt8) (w : World) (h0 : -150 ≤ lba) (h1 : lba ≤ 449849) (hd : d.length = 2048) :
    Calls Tryz.prog 28 #[.int .i64 lba, .string (str d)] w fun e w' => e = .returned (.tuple #[.string (str (rec lba d)), .bool true]) ∧ Below w.heap.size w w' := by
  have HB := Lib.hid (fun W => build_0 lba d W h0 h1 hd)
  have HE := Lib.hid (fun W => encode_0 lba d hd W)
  have HS := Lib.hid (fun W => scramble_0 lba d hd W)
  have hsz := str_size (rec lba d)
  rw [rec_len] at hsz
  unfold secV at HB
  generalize str (rec lba d) = R at *
  generalize str (par lba d) = P at *
  generalize str (bld lba d) = BL at *
  generalize str d = D at *
  have hsz2 : R.data.size = 2352 := hsz
  clear h0 h1 hd
  go_enter Tryz.func28, Tryz.ntmps28
  go_wp2_with fail
  refine (HB.out w).mono ?_
  rintro e w1 ⟨rfl, hb1⟩
  go_wp2_with fail
  refine (HE.out w1).mono ?_
  rintro e w2 ⟨rfl, hb2⟩
  go_wp2_with fail
  refine (HS.out w2).mono ?_
  rintro e w3 ⟨rfl, hb3⟩
  have h2 := hb1.trans (hb2.mono hb1.size)
  have HL := Lib.hid (h2.trans (hb3.mono h2.size))
  clear hb1 hb2 hb3 h2
  go_wp2_with fail
  go_ret2
  exact ⟨rfl, HL.out⟩
theorem repL7 (c : UInt8) : ∀ n, Lib.repeatL [c] n = List.replicate n c
  | 0 => rfl
  | n + 1 => by rw [Lib.repeatL, repL7 c n, List.replicate_succ]; rfl
/-- 'strings.Repeat' of one byte -/
theorem repeat7 (c : UInt8) (n : Nat) (hn : n ≤ 1000000) (W : World) : Calls Tryz.prog 29 #[.string ⟨#[c]⟩, .int .i64 (n : Nat)] W fun e w' => e = .returned (.string (str (List.replicate n c))) ∧ Below W.heap.size W w' := by
  have h := Tryz.strings_Repeat (⟨#[c]⟩ : ByteArray) n W (by omega) (by simp [ByteArray.size]; omega)
  have e : (⟨(Lib.repeatL (⟨#[c]⟩ : ByteArray).data.toList n).toArray⟩ : ByteArray) = str (List.replicate n c) := by
    have h : (⟨#[c]⟩ : ByteArray).data.toList = [c] := rfl
    rw [h, repL7]
    rfl
  rw [e] at h
  exact h
theorem cameSc7 {W : World} (x : C9.Sc) (hx : C9.Wf x) {g : Nat} (hb : Bx W g 96 (C9.scc x)) : C9.CameSc W (.slice (some ⟨g, 0, none⟩) 1 1) [x] :=
  ⟨⟨some ⟨g, 0, none⟩, 1, g, 0, rfl, Nat.le_refl _, fun i hi => ⟨rfl, fun j u hu => by
    obtain rfl : i = 0 := by simp at hi; omega
    rw [Nat.zero_mul, Nat.zero_add]
    exact hb.cell hu⟩⟩, fun i hi => by
    obtain rfl : i = 0 := by simp at hi; omega
    exact hx, by simp⟩
/-- a sector of zero bytes -/
def zD : List UInt8 := List.replicate 2048 0
theorem zD_len : zD.length = 2048 := List.length_replicate ..
theorem rec_at (lba : Int) {d : List UInt8} (h0 : -150 ≤ lba) (h1 : lba ≤ 449849) (hd : d.length = 2048) {j : Nat} (h : 12 ≤ j) (hj : j < 2064) : G.ix (rec lba d) j = G.ix (bldH lba d) j ^^^ kbU (j - 12) 8 := by
  unfold rec scrL
  rw [scrK_ix _ _ (by omega)]
  unfold scrB
  rw [if_pos (by omega), (par_good h0 h1 hd).byte hj]
theorem rec_head : ((rec 0 zD).drop 12).take (16 - 12) = [1, 130, 0, 97] := by
  apply G.ext_ix
  · rw [List.length_take, List.length_drop, rec_len]; rfl
  · intro i hi
    have hi4 : i < 4 := by rw [List.length_take] at hi; omega
    have e : G.ix (((rec 0 zD).drop 12).take (16 - 12)) i = G.ix (rec 0 zD) (12 + i) := by
      unfold G.ix
      rw [List.getD_eq_getElem?_getD, List.getD_eq_getElem?_getD, List.getElem?_take_of_lt (by omega), List.getElem?_drop]
    rw [e, rec_at 0 (by decide) (by decide) zD_len (by omega) (by omega)]
    have hc : i = 0 ∨ i = 1 ∨ i = 2 ∨ i = 3 := by omega
    rcases hc with rfl | rfl | rfl | rfl <;> decide +kernel
end Go.Proofs.YtflmjdjkfognjaaGreat.T7
namespace Go.Proofs.YtflmjdjkfognjaaGreat.T7
open Go Go.RowKit W10
set_option linter.unusedVariables false
/-- the frames of a sector -/
def frs (lba : Int) (d : List UInt8) : List (List UInt8) := C9.frms (rec lba d) 98 206
theorem frs_len (lba : Int) (d : List UInt8) : (frs lba d).length = 206 := C9.frms_length _ _ _
theorem enc7 (lba : Int) (d : List UInt8) (w : World) : Calls Tryz.prog 30 #[.string (str (rec lba d))] w fun e w' => ∃ a c, e = .returned (.tuple #[.slice a 206 c, .int .i64 0]) ∧ C9.RdStr w' (.slice a 206 c) (frs lba d) ∧ Below w.heap.size w w' := by
  have h := C9.pencC_any (rec lba d) w (by rw [rec_len]; omega)
  have e : C9.encR (rec lba d) = (frs lba d, 0) := by
    unfold C9.encR
    rw [rec_len]
    rfl
  rw [e] at h
  refine h.mono fun e w' hq => ?_
  obtain ⟨v, rfl, hr, hb⟩ := C9.EncP.rd hq
  obtain ⟨a, c, rfl, hl⟩ := RdD.form hr
  dsimp only at hr hl ⊢
  rw [frs_len] at hr hl ⊢
  exact ⟨a, c, rfl, hr, hb⟩
theorem scr7 (lba : Int) (d : List UInt8) (x : C9.Sc) (hx : C9.Wf x) (hf : C9.fitB 206 x = true) (va v : Value) (w : World) (hF : C9.RdStr w va (frs lba d)) (hv : C9.CameSc w v [x]) : Calls Tryz.prog 31 #[va, v] w fun e w' => ∃ a c, e = .returned (.tuple #[.slice a 206 c, .int .i64 0]) ∧ C9.RdStr w' (.slice a 206 c) (C9.scrF (frs lba d) [x]) ∧ Below w.heap.size w w' := by
  have h := C9.pscratch_any va (frs lba d) v [x] w hF (by rw [frs_len]; omega) hv
  have e : C9.scrR (frs lba d) [x] = (C9.scrF (frs lba d) [x], 0) := by
    have hA : C9.fitA (frs lba d).length [x] = true := by rw [frs_len]; unfold C9.fitA; rw [List.all_cons, hf]; rfl
    unfold C9.scrR
    rw [hA, if_neg (by decide)]
  rw [e] at h
  refine h.mono fun e w' hq => ?_
  obtain ⟨v, rfl, hr, hb⟩ := C9.EncP.rd hq
  obtain ⟨a, c, rfl, hl⟩ := RdD.form hr
  dsimp only at hr hl ⊢
  rw [C9.scrF_length, frs_len] at hr hl ⊢
  exact ⟨a, c, rfl, hr, hb⟩
theorem dec7 (lba : Int) (d : List UInt8) (x : C9.Sc) (hx : x.c ≤ 16) (va : Value) (w : World) (hF : C9.RdStr w va (C9.scrF (frs lba d) [x])) : Calls Tryz.prog 32 #[va] w fun e w' => ∃ a c, e = .returned (.tuple #[.string (str (rec lba d)), .slice a 0 c, .int .i64 0]) ∧ Below w.heap.size w w' := by
  have h := C9.pdecC_any va _ w hF (by rw [C9.scrF_length, frs_len]; omega)
  have e : C9.decR (C9.scrF (frs lba d) [x]) = (rec lba d, [], 0) := C9.decR_none (n := 98) (by omega) (by omega) (rec_len lba d) (C9.near_scr (rec lba d) 98 [x]) (C9.lost_burst x hx 98)
  rw [e] at h
  refine h.mono fun e w' hq => ?_
  obtain ⟨v, he, ho, hb⟩ := hq
  dsimp only at he ho
  obtain ⟨a, c, rfl⟩ := ownD_form ho
  exact ⟨a, c, he, hb⟩
set_option maxRecDepth 100000 in
set_option maxHeartbeats 4000000 in
theorem coded_any (w : World) : Calls Tryz.prog 6 #[] w fun e w' => e = .returned (.bool true) ∧ Below w.heap.size w w' := by
  have HRP : Hid (∀ W : World, Calls Tryz.prog 29 #[.string ⟨#[0]⟩, .int .i64 2048] W fun e w' => e = .returned (.string (str zD)) ∧ Below W.heap.size W w') := Lib.hid (repeat7 0 2048 (by omega))
  have HRC := Lib.hid (fun W => recorded_any 0 zD W (by decide) (by decide) zD_len)
  have HEN := Lib.hid (fun W => enc7 0 zD W)
  have wf : C9.Wf ⟨50, 16⟩ := by unfold C9.Wf; decide
  have HSC := Lib.hid (fun va v W => scr7 0 zD ⟨50, 16⟩ wf (by decide) va v W)
  have HWF := Lib.hid wf
  have HDE := Lib.hid (fun va W => dec7 0 zD ⟨50, 16⟩ (by decide) va W)
  have HDS := Lib.hid (fun W => descramble_0 0 zD zD_len W)
  have HPA := Lib.hid (fun W => parse_0 (par_good (lba := 0) (by decide) (by decide) zD_len) W)
  have HVA := Lib.hid (fun W => valid_0 0 zD zD_len W)
  have s1 := fun W => sub_both (P := Tryz.prog) Tryz.underlying9 (rec 0 zD) 12 16 (by omega) (by rw [rec_len]; omega) 12 16 rfl rfl W
  rw [rec_head, show str [1, 130, 0, 97] = ⟨#[1, 130, 0, 97]⟩ from rfl] at s1
  have hsz := str_size (rec 0 zD)
  rw [rec_len] at hsz
  have hbb := C9.bytes_beq (str (rec 0 zD))
  unfold secV at HPA
  generalize frs 0 zD = F at *
  generalize str (rec 0 zD) = R at *
  generalize str (par 0 zD) = P at *
  generalize str zD = ZS at *
  have hsz2 : R.data.size = 2352 := hsz
  clear wf
  go_enter Tryz.func6, Tryz.ntmps6
  go_wp2_with fail
  refine (HRP.out w).mono ?_
  rintro e w1 ⟨rfl, hb1⟩
  go_wp2_with fail
  refine (HRC.out w1).mono ?_
  rintro e w2 ⟨rfl, hb2⟩
  have HA2 := Lib.hid (hb1.trans (hb2.mono hb1.size))
  clear hb1 hb2
  go_wp2_with fail
  refine (HEN.out w2).mono ?_
  rintro e w3 ⟨a3, c3, rfl, hr3, hb3⟩
  have HA3 := Lib.hid (HA2.out.trans (hb3.mono HA2.out.size))
  have hA := (Below.refl w3.heap.size w3).alloc (Nat.le_refl _) (.cells #[.int .i64 50, .int .i64 16] 96)
  have hr4 := hr3.keep hA
  have hbx : Bx (w3.alloc (.cells #[.int .i64 50, .int .i64 16] 96)) w3.heap.size 96 (C9.scc ⟨50, 16⟩) := Bx.new w3 _ (C9.scc ⟨50, 16⟩)
  have HS4 := Lib.hid (HSC.out _ _ _ hr4 (cameSc7 ⟨50, 16⟩ HWF.out hbx))
  have HA4 := Lib.hid (HA3.out.trans (hA.mono HA3.out.size))
  clear hb3 hr3 hA hr4 hbx
  go_wp2_with fail
  refine HS4.out.mono ?_
  rintro e w5 ⟨a5, c5, rfl, hr5, hb5⟩
  have HA5 := Lib.hid (HA4.out.trans (hb5.mono HA4.out.size))
  have HD5 := Lib.hid (HDE.out _ _ hr5)
  clear hb5 hr5
  go_wp2_with fail
  refine HD5.out.mono ?_
  rintro e w6 ⟨a6, c6, rfl, hb6⟩
  have HA6 := Lib.hid (HA5.out.trans (hb6.mono HA5.out.size))
  clear hb6
  go_wp2_with fail
  refine (HDS.out w6).mono ?_
  rintro e w7 ⟨rfl, hb7⟩
  have HA7 := Lib.hid (HA6.out.trans (hb7.mono HA6.out.size))
  clear hb7
  go_wp2_with fail
  refine (HPA.out w7).mono ?_
  rintro e w8 ⟨rfl, hb8⟩
  have hA8 := HA7.out.trans (hb8.mono HA7.out.size)
  obtain ⟨bs8, hbs⟩ : ∃ b, b = w8.heap.size := ⟨_, rfl⟩
  obtain ⟨w9, hw9⟩ : ∃ w9, w9 = w8.alloc (.cells #[.int .i64 0, .int .i64 0, .int .i64 0, .int .i64 0, .int .i64 0, .int .i64 0, .string ZS] 103) := ⟨_, rfl⟩
  have hA9 := hA8.alloc hA8.size (.cells #[.int .i64 0, .int .i64 0, .int .i64 0, .int .i64 0, .int .i64 0, .int .i64 0, .string ZS] 103)
  rw [← hw9] at hA9
  have hx : Bx w9 bs8 103 [.int .i64 0, .int .i64 0, .int .i64 0, .int .i64 0, .int .i64 0, .int .i64 0, .string ZS] := by rw [hw9, hbs]; exact Bx.new w8 _ _
  have x0 := hx.cell (i := 0) rfl
  have HW9 : Hid (w8.alloc (.cells #[.int .i64 0, .int .i64 0, .int .i64 0, .int .i64 0, .int .i64 0, .int .i64 0, .string ZS] 103) = w9) := Lib.hid hw9.symm
  have HBS := Lib.hid hbs
  have HA9 := Lib.hid hA9
  clear hb8 hA8 hA9 hx hw9 hbs
  go_upto_region 11 with (fail)
  rw [HW9.out, ← HBS.out]
  go_wp2_with fail
  refine (HVA.out w9).mono ?_
  rintro e wa ⟨rfl, hba⟩
  have HAa := Lib.hid (HA9.out.trans (hba.mono HA9.out.size))
  clear hba
  go_wp2_with fail
  go_ret
  exact ⟨rfl, HAa.out⟩
end Go.Proofs.YtflmjdjkfognjaaGreat.T7
namespace Go.Proofs.YtflmjdjkfognjaaGreat.W10
open Go.RowKit
set_option linter.unusedVariables false
/-- a frame out of the numbers of its addresses -/
def mkF (ctl t p r ab : Int) : Q.Fr := ⟨ctl, t, p, Q.mM r, Q.mS r, Q.mF r, Q.mM ab, Q.mS ab, Q.mF ab⟩
theorem vB_parts {n : Int} (h0 : 0 ≤ n) (h1 : n < 450000) : vB (Q.mM n) (Q.mS n) (Q.mF n) = true := vB_t (Q.parts_valid h0 h1)
theorem mk_ok {ctl t p r ab : Int} (c0 : 0 ≤ ctl) (c1 : ctl ≤ 15) (ht : (1 ≤ t ∧ t ≤ 99) ∨ t = 170) (hp : p = 0 ∨ p = 1) (r0 : 0 ≤ r) (r1 : r < 450000) (a0 : 0 ≤ ab) (a1 : ab < 450000) : frB (mkF ctl t p r ab) = true := by
  have e1 : btw ctl 0 15 = true := btw_t c0 c1
  have e2 : trkB t = true := by
    unfold trkB
    rcases ht with h | h
    · rw [btw_t (by omega) h.2]; rfl
    · subst h; rfl
  have e3 : ptB p = true := by unfold ptB; rw [btw_t (by omega) (by omega)]; rfl
  exact (frB_ok e1 e2 e3 (vB_parts r0 r1)).trans (vB_parts a0 a1)
/-- from one sector to the next -/
structure Cnt (a b : Q.Fr) (lba : Int) : Prop where
  ga : frB a = true
  va : vB a.am a.as a.af = true
  vb : vB b.am b.as b.af = true
  ra : vB a.rm a.rs a.rf = true
  rb : vB b.rm b.rs b.rf = true
  n : nmb a.am a.as a.af - 150 = lba
  d : nmb b.am b.as b.af - nmb a.am a.as a.af = 1
  c : ((a.trk ≠ b.trk ∨ a.pt ≠ b.pt) ∧ (b.pt = 0 ∨ (b.rm = 0 ∧ b.rs = 0 ∧ b.rf = 0))) ∨ (a.trk = b.trk ∧ a.pt = b.pt ∧ ((a.pt = 1 ∧ nmb b.rm b.rs b.rf - nmb a.rm a.rs a.rf = 1) ∨ (a.pt = 0 ∧ nmb b.rm b.rs b.rf - nmb a.rm a.rs a.rf = -1)))
theorem progF_gap (l : List T.Trk) (ctl lba : Int) (i : Nat) (h : lba < (T.tr l i).st) : Q.progF l ctl lba (some i) = mkF ctl (T.tr l i).num 0 ((T.tr l i).st - lba) (lba + 150) := if_pos h
theorem progF_in (l : List T.Trk) (ctl lba : Int) (i : Nat) (h : ¬ lba < (T.tr l i).st) : Q.progF l ctl lba (some i) = mkF ctl (T.tr l i).num 1 (lba - (T.tr l i).st) (lba + 150) := if_neg h
end Go.Proofs.YtflmjdjkfognjaaGreat.W10
namespace Go.Proofs.YtflmjdjkfognjaaGreat
open Go.RowKit
set_option linter.unusedVariables false
/-- the cells of a track -/
def tcs (x : T.Trk) : List Value := [.int .i64 x.num, .int .i64 x.ses, .int .i64 x.st, .int .i64 x.len, .int .i64 x.nx, .int .i64 x.sta, .int .i64 x.pk]
theorem tcs_length (x : T.Trk) : (tcs x).length = 7 := rfl
/-- a slice of tracks that is only read -/
def RdK (w : World) (v : Value) (l : List T.Trk) : Prop := RdS w 7 v l.length fun i => tcs (T.tr l i)
theorem RdK.keep {w w' : World} {v : Value} {l : List T.Trk} (h : RdK w v l) (hb : Below w.heap.size w w') : RdK w' v l := RdS.keep h hb
theorem RdK.keepW {w w' : World} {v : Value} {l : List T.Trk} (h : RdK w v l) (hb : ∀ k, k < w.heap.size → w'.heap[k]? = w.heap[k]?) : RdK w' v l := RdS.keepW h hb
theorem rd7 {w : World} {b o : Nat} {x : T.Trk} (h : w.rangeAt b o (tcs x)) :
    w.cell? ⟨b, o, none⟩ = some (.int .i64 x.num) ∧ w.cell? ⟨b, o + 1, none⟩ = some (.int .i64 x.ses) ∧ w.cell? ⟨b, o + 2, none⟩ = some (.int .i64 x.st) ∧ w.cell? ⟨b, o + 3, none⟩ = some (.int .i64 x.len) ∧
    w.cell? ⟨b, o + 4, none⟩ = some (.int .i64 x.nx) ∧ w.cell? ⟨b, o + 5, none⟩ = some (.int .i64 x.sta) ∧ w.cell? ⟨b, o + 6, none⟩ = some (.int .i64 x.pk) :=
  ⟨h 0 _ rfl, h 1 _ rfl, h 2 _ rfl, h 3 _ rfl, h 4 _ rfl, h 5 _ rfl, h 6 _ rfl⟩
theorem RdK.nil (w : World) : RdK w (.slice none 0 0) [] := RdS.nil _ _ _
/-- a number that is not too great -/
def sm (a : Int) : Prop := -1099511627776 ≤ a ∧ a ≤ 1099511627776
def smT (x : T.Trk) : Prop := sm x.num ∧ sm x.ses ∧ sm x.st ∧ sm x.len ∧ sm x.nx ∧ sm x.sta ∧ sm x.pk
/-- few tracks, with numbers that are not too great -/
def Few (l : List T.Trk) : Prop := l.length ≤ 110 ∧ ∀ i, i < l.length → smT (T.tr l i)
namespace T
instance (cap cl : Int) (l : List Trk) (i : Nat) : Decidable (okR cap cl l i) := by unfold okR; infer_instance
instance (cap cl : Int) (fin : Bool) (l : List Trk) : Decidable (validR cap cl fin l) := by unfold validR; infer_instance
def validB (cap cl : Int) (fin : Bool) (l : List Trk) : Bool := decide (validR cap cl fin l)
theorem validB_true {cap cl : Int} {fin : Bool} {l : List Trk} : validB cap cl fin l = true ↔ validR cap cl fin l := by unfold validB; exact decide_eq_true_iff
theorem validB_false {cap cl : Int} {fin : Bool} {l : List Trk} : validB cap cl fin l = false ↔ ¬ validR cap cl fin l := by unfold validB; exact decide_eq_false_iff_not
end T
theorem Tryz.sizeTrack : (Tryz.prog.info? 28).map (·.size) = some 7 := by kernel_rfl
end Go.Proofs.YtflmjdjkfognjaaGreat
