/- Chapter 9: awake walked. -/
import Derived.Test.YtkebnmmcogkldaaD4
import Derived.Test.YtkebnmmcogkldaaShelf
import Derived.Deep.RegionHeld3
import Derived.RegionTactic
import Derived.BigRegion
namespace Go.Proofs.Ytkebnmmcogkldaa.C9
open Go.RowKit W8
set_option linter.unusedVariables false

theorem repeatL9 (c : UInt8) : ∀ n, Lib.repeatL [c] n = List.replicate n c
  | 0 => rfl
  | n + 1 => by rw [Lib.repeatL, repeatL9 c n, List.replicate_succ]; rfl
theorem repeat9 (n : Nat) : (⟨(Lib.repeatL (⟨#[0]⟩ : ByteArray).data.toList n).toArray⟩ : ByteArray) = str (List.replicate n 0) := by
  have h : (⟨#[0]⟩ : ByteArray).data.toList = [0] := rfl
  rw [h, repeatL9]
  rfl
/-- the example -/
def d1 : List UInt8 := 1 :: List.replicate 23 0
theorem d1_length : d1.length = 24 := by simp [d1]
theorem frm_d1_0 : G.ix (frm d1 1 0) 0 = 1 := by
  unfold frm
  rw [ix_enc _ _ _ (by rw [rowK_length]; omega), ix_rowK _ _ _ _ _ (by omega)]
  unfold sym
  rw [if_pos (by omega)]
  unfold wrd
  rw [ix_enc _ _ _ (by rw [dat_length (n := 1) d1_length (by omega)]; omega), ix_dat _ _ _ (by omega)]
  rfl
theorem frm_d1_1 : frm d1 1 1 = List.replicate 32 0 := by
  have h : rowK d1 1 1 28 = List.replicate 28 0 := by
    apply List.ext_getElem
    · rw [rowK_length]; simp
    · intro i h1 h2
      rw [rowK_length] at h1
      have h3 := ix_rowK d1 1 1 28 i h1
      rw [ix_el (by rw [rowK_length]; exact h1)] at h3
      rw [h3, List.getElem_replicate]
      unfold sym
      rw [if_neg (by omega)]
  unfold frm
  rw [h]
  unfold G.enc
  rw [List.replicate_append_replicate, G.rem_zeros, List.replicate_append_replicate]
  rfl
theorem lost_17 : lostN [⟨0, 17⟩] 1 = [0, 1, 2, 3, 4] := by decide
theorem str_app9 (l m : List UInt8) : str l ++ str m = str (l ++ m) := by
  apply ByteArray.ext
  simp [str]
/-- slices.Equal of two lists that hold the same ints -/
theorem equal9 {w : World} {v1 v2 : Value} {l : List Int} (h1 : RdI w v1 l) (h2 : RdI w v2 l) :
    Calls Try.prog 13 #[v1, v2] w fun e w' => e = .returned (.bool true) ∧ ∃ q, w' = w.drewN q := by
  obtain ⟨k1, ⟨a1, c1, b1, o1, rfl, _, hc1⟩, _⟩ := h1
  obtain ⟨k2, ⟨a2, c2, b2, o2, rfl, _, hc2⟩, _⟩ := h2
  by_cases h0 : l.length = 0
  · rw [h0]
    refine (Try.slices_Equal_int_empty a1 a2 c1 0 c2 w (by omega)).mono ?_
    rintro e w' ⟨rfl, rfl⟩
    exact ⟨rfl, 0, rfl⟩
  · obtain ⟨rfl, _⟩ := hc1 0 (by omega)
    obtain ⟨rfl, _⟩ := hc2 0 (by omega)
    refine (Try.slices_Equal_int b1 o1 l.length c1 b2 o2 l.length c2 l l w (Nat.le_refl _) (Nat.le_refl _) (by omega) (by omega) (fun j hj => (hc1 j hj).2) (fun j hj => (hc2 j hj).2)).mono ?_
    rintro e w' ⟨rfl, hq⟩
    exact ⟨by simp, hq⟩
set_option maxRecDepth 100000 in
set_option maxHeartbeats 4000000 in
theorem awake9_any (w : World) : Calls Try.prog 10 #[] w fun e w' => e = .returned (.bool true) ∧ Below w.heap.size w w' := by
  have HR := Lib.hid (fun W => Try.strings_Repeat (⟨#[0]⟩ : ByteArray) 23 W (by omega) (by decide))
  have HR2 := Lib.hid (fun W => Try.strings_Repeat (⟨#[0]⟩ : ByteArray) 32 W (by omega) (by decide))
  rw [repeat9] at HR HR2
  have HL := Lib.hid (fun W v (hr : RdSc W v [⟨0, 17⟩]) => plost_ok 1 v [⟨0, 17⟩] W (by omega) (by omega) hr (fun i hi => by
    obtain rfl : i = 0 := by simp at hi; omega
    exact ⟨⟨by decide, by decide⟩, by decide, by decide⟩) (by simp))
  rw [show (if fitA (1 + 108) [⟨0, 17⟩] = false then (([] : List Int), (1 : Int)) else (lostN [⟨0, 17⟩] 1, 0)) = ([0, 1, 2, 3, 4], 0) from by rw [lost_17]; rfl] at HL
  have HFR := Lib.hid (fun W => frames_any 1 W)
  rw [show frN 1 = 109 from rfl] at HFR
  have HE := Lib.hid (fun W => pencode_ok d1 1 W d1_length (by omega) (by omega))
  have hadd : (⟨#[1]⟩ : ByteArray) ++ str (List.replicate 23 0) = str d1 := str_app9 [1] (List.replicate 23 0)
  have HADD := Lib.hid hadd
  clear hadd
  have hsz := str_size (List.replicate 23 (0 : UInt8))
  simp only [List.length_replicate] at hsz
  generalize str (List.replicate 23 0) = Z1 at HR HADD hsz
  generalize hZ : str (List.replicate 32 0) = Z2 at HR2
  have HZ := Lib.hid hZ
  clear hZ
  go_enter Try.func10, Try.ntmps10
  go_wp2_with fail
  refine (HR.out _).mono ?_
  rintro e w1 ⟨rfl, hb1⟩
  go_wp2_with fail
  rw [HADD.out]
  refine (HE.out _).mono ?_
  rintro e w2 ⟨v, rfl, ho, hb2⟩
  simp only at ho ⊢
  change w2.ownsRow w1.heap.size 9 1 v 109 (flD ssD (frms d1 1 109)) at ho
  obtain ⟨g, c, rfl, hg1, hg2⟩ := ownD_addr ho (by omega)
  have ho' : w2.ownsRow w1.heap.size 9 1 (.slice (some ⟨g, 0, none⟩) 109 c) (frms d1 1 109).length (flD ssD (frms d1 1 109)) := by rw [frms_length]; exact ho
  have hc0 : w2.cell? ⟨g, 0, none⟩ = some (.string (str (frm d1 1 0))) := by
    have h := ho.cellAt 0 (by omega)
    rw [h]
    have e := flD_get (d := ([] : List UInt8)) (D := ssD) ssD_len (frms d1 1 109) 0 0 (by rw [frms_length]; omega) (by omega)
    rw [Nat.zero_mul, Nat.zero_add] at e
    rw [e]
    have e2 : atD [] (frms d1 1 109) 0 = frm d1 1 0 := frA_frms d1 1 109 0 (by omega)
    rw [e2]
    rfl
  have hc1 : w2.cell? ⟨g, 1, none⟩ = some (.string Z2) := by
    have h := ho.cellAt 1 (by omega)
    rw [h]
    have e := flD_get (d := ([] : List UInt8)) (D := ssD) ssD_len (frms d1 1 109) 1 0 (by rw [frms_length]; omega) (by omega)
    rw [Nat.mul_one, Nat.add_zero] at e
    rw [e]
    have e2 : atD [] (frms d1 1 109) 1 = frm d1 1 1 := frA_frms d1 1 109 1 (by omega)
    rw [e2, frm_d1_1, ← HZ.out]
    rfl
  have hb12 := hb1.trans (hb2.mono hb1.size)
  have hfs := str_size (frm d1 1 0)
  rw [frm_length] at hfs
  have hx0 : ∀ W, (Instr.index 9 (.string (str (frm d1 1 0))) (.int .i64 0)).run Try.prog W = .ok (B 1) W := fun W => by
    have := run_sidx (P := Try.prog) Try.underlying9 (frm d1 1 0) 0 (by rw [frm_length]; omega) 0 rfl W
    rw [frm_d1_0] at this
    exact this
  generalize str (frm d1 1 0) = F0 at hc0 hfs hx0
  have HS : Hid (∀ W, Below w2.heap.size w2 W → Below w2.heap.size w2 W ∧ W.cell? ⟨g, 0, none⟩ = some (.string F0) ∧ W.cell? ⟨g, 1, none⟩ = some (.string Z2)) := Lib.hid fun W hW => ⟨hW, (hW.cell (p := ⟨g, 0, none⟩) hg2).trans hc0, (hW.cell (p := ⟨g, 1, none⟩) hg2).trans hc1⟩
  clear ho ho' hc0 hc1 hb1 hb2 HR HE HADD HZ hg1 hg2
  go_wp2_with fail
  go_region_held3 (fun W => Below w2.heap.size w2 W ∧ W.cell? ⟨g, 0, none⟩ = some (.string F0) ∧ W.cell? ⟨g, 1, none⟩ = some (.string Z2))
    (first | exact HS.out _ ((Below.refl _ _).drew) | exact HS.out _ ‹_›)
    ((go_at_call 30; refine (HR2.out _).mono ?_; rintro e w8 ⟨rfl, hb8⟩; have hb9 := (And.left ‹Below w2.heap.size w2 _ ∧ _›).trans (hb8.mono (And.left ‹Below w2.heap.size w2 _ ∧ _›).size)))
  all_goals
    have hb9 := And.left ‹Below w2.heap.size w2 _ ∧ _›
    have hbw := hb12.trans (hb9.mono hb12.size)
    clear hb9 hfs hx0 hsz hb12 HS HR2
    go_wp2_with fail
    refine (HL.out _ _ (RdD.one' (by omega) scc_len _ _ _ rfl)).mono ?_
    rintro e w9 ⟨v9, rfl, ho9, hb10⟩
    simp only at ho9 ⊢
    rw [World.size_alloc] at ho9
    obtain ⟨a9, c9, rfl⟩ := ownD_form ho9
    have hrd9 := rdI_own ho9 rfl (by simp) (by simp)
    have hbA := (hbw.alloc hbw.size _).trans (hb10.mono (hbw.alloc hbw.size _).size)
    clear hb10 hbw ho9
    have hrdE := hrd9.keep ((Below.refl w9.heap.size w9).alloc (Nat.le_refl _) (.cells (is [0, 1, 2, 3, 4]).toArray 3))
    have hrdL : RdI (w9.alloc (.cells (is [0, 1, 2, 3, 4]).toArray 3)) (.slice (some ⟨w9.heap.size, 0, none⟩) 5 5) [0, 1, 2, 3, 4] := by
      have hbx := Bx.new w9 3 (is [0, 1, 2, 3, 4])
      exact ⟨by simp, ⟨_, 5, w9.heap.size, 0, rfl, by simp, fun i hi => ⟨rfl, hbx.cell (by rw [is_get (by omega)]; simp)⟩⟩, fun i hi => by
        have h5 : i < 5 := hi
        have : i = 0 ∨ i = 1 ∨ i = 2 ∨ i = 3 ∨ i = 4 := by omega
        rcases this with rfl | rfl | rfl | rfl | rfl <;> decide⟩
    have HEQ := Lib.hid (equal9 hrdE hrdL)
    have hbB := hbA.alloc hbA.size (.cells (is [0, 1, 2, 3, 4]).toArray 3)
    have HBB := Lib.hid hbB
    clear hrdE hrdL hbB hrd9
    go_wp2_with fail
    refine HEQ.out.mono ?_
    rintro e w10 ⟨rfl, q, rfl⟩
    go_wp2_with fail
    refine (HFR.out _).mono ?_
    rintro e w11 ⟨rfl, rfl⟩
    go_wp2_with fail
    go_ret
    exact ⟨rfl, Below.drewN HBB.out _⟩
end Go.Proofs.Ytkebnmmcogkldaa.C9
