/- Chapter 13: the example that each law checks first. -/
import Derived.Test.YtjnedcncfdpjoaaE9
namespace Go.Proofs.Ytjnedcncfdpjoaa.D13
open Go.RowKit Go.Maps
set_option linter.unusedVariables false

theorem equal13 {w : World} {v1 v2 : Value} {l : List Int} (h1 : RdI w v1 l) (h2 : RdI w v2 l) :
    Calls Try.prog 25 #[v1, v2] w fun e w' => e = .returned (.bool true) ∧ ∃ q, w' = w.drewN q := by
  obtain ⟨k1, ⟨a1, c1, b1, o1, rfl, _, hc1⟩, _⟩ := h1
  obtain ⟨k2, ⟨a2, c2, b2, o2, rfl, _, hc2⟩, _⟩ := h2
  by_cases h0 : l.length = 0
  · rw [h0]
    refine (Try.slices_Equal_int_empty a1 a2 c1 0 c2 w (by omega)).mono ?_
    rintro e w' ⟨rfl, rfl⟩
    exact ⟨rfl, 0, rfl⟩
  · obtain ⟨rfl, _⟩ := hc1 0 (by omega)
    obtain ⟨rfl, _⟩ := hc2 0 (by omega)
    refine (Try.slices_Equal_int b1 o1 l.length c1 b2 o2 l.length c2 l l w (Nat.le_refl _) (Nat.le_refl _) (by omega) (by omega) (fun j hj => (hc1 j hj).2) (fun j hj => (hc2 j hj).2)).mono ?_
    rintro e w' ⟨rfl, hq⟩
    exact ⟨by simp, hq⟩
def tA : Tab := tab0 4 2 [1]
theorem shpA : shp 4 2 [1] := ⟨by decide, fun i hi => by
  have : i = 0 := by simp at hi; omega
  subst this
  decide⟩
theorem physA : physR tA 1 = (2, 0) := by decide
theorem replA : (replR tA 1).1 = (5, 0) := by decide
theorem badA : (replR tA 1).2.bad = [1, 2] := by decide
theorem rdI_lit (W : World) (l : List Int) (h : l.length ≤ 1000) (hr : ∀ x ∈ l, In64 x) : RdI (W.alloc (.cells (is l).toArray 3)) (.slice (some ⟨W.heap.size, 0, none⟩) l.length l.length) l := by
  have hbx := Bx.new W 3 (is l)
  exact ⟨by omega, ⟨_, _, W.heap.size, 0, rfl, Nat.le_refl _, fun i hi => ⟨rfl, hbx.cell (by rw [Nat.zero_add]; exact is_get hi)⟩⟩, fun i hi => hr _ (ixI_mem hi)⟩
set_option maxRecDepth 100000 in
set_option maxHeartbeats 4000000 in
theorem awake13_any (w : World) : Calls Try.prog 9 #[] w fun e w' => e = .returned (.bool true) ∧ Below w.heap.size w w' := by
  have HNW := Lib.hid (fun v W hv => new_any 4 2 (by unfold In64; omega) (by unfold In64; omega) v [1] W hv)
  have hb0 := (Below.refl w.heap.size w).alloc (Nat.le_refl _) (.cells #[.int .i64 1] 3)
  have HL := Lib.hid (rdI_lit w [1] (by simp) (fun x hx => by simp at hx; subst hx; unfold In64; omega))
  have HB0 := Lib.hid hb0
  clear hb0
  go_enter Try.func9, Try.ntmps9
  go_wp2_with fail
  refine (HNW.out _ _ HL.out).mono ?_
  rintro e w1 ⟨hb1, h1⟩
  rcases h1 with ⟨_, g, gm, vp, rfl, hT, hg, hgm⟩ | ⟨hn, _⟩
  · have hb1' := HB0.out.trans (hb1.mono HB0.out.size)
    have HT := Lib.hid hT
    have HBB := Lib.hid hb1'
    have HS := Lib.hid (sectors_any hT)
    rw [show (((tab0 4 2 [1]).first : Nat) : Int) + ((tab0 4 2 [1]).spares : Int) = 7 from by decide] at HS
    have HB0s := HB0.out.size
    have hgB : w.heap.size ≤ g ∧ w.heap.size ≤ gm := by
      have e : (w.alloc (.cells (is [1]).toArray 3)).heap.size = w.heap.size + 1 := by simp
      omega
    have HGB := Lib.hid hgB
    clear hT hb1 hb1' hg hgm hgB HB0s
    go_wp2_with fail
    refine HS.out.mono ?_
    rintro e w2 ⟨rfl, q2, rfl⟩
    have HT2 := Lib.hid (HT.out.below (Below.drewN (Below.refl _ _) q2))
    have HB2 := Lib.hid (Below.drewN HBB.out q2)
    clear HT HBB
    generalize w1.drewN q2 = w2 at *
    have HP := Lib.hid (physical_any HT2.out 1 (by unfold In64; omega))
    rw [show physR (tab0 4 2 [1]) 1 = (2, 0) from physA] at HP
    go_wp2_with fail
    refine HP.out.mono ?_
    rintro e w3 ⟨rfl, q3, rfl⟩
    have HT3 := Lib.hid (HT2.out.below (Below.drewN (Below.refl _ _) q3))
    have HB3 := Lib.hid (Below.drewN HB2.out q3)
    clear HT2 HB2
    generalize w2.drewN q3 = w3 at *
    have HR := Lib.hid (replace_any HT3.out 1 (by unfold In64; omega))
    have HQ : Hid ((replR (tab0 4 2 [1]) 1).1 = (5, 0)) := Lib.hid replA
    have HBD : Hid ((replR (tab0 4 2 [1]) 1).2.bad = [1, 2]) := Lib.hid badA
    generalize replR (tab0 4 2 [1]) 1 = R at *
    obtain ⟨R1, R2⟩ := R
    obtain rfl : R1 = (5, 0) := HQ.out
    go_wp2_with fail
    refine HR.out.mono ?_
    rintro e w4 ⟨rfl, hT4, htu⟩
    have HB4 := Lib.hid (HB3.out.trans (htu.below HGB.out.1 HGB.out.2 HB3.out.size))
    have HBA := Lib.hid (bad_any hT4)
    rw [show (R2 : Tab).bad = [1, 2] from HBD.out] at HBA
    clear hT4 htu
    go_wp2_with fail
    refine HBA.out.mono ?_
    rintro e w5 ⟨v5, rfl, ho5, hb5⟩
    have HB5 := Lib.hid (HB4.out.trans (hb5.mono HB4.out.size))
    have hA := (Below.refl w5.heap.size w5).alloc (Nat.le_refl _) (.cells (is [1, 2]).toArray 3)
    have HE := Lib.hid (equal13 (rdI_own (ownD_keep ho5 hA) rfl (by simp) (fun x hx => by simp at hx; omega)) (rdI_lit w5 [1, 2] (by simp) (fun x hx => by simp at hx; unfold In64; omega)))
    have HB6 := Lib.hid (HB5.out.trans (hA.mono HB5.out.size))
    obtain ⟨a5, c5, rfl⟩ := ownD_form ho5
    clear ho5 hb5 hA
    go_wp2_with fail
    refine HE.out.mono ?_
    rintro e w7 ⟨rfl, q7, rfl⟩
    go_wp2_with fail
    go_ret
    exact ⟨rfl, Below.drewN HB6.out q7⟩
  · exact absurd shpA hn
end Go.Proofs.Ytjnedcncfdpjoaa.D13
