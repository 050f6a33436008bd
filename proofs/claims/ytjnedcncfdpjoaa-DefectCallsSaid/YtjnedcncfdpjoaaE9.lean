/- Chapter 13: New walked. -/
import Derived.Test.YtjnedcncfdpjoaaE8
namespace Go.Proofs.Ytjnedcncfdpjoaa.D13
open Go.RowKit Go.Maps
set_option linter.unusedVariables false

/-- the arguments are those of a table -/
def shp (b s : Int) (l : List Int) : Prop := (1 ≤ b ∧ b ≤ 4096 ∧ 0 ≤ s ∧ s ≤ 64 ∧ l.length ≤ 256) ∧ ∀ i, i < l.length → 0 ≤ ixI l i ∧ ixI l i < b + l.length ∧ (0 < i → ixI l (i - 1) < ixI l i)
def tab0 (b s : Int) (l : List Int) : Tab := ⟨b.toNat, s.toNat, 0, l, fun _ => none⟩
theorem sorted_of {l : List Int} (h : ∀ i, i < l.length → 0 < i → ixI l (i - 1) < ixI l i) : l.Pairwise (· < ·) := by
  have key : ∀ (d i : Nat), i + d + 1 < l.length → ixI l i < ixI l (i + d + 1) := by
    intro d
    induction d with
    | zero => intro i hi; exact h (i + 1) hi (by omega)
    | succ d ih =>
      intro i hi
      have h1 := ih i (by omega)
      have h2 := h (i + d + 1 + 1) (by omega) (by omega)
      rw [Nat.add_sub_cancel] at h2
      have e : i + (d + 1) + 1 = i + d + 1 + 1 := by omega
      rw [e]; omega
  rw [List.pairwise_iff_getElem]
  intro i j hi hj hij
  have := key (j - i - 1) i (by omega)
  rw [show i + (j - i - 1) + 1 = j by omega, ixI_get hi, ixI_get hj] at this
  exact this
theorem shp.ok {b s : Int} {l : List Int} (h : shp b s l) : (tab0 b s l).Ok where
  b1 := by have := h.1; show 1 ≤ b.toNat; omega
  b2 := by have := h.1; show b.toNat ≤ 4096; omega
  sp := by have := h.1; show s.toNat ≤ 64; omega
  us := Nat.zero_le _
  pl := h.1.2.2.2.2
  ps := sorted_of fun i hi h0 => (h.2 i hi).2.2 h0
  pr := fun p hp => by
    change p ∈ l at hp
    obtain ⟨i, hi, rfl⟩ := List.getElem_of_mem hp
    have h1 := h.2 i hi
    rw [ixI_get hi] at h1
    have := h.1
    rw [first_int]
    show 0 ≤ l[i] ∧ l[i] < ((b.toNat : Nat) : Int) + (l.length : Int)
    omega
  mr := fun x t ht => by cases ht
  mi := fun x y t ht => by cases ht
def NewP (b s : Int) (l : List Int) (w : World) (e : Ending) (w' : World) : Prop :=
  Below w.heap.size w w' ∧ ((shp b s l ∧ ∃ g gm vp, e = .returned (.tuple #[.pointer (some ⟨g, 0, none⟩), .int .i64 0]) ∧ TabW w' g gm vp (tab0 b s l) ∧ w.heap.size ≤ g ∧ w.heap.size ≤ gm) ∨ (¬ shp b s l ∧ e = .returned (.tuple #[.pointer none, .int .i64 1])))
set_option maxRecDepth 100000 in
set_option maxHeartbeats 4000000 in
theorem new_bad1 (b s : Int) (hb : In64 b) (hs : In64 s) (v : Value) (l : List Int) (w : World) (hv : RdI w v l) (h : ¬ (1 ≤ b ∧ b ≤ 4096 ∧ 0 ≤ s ∧ s ≤ 64 ∧ l.length ≤ 256)) :
    Calls Try.prog 10 #[.int .i64 b, .int .i64 s, v] w (NewP b s l w) := by
  have HS : Hid (¬ shp b s l) := Lib.hid fun e => h e.1
  obtain ⟨a, c, rfl⟩ := RdI.formD hv
  have hl := hv.1
  obtain ⟨b1, b2⟩ := hb
  obtain ⟨s1, s2⟩ := hs
  have hcase : b < 1 ∨ (¬ b < 1 ∧ 4096 < b) ∨ (¬ b < 1 ∧ ¬ 4096 < b ∧ s < 0) ∨ (¬ b < 1 ∧ ¬ 4096 < b ∧ ¬ s < 0 ∧ 64 < s) ∨ (¬ b < 1 ∧ ¬ 4096 < b ∧ ¬ s < 0 ∧ ¬ 64 < s ∧ 256 < l.length) := by omega
  clear h hv
  generalize l.length = n at *
  rcases hcase with g1 | ⟨g1, g2⟩ | ⟨g1, g2, g3⟩ | ⟨g1, g2, g3, g4⟩ | ⟨g1, g2, g3, g4, g5⟩
  all_goals
    go_enter Try.func10, Try.ntmps10
    go_wp2_with fail
    go_ret2
    exact ⟨Below.refl _ _, .inr ⟨HS.out, rfl⟩⟩
theorem zeroT : ∀ w, (zeroValue 57).run Try.prog w = .ok (.agg #[.int .i64 0, .int .i64 0, .int .i64 0, .slice none 0 0, .map none]) w := fun _ => by kernel_rfl
theorem tab_new {b s : Int} {l : List Int} {w2 : World} {v2 : Value} {B : Nat} (h : shp b s l) (ho : w2.ownsRow B 3 1 v2 l.length (is l)) :
    TabW ((w2.alloc (.map #[] 0)).alloc (.cells #[.int .i64 b, .int .i64 s, .int .i64 0, v2, .map (some w2.heap.size)] 57)) (w2.heap.size + 1) w2.heap.size v2 (tab0 b s l) where
  ok := h.ok
  box := by
    have h1 := h.1
    have h2 := Bx.new (w2.alloc (.map #[] 0)) 57 [.int .i64 b, .int .i64 s, .int .i64 0, v2, .map (some w2.heap.size)]
    have e : (w2.alloc (.map #[] 0)).heap.size = w2.heap.size + 1 := by simp
    rw [e] at h2
    show Bx _ _ _ [.int .i64 ((b.toNat : Nat) : Int), .int .i64 ((s.toNat : Nat) : Int), .int .i64 ((0 : Nat) : Int), v2, .map (some w2.heap.size)]
    rw [show ((b.toNat : Nat) : Int) = b by omega, show ((s.toNat : Nat) : Int) = s by omega]
    exact h2
  pri := own_mono (ownD_keep (ownD_keep ho ((Below.refl _ _).alloc (Nat.le_refl _) _)) ((Below.refl _ _).alloc (Nat.le_refl _) _)) (Nat.zero_le _)
  map := (MapO.made w2).below ((Below.refl _ _).alloc (Nat.le_refl _) _)
  ne := by omega
def okI (b : Int) (l : List Int) (i : Nat) : Prop := 0 ≤ ixI l i ∧ ixI l i < b + l.length ∧ (0 < i → ixI l (i - 1) < ixI l i)
set_option maxRecDepth 100000 in
set_option maxHeartbeats 4000000 in
theorem new_good (b s : Int) (v : Value) (l : List Int) (w : World) (hv : RdI w v l) (h : 1 ≤ b ∧ b ≤ 4096 ∧ 0 ≤ s ∧ s ≤ 64 ∧ l.length ≤ 256) :
    Calls Try.prog 10 #[.int .i64 b, .int .i64 s, v] w (NewP b s l w) := by
  have HC := Lib.hid (clone13 v l w hv (by omega))
  have HR := Lib.hid hv.2.2
  obtain ⟨a, c, rfl⟩ := RdI.formD hv
  obtain ⟨bl, off, hcell⟩ := RdI.at hv
  have HCE := Lib.hid hcell
  have HH := Lib.hid h
  obtain ⟨b1, b2, s1, s2, hl⟩ := h
  clear hv hcell
  have hmm := @run_makeMap Try.prog
  go_enter Try.func10, Try.ntmps10
  go_wp2_with fail
  go_loopw [31] (fun vi wr => ∃ i : Nat, i ≤ l.length ∧ vi = .int .i64 i ∧ Hid (∀ j, j < i → okI b l j) ∧ wr = w) (fun vi _ => l.length - (intOf vi).toNat)
  case atStart => exact ⟨0, by omega, rfl, Lib.hid fun j hj => by omega, rfl⟩
  case round =>
    obtain ⟨i, hi, rfl, HO, rfl⟩ := hrel
    by_cases hlt : i < l.length
    · obtain ⟨ha, hq⟩ := HCE.out i hlt
      obtain ⟨r1, r2⟩ := HR.out i hlt
      have hlt' : (i : Int) < (l.length : Int) := by omega
      have hix := fun w' => run_idxS Try.underlying22 Try.sizeInt13 (cap := c) ha hlt (i : Int) rfl w'
      simp only [Nat.mul_one] at hix
      have HBAD : Hid (¬ okI b l i → ¬ shp b s l) := Lib.hid (fun hn hs => hn (hs.2 i hlt))
      have HNX : Hid (okI b l i → ∀ j, j < i + 1 → okI b l j) := Lib.hid (fun hi j hj => by
        by_cases e : j < i
        · exact HO.out j e
        · have : j = i := by omega
          rw [this]; exact hi)
      have hprev : i ≠ 0 → wr.cell? ⟨bl, off + (i - 1), none⟩ = some (Value.int .i64 (ixI l (i - 1))) := fun h => (HCE.out (i - 1) (by omega)).2
      have HOK : Hid (okI b l i ↔ 0 ≤ ixI l i ∧ ixI l i < b + l.length ∧ (0 < i → ixI l (i - 1) < ixI l i)) := Lib.hid Iff.rfl
      have hcase : ixI l i < 0 ∨ (0 ≤ ixI l i ∧ b + l.length ≤ ixI l i) ∨ (0 ≤ ixI l i ∧ ixI l i < b + l.length ∧ i = 0) ∨ (0 ≤ ixI l i ∧ ixI l i < b + l.length ∧ i ≠ 0 ∧ ixI l i ≤ ixI l (i - 1)) ∨ (0 ≤ ixI l i ∧ ixI l i < b + l.length ∧ i ≠ 0 ∧ ixI l (i - 1) < ixI l i) := by omega
      rcases hcase with k1 | ⟨k1, k2⟩ | ⟨k1, k2, rfl⟩ | ⟨k1, k2, k3, k4⟩ | ⟨k1, k2, k3, k4⟩
      · have HNO : Hid (¬ shp b s l) := Lib.hid (HBAD.out fun e => by have := HOK.out.1 e; omega)
        generalize ixI l i = p at *
        have HA := Lib.hid ha
        clear hprev ha
        go_wp2_with fail
        go_ret2
        exact ⟨Below.refl _ _, .inr ⟨HNO.out, rfl⟩⟩
      · have HNO : Hid (¬ shp b s l) := Lib.hid (HBAD.out fun e => by have := HOK.out.1 e; omega)
        generalize ixI l i = p at *
        have HA := Lib.hid ha
        clear hprev ha
        go_wp2_with fail
        go_ret2
        exact ⟨Below.refl _ _, .inr ⟨HNO.out, rfl⟩⟩
      · have HYE := Lib.hid (HNX.out (HOK.out.2 ⟨k1, k2, fun h => by omega⟩))
        have hix0 := fun w' => run_idxS Try.underlying22 Try.sizeInt13 (cap := c) ha hlt (0 : Int) rfl w'
        simp only [Nat.mul_one, Nat.add_zero] at hix0 hq
        clear HNX HBAD HOK
        generalize ixI l 0 = p at *
        have HA := Lib.hid ha
        clear hprev ha hix
        go_wp2_with fail
        go_roundw
        case rel => exact ⟨0 + 1, by omega, by go_num, HYE, trivial⟩
        case measure => simp [intOf]; omega
      · have HNO : Hid (¬ shp b s l) := Lib.hid (HBAD.out fun e => by have := (HOK.out.1 e).2.2 (by omega); omega)
        have hp := hprev k3
        have hix2 := fun w' => run_idxS Try.underlying22 Try.sizeInt13 (cap := c) ha (show i - 1 < l.length by omega) ((i : Int) - 1) (by omega) w'
        simp only [Nat.mul_one] at hix2
        have k5 : 0 < (i : Int) := by omega
        clear HNX HBAD HOK
        generalize ixI l (i - 1) = p0 at *
        generalize ixI l i = p at *
        have HA := Lib.hid ha
        clear hprev ha
        go_wp2_with fail
        go_ret2
        exact ⟨Below.refl _ _, .inr ⟨HNO.out, rfl⟩⟩
      · have HYE := Lib.hid (HNX.out (HOK.out.2 ⟨k1, k2, fun _ => k4⟩))
        have hp := hprev k3
        have hix2 := fun w' => run_idxS Try.underlying22 Try.sizeInt13 (cap := c) ha (show i - 1 < l.length by omega) ((i : Int) - 1) (by omega) w'
        simp only [Nat.mul_one] at hix2
        have k5 : 0 < (i : Int) := by omega
        clear HNX HBAD HOK
        generalize ixI l (i - 1) = p0 at *
        generalize ixI l i = p at *
        have HA := Lib.hid ha
        clear hprev ha
        go_wp2_with fail
        go_roundw
        case rel => exact ⟨i + 1, by omega, by go_num, HYE, trivial⟩
        case measure => simp [intOf]; omega
    · obtain rfl : i = l.length := by omega
      have HS : Hid (shp b s l) := Lib.hid ⟨HH.out, HO.out⟩
      go_wp2_with fail
      refine HC.out.mono ?_
      rintro e w2 ⟨v2, rfl, ho2, hb2⟩
      obtain ⟨a2, c2, rfl⟩ := ownD_form ho2
      have hzt := zeroT
      have HTN := Lib.hid (tab_new HS.out ho2)
      have HBN := Lib.hid ((hb2.alloc hb2.size (.map #[] 0)).alloc (hb2.alloc hb2.size (.map #[] 0)).size (.cells #[.int .i64 b, .int .i64 s, .int .i64 0, .slice a2 l.length c2, .map (some w2.heap.size)] 57))
      have hs2 := hb2.size
      clear ho2 hb2
      go_wp2_with fail
      go_ret2
      exact ⟨HBN.out, .inl ⟨HS.out, _, _, _, rfl, HTN.out, by omega, by omega⟩⟩
theorem new_any (b s : Int) (hb : In64 b) (hs : In64 s) (v : Value) (l : List Int) (w : World) (hv : RdI w v l) :
    Calls Try.prog 10 #[.int .i64 b, .int .i64 s, v] w (NewP b s l w) := by
  by_cases h : 1 ≤ b ∧ b ≤ 4096 ∧ 0 ≤ s ∧ s ≤ 64 ∧ l.length ≤ 256
  · exact new_good b s v l w hv h
  · exact new_bad1 b s hb hs v l w hv h
end Go.Proofs.Ytjnedcncfdpjoaa.D13
