/- Chapter 10: lists of frames compared: walked. -/
import Derived.Test.YtiioojlihapdaaaQe
import Derived.Test.YtiioojlihapdaaaQv
namespace Go.Proofs.Ytiioojlihapdaaa.W10
open Go.RowKit
set_option linter.unusedVariables false

theorem Try.sizeFr : (Try.prog.info? 80).map (·.size) = some 9 := by kernel_rfl
def fr (l : List Q.Fr) (i : Nat) : Q.Fr := atD Q.z l i
/-- a slice of frames that is only read -/
def RdF (w : World) (v : Value) (l : List Q.Fr) : Prop := RdD Q.z fcs 9 w v l
theorem RdF.cells {w : World} {a : Option Addr} {n c : Nat} {l : List Q.Fr} (h : RdF w (.slice a n c) l) : ∃ b off, ∀ i, i < l.length → a = some ⟨b, off, none⟩ ∧ w.rangeAt b (off + i * 9) (fcs (fr l i)) := RdD.at h
theorem rd9 {w : World} {b o : Nat} {x : Q.Fr} (h : w.rangeAt b o (fcs x)) :
    w.cell? ⟨b, o, none⟩ = some (.int .i64 x.ctl) ∧ w.cell? ⟨b, o + 1, none⟩ = some (.int .i64 x.trk) ∧ w.cell? ⟨b, o + 2, none⟩ = some (.int .i64 x.pt) ∧ w.cell? ⟨b, o + 3, none⟩ = some (.int .i64 x.rm) ∧
    w.cell? ⟨b, o + 4, none⟩ = some (.int .i64 x.rs) ∧ w.cell? ⟨b, o + 5, none⟩ = some (.int .i64 x.rf) ∧ w.cell? ⟨b, o + 6, none⟩ = some (.int .i64 x.am) ∧ w.cell? ⟨b, o + 7, none⟩ = some (.int .i64 x.as) ∧ w.cell? ⟨b, o + 8, none⟩ = some (.int .i64 x.af) :=
  ⟨h 0 _ rfl, h 1 _ rfl, h 2 _ rfl, h 3 _ rfl, h 4 _ rfl, h 5 _ rfl, h 6 _ rfl, h 7 _ rfl, h 8 _ rfl⟩
theorem fr_cases (x y : Q.Fr) : x = y ∨ ((x.ctl == y.ctl) = false) ∨ (x.ctl = y.ctl ∧ (x.trk == y.trk) = false) ∨ (x.ctl = y.ctl ∧ x.trk = y.trk ∧ (x.pt == y.pt) = false) ∨ (x.ctl = y.ctl ∧ x.trk = y.trk ∧ x.pt = y.pt ∧ (x.rm == y.rm) = false) ∨ (x.ctl = y.ctl ∧ x.trk = y.trk ∧ x.pt = y.pt ∧ x.rm = y.rm ∧ (x.rs == y.rs) = false) ∨ (x.ctl = y.ctl ∧ x.trk = y.trk ∧ x.pt = y.pt ∧ x.rm = y.rm ∧ x.rs = y.rs ∧ (x.rf == y.rf) = false) ∨ (x.ctl = y.ctl ∧ x.trk = y.trk ∧ x.pt = y.pt ∧ x.rm = y.rm ∧ x.rs = y.rs ∧ x.rf = y.rf ∧ (x.am == y.am) = false) ∨ (x.ctl = y.ctl ∧ x.trk = y.trk ∧ x.pt = y.pt ∧ x.rm = y.rm ∧ x.rs = y.rs ∧ x.rf = y.rf ∧ x.am = y.am ∧ (x.as == y.as) = false) ∨ (x.ctl = y.ctl ∧ x.trk = y.trk ∧ x.pt = y.pt ∧ x.rm = y.rm ∧ x.rs = y.rs ∧ x.rf = y.rf ∧ x.am = y.am ∧ x.as = y.as ∧ (x.af == y.af) = false) := by
  obtain ⟨x0, x1, x2, x3, x4, x5, x6, x7, x8⟩ := x
  obtain ⟨y0, y1, y2, y3, y4, y5, y6, y7, y8⟩ := y
  simp only [Q.Fr.mk.injEq, beq_eq_false_iff_ne, ne_eq]
  by_cases h0 : x0 = y0
  rotate_left
  · exact .inr (.inl h0)
  by_cases h1 : x1 = y1
  rotate_left
  · exact .inr (.inr (.inl ⟨h0, h1⟩))
  by_cases h2 : x2 = y2
  rotate_left
  · exact .inr (.inr (.inr (.inl ⟨h0, h1, h2⟩)))
  by_cases h3 : x3 = y3
  rotate_left
  · exact .inr (.inr (.inr (.inr (.inl ⟨h0, h1, h2, h3⟩))))
  by_cases h4 : x4 = y4
  rotate_left
  · exact .inr (.inr (.inr (.inr (.inr (.inl ⟨h0, h1, h2, h3, h4⟩)))))
  by_cases h5 : x5 = y5
  rotate_left
  · exact .inr (.inr (.inr (.inr (.inr (.inr (.inl ⟨h0, h1, h2, h3, h4, h5⟩))))))
  by_cases h6 : x6 = y6
  rotate_left
  · exact .inr (.inr (.inr (.inr (.inr (.inr (.inr (.inl ⟨h0, h1, h2, h3, h4, h5, h6⟩)))))))
  by_cases h7 : x7 = y7
  rotate_left
  · exact .inr (.inr (.inr (.inr (.inr (.inr (.inr (.inr (.inl ⟨h0, h1, h2, h3, h4, h5, h6, h7⟩))))))))
  by_cases h8 : x8 = y8
  rotate_left
  · exact .inr (.inr (.inr (.inr (.inr (.inr (.inr (.inr (.inr (⟨h0, h1, h2, h3, h4, h5, h6, h7, h8⟩)))))))))
  exact .inl ⟨h0, h1, h2, h3, h4, h5, h6, h7, h8⟩
theorem fr_list {l m : List Q.Fr} (h : l.length = m.length) : l = m ↔ ∀ j, j < l.length → fr l j = fr m j := by
  constructor
  · rintro rfl j _; rfl
  · intro hj
    apply List.ext_getElem h
    intro i h1 h2
    have := hj i h1
    simpa [fr, atD, h1, h2] using this
set_option maxRecDepth 100000 in
set_option maxHeartbeats 4000000 in
theorem sequal_any (v u : Value) (l m : List Q.Fr) (w : World) (hr : RdF w v l) (hs : RdF w u m) (hn : l.length ≤ 1000000) (hlm : l.length = m.length) :
    Calls Try.prog 42 #[v, u] w (RB (decide (l = m)) w) := by
  obtain ⟨a, c, b, off, rfl, hac, hcell⟩ := hr
  obtain ⟨a2, c2, b2, off2, rfl, hac2, hcell2⟩ := hs
  have HC := Lib.hid hcell; clear hcell
  have HC2 := Lib.hid hcell2; clear hcell2
  have HLM := Lib.hid (fr_list hlm)
  rw [← hlm] at *
  clear hlm
  go_enter Try.func42, Try.ntmps42
  go_wp2_with fail
  go_loopw [13] (fun vi wr => ∃ (i : Nat), i ≤ l.length ∧ vi = .int .i64 i ∧ Hid (∀ j, j < i → fr l j = fr m j) ∧ ∃ n, wr = w.drewN n) (fun vi _ => l.length - (intOf vi).toNat)
  case atStart => exact ⟨0, by omega, rfl, Lib.hid fun j hj => by omega, 0, rfl⟩
  case round =>
    obtain ⟨i, hi, rfl, HE, n, rfl⟩ := hrel
    by_cases hlt : i < l.length
    · obtain ⟨ha, hrange⟩ := HC.out i hlt
      obtain ⟨ha2, hrange2⟩ := HC2.out i hlt
      have HF : Hid (fr l i ≠ fr m i → decide (l = m) = false) := Lib.hid fun h => decide_eq_false fun e => h (HLM.out.1 e i hlt)
      have HT : Hid (fr l i = fr m i → ∀ j, j < i + 1 → fr l j = fr m j) := Lib.hid fun h j hj => by
        by_cases e : j < i
        · exact HE.out j e
        · obtain rfl : j = i := by omega
          exact h
      replace hrange : w.rangeAt b (off + i * 9) (fcs (fr l i)) := hrange
      replace hrange2 : w.rangeAt b2 (off2 + i * 9) (fcs (fr m i)) := hrange2
      generalize fr l i = x at hrange HF HT
      generalize fr m i = y at hrange2 HF HT
      have hix := fun w' => run_idxS Try.underlying47 Try.sizeFr (cap := c) ha hlt _ rfl w'
      have hix2 := fun w' => run_idxS Try.underlying47 Try.sizeFr (cap := c2) ha2 hlt _ rfl w'
      have Ha := Lib.hid ha; clear ha
      have Ha2 := Lib.hid ha2; clear ha2
      rcases fr_cases x y with rfl | h0 | ⟨e0, h1⟩ | ⟨e0, e1, h2⟩ | ⟨e0, e1, e2, h3⟩ | ⟨e0, e1, e2, e3, h4⟩ | ⟨e0, e1, e2, e3, e4, h5⟩ | ⟨e0, e1, e2, e3, e4, e5, h6⟩ | ⟨e0, e1, e2, e3, e4, e5, e6, h7⟩ | ⟨e0, e1, e2, e3, e4, e5, e6, e7, h8⟩
      · obtain ⟨hc0, hc1, hc2, hc3, hc4, hc5, hc6, hc7, hc8⟩ := rd9 hrange
        obtain ⟨hf0, hf1, hf2, hf3, hf4, hf5, hf6, hf7, hf8⟩ := rd9 hrange2
        clear hrange hrange2
        go_wp2_with fail
        go_quiet (fail)
        go_wp2_with fail
        go_roundw
        case rel => exact ⟨i + 1, by omega, by go_num, Lib.hid (by first | exact HT.out rfl | exact HT.out trivial), _, rfl⟩
        case measure => simp [intOf]; omega
      · have HN : Hid (x ≠ y) := Lib.hid fun e => by rw [e] at h0; simp at h0
        obtain ⟨hc0, hc1, hc2, hc3, hc4, hc5, hc6, hc7, hc8⟩ := rd9 hrange
        obtain ⟨hf0, hf1, hf2, hf3, hf4, hf5, hf6, hf7, hf8⟩ := rd9 hrange2
        clear hrange hrange2
        go_wp2_with fail
        go_quiet (fail)
        go_wp2_with fail
        go_ret
        exact ⟨ret_f (HF.out HN.out), Go.Proofs.Ytiioojlihapdaaa.Below.drewN (Go.Proofs.Ytiioojlihapdaaa.Below.drewN (Below.refl _ _) _) _⟩
      · have HN : Hid (x ≠ y) := Lib.hid fun e => by rw [e] at h1; simp at h1
        obtain ⟨hc0, hc1, hc2, hc3, hc4, hc5, hc6, hc7, hc8⟩ := rd9 hrange
        obtain ⟨hf0, hf1, hf2, hf3, hf4, hf5, hf6, hf7, hf8⟩ := rd9 hrange2
        clear hrange hrange2
        go_wp2_with fail
        go_quiet (fail)
        go_wp2_with fail
        go_ret
        exact ⟨ret_f (HF.out HN.out), Go.Proofs.Ytiioojlihapdaaa.Below.drewN (Go.Proofs.Ytiioojlihapdaaa.Below.drewN (Below.refl _ _) _) _⟩
      · have HN : Hid (x ≠ y) := Lib.hid fun e => by rw [e] at h2; simp at h2
        obtain ⟨hc0, hc1, hc2, hc3, hc4, hc5, hc6, hc7, hc8⟩ := rd9 hrange
        obtain ⟨hf0, hf1, hf2, hf3, hf4, hf5, hf6, hf7, hf8⟩ := rd9 hrange2
        clear hrange hrange2
        go_wp2_with fail
        go_quiet (fail)
        go_wp2_with fail
        go_ret
        exact ⟨ret_f (HF.out HN.out), Go.Proofs.Ytiioojlihapdaaa.Below.drewN (Go.Proofs.Ytiioojlihapdaaa.Below.drewN (Below.refl _ _) _) _⟩
      · have HN : Hid (x ≠ y) := Lib.hid fun e => by rw [e] at h3; simp at h3
        obtain ⟨hc0, hc1, hc2, hc3, hc4, hc5, hc6, hc7, hc8⟩ := rd9 hrange
        obtain ⟨hf0, hf1, hf2, hf3, hf4, hf5, hf6, hf7, hf8⟩ := rd9 hrange2
        clear hrange hrange2
        go_wp2_with fail
        go_quiet (fail)
        go_wp2_with fail
        go_ret
        exact ⟨ret_f (HF.out HN.out), Go.Proofs.Ytiioojlihapdaaa.Below.drewN (Go.Proofs.Ytiioojlihapdaaa.Below.drewN (Below.refl _ _) _) _⟩
      · have HN : Hid (x ≠ y) := Lib.hid fun e => by rw [e] at h4; simp at h4
        obtain ⟨hc0, hc1, hc2, hc3, hc4, hc5, hc6, hc7, hc8⟩ := rd9 hrange
        obtain ⟨hf0, hf1, hf2, hf3, hf4, hf5, hf6, hf7, hf8⟩ := rd9 hrange2
        clear hrange hrange2
        go_wp2_with fail
        go_quiet (fail)
        go_wp2_with fail
        go_ret
        exact ⟨ret_f (HF.out HN.out), Go.Proofs.Ytiioojlihapdaaa.Below.drewN (Go.Proofs.Ytiioojlihapdaaa.Below.drewN (Below.refl _ _) _) _⟩
      · have HN : Hid (x ≠ y) := Lib.hid fun e => by rw [e] at h5; simp at h5
        obtain ⟨hc0, hc1, hc2, hc3, hc4, hc5, hc6, hc7, hc8⟩ := rd9 hrange
        obtain ⟨hf0, hf1, hf2, hf3, hf4, hf5, hf6, hf7, hf8⟩ := rd9 hrange2
        clear hrange hrange2
        go_wp2_with fail
        go_quiet (fail)
        go_wp2_with fail
        go_ret
        exact ⟨ret_f (HF.out HN.out), Go.Proofs.Ytiioojlihapdaaa.Below.drewN (Go.Proofs.Ytiioojlihapdaaa.Below.drewN (Below.refl _ _) _) _⟩
      · have HN : Hid (x ≠ y) := Lib.hid fun e => by rw [e] at h6; simp at h6
        obtain ⟨hc0, hc1, hc2, hc3, hc4, hc5, hc6, hc7, hc8⟩ := rd9 hrange
        obtain ⟨hf0, hf1, hf2, hf3, hf4, hf5, hf6, hf7, hf8⟩ := rd9 hrange2
        clear hrange hrange2
        go_wp2_with fail
        go_quiet (fail)
        go_wp2_with fail
        go_ret
        exact ⟨ret_f (HF.out HN.out), Go.Proofs.Ytiioojlihapdaaa.Below.drewN (Go.Proofs.Ytiioojlihapdaaa.Below.drewN (Below.refl _ _) _) _⟩
      · have HN : Hid (x ≠ y) := Lib.hid fun e => by rw [e] at h7; simp at h7
        obtain ⟨hc0, hc1, hc2, hc3, hc4, hc5, hc6, hc7, hc8⟩ := rd9 hrange
        obtain ⟨hf0, hf1, hf2, hf3, hf4, hf5, hf6, hf7, hf8⟩ := rd9 hrange2
        clear hrange hrange2
        go_wp2_with fail
        go_quiet (fail)
        go_wp2_with fail
        go_ret
        exact ⟨ret_f (HF.out HN.out), Go.Proofs.Ytiioojlihapdaaa.Below.drewN (Go.Proofs.Ytiioojlihapdaaa.Below.drewN (Below.refl _ _) _) _⟩
      · have HN : Hid (x ≠ y) := Lib.hid fun e => by rw [e] at h8; simp at h8
        obtain ⟨hc0, hc1, hc2, hc3, hc4, hc5, hc6, hc7, hc8⟩ := rd9 hrange
        obtain ⟨hf0, hf1, hf2, hf3, hf4, hf5, hf6, hf7, hf8⟩ := rd9 hrange2
        clear hrange hrange2
        go_wp2_with fail
        go_quiet (fail)
        go_wp2_with fail
        go_ret
        exact ⟨ret_f (HF.out HN.out), Go.Proofs.Ytiioojlihapdaaa.Below.drewN (Go.Proofs.Ytiioojlihapdaaa.Below.drewN (Below.refl _ _) _) _⟩
    · obtain rfl : i = l.length := by omega
      go_wp2_with fail
      go_ret
      exact ⟨ret_t (decide_eq_true (HLM.out.2 HE.out)), Go.Proofs.Ytiioojlihapdaaa.Below.drewN (Below.refl _ _) _⟩
end Go.Proofs.Ytiioojlihapdaaa.W10
