/- Find of the package walked: a block of a track (chapter 14). -/
import Derived.Test.YtiioojlihapdaaaTkR
import Derived.Test.YtiioojlihapdaaaTkD
import Derived.Outline
namespace Go.Proofs.Ytiioojlihapdaaa
open Go.RowKit
set_option linter.unusedVariables false

set_option maxRecDepth 100000 in
set_option maxHeartbeats 2000000 in
theorem find_hit (cl : Int) (fin : Bool) (sv : Value) (l : List T.Trk) (lba : Int) (w : World) (hr : RdK w sv l) (hf : Few l) (i : Nat) (hi : i < l.length) (h1 : (T.tr l i).st ≤ lba) (h2 : lba < (T.tr l i).st + (T.tr l i).len)
    (h3 : ∀ j, j < i → ¬ ((T.tr l j).st ≤ lba ∧ lba < (T.tr l j).st + (T.tr l j).len)) :
    Calls Try.prog 16 #[tval cl fin sv, .int .i64 lba] w fun e w' => e = .returned (.tuple #[.int .i64 (T.tr l i).num, .bool true]) ∧ Below w.heap.size w w' := by
  obtain ⟨a, c, b, off, rfl, hac, hcell⟩ := hr
  have HC := Lib.hid hcell; clear hcell
  have H3 := Lib.hid h3; clear h3
  have H12 := Lib.hid (And.intro h1 h2); clear h1 h2
  have HF := Lib.hid hf.2
  have hn := hf.1
  clear hf
  go_enter Try.func16, Try.ntmps16
  go_wp2_with fail
  go_loopw [11] (fun vi wr => ∃ (k : Nat), k ≤ i ∧ vi = .int .i64 k ∧ Below (w.heap.size + 1) (w.alloc (.cells #[.int .i64 cl, .bool fin, .slice a l.length c] 24)) wr) (fun vi _ => l.length - (intOf vi).toNat)
  case atStart => exact ⟨0, by omega, rfl, by simpa using Below.refl _ _⟩
  case round =>
    obtain ⟨k, hk, rfl, hb⟩ := hrel
    have hlt : k < l.length := by omega
    obtain ⟨ha, hrange⟩ := HC.out k hlt
    have hsz : w.heap.size < wr.heap.size := by have := hb.size; simp at this; omega
    have hb0 : Below w.heap.size w wr := ((Below.refl _ _).alloc (Nat.le_refl _) _).trans (hb.mono (by omega))
    have hrg : wr.rangeAt b (off + k * 7) (tcs (T.tr l k)) := fun j u hu => (hb0.cell (p := ⟨b, off + k * 7 + j, none⟩) (World.block_lt_of_cell? w _ (hrange j u hu))).trans (hrange j u hu)
    clear hrange
    have hsm := HF.out k hlt
    have HE : Hid (k = i → (T.tr l k).st ≤ lba ∧ lba < (T.tr l k).st + (T.tr l k).len) := Lib.hid fun e => by rw [e]; exact H12.out
    have HN : Hid (k < i → ¬ ((T.tr l k).st ≤ lba ∧ lba < (T.tr l k).st + (T.tr l k).len)) := Lib.hid fun e => H3.out k e
    have HX : Hid (k = i → (T.tr l i).num = (T.tr l k).num) := Lib.hid fun e => by rw [e]
    generalize T.tr l k = x at *
    obtain ⟨_, _, sm3, sm4, _⟩ := hsm
    have hix := fun w' => run_idxS Try.underlying22 Try.sizeTrack (cap := c) ha hlt _ rfl w'
    obtain ⟨hc0, hc1, hc2, hc3, hc4, hc5, hc6⟩ := rd7 hrg
    clear hrg
    have Ha := Lib.hid ha; clear ha
    by_cases hki : k = i
    · have hq := HE.out hki
      have d1 : decide (x.st ≤ lba) = true := decide_eq_true hq.1
      have d2 : decide (lba < x.st + x.len) = true := decide_eq_true hq.2
      clear hq
      have HX2 := Lib.hid (HX.out hki)
      have Hki := Lib.hid hki; clear hki
      go_wp2_with (go_at_call 38; refine (end_any x _ sm3 sm4).mono ?_; rintro e w1 ⟨rfl, rfl⟩)
      go_ret2
      rw [HX2.out]
      refine ⟨rfl, ?_⟩
      repeat (first | exact hb0 | refine Below.alloc ?_ (by first | omega | (simp; omega) | simp) _ | refine Below.drew ?_)
    · have hq := HN.out (by omega)
      by_cases d1 : x.st ≤ lba
      · have d2 : decide (lba < x.st + x.len) = false := decide_eq_false fun h => hq ⟨d1, h⟩
        have d1 : decide (x.st ≤ lba) = true := decide_eq_true d1
        clear hq
        go_wp2_with (go_at_call 38; refine (end_any x _ sm3 sm4).mono ?_; rintro e w1 ⟨rfl, rfl⟩)
        go_roundw
        case rel =>
          refine ⟨k + 1, by omega, by go_num, ?_⟩
          repeat (first | exact hb | refine Below.alloc ?_ (by first | omega | (simp; omega) | simp) _ | refine Below.drew ?_)
        case measure => simp [intOf]; omega
      · have d1 : decide (x.st ≤ lba) = false := decide_eq_false d1
        clear hq
        go_wp2_with fail
        go_roundw
        case rel =>
          refine ⟨k + 1, by omega, by go_num, ?_⟩
          repeat (first | exact hb | refine Below.alloc ?_ (by first | omega | (simp; omega) | simp) _ | refine Below.drew ?_)
        case measure => simp [intOf]; omega
end Go.Proofs.Ytiioojlihapdaaa
