/- The four operations of both, all ways together (chapter 14). -/
import Derived.Test.YtiioojlihapdaaaTkRs2
import Derived.Test.YtiioojlihapdaaaTkApp
import Derived.Test.YtiioojlihapdaaaTkCr
import Derived.Test.YtiioojlihapdaaaTkCq
namespace Go.Proofs.Ytiioojlihapdaaa
open Go.RowKit
set_option linter.unusedVariables false

def i64 (a : Int) : Prop := -9223372036854775808 ≤ a ∧ a ≤ 9223372036854775807

theorem reserve_any (cap cl : Int) (fin : Bool) (sv : Value) (l : List T.Trk) (count pk : Int) (w : World) (hr : RdK w sv l) (hf : Few l) (hi : i64 count) :
    Calls Try.prog 28 #[.int .i64 cap, tval cl fin sv, .int .i64 count, .int .i64 pk] w (OpP (reserveR cap cl fin l count pk) w) := by
  unfold reserveR
  cases hV : T.validB cap cl fin l with
  | false => rw [if_pos rfl]; exact preserve_1 cap cl fin sv l count pk w hr hf hV
  | true =>
    rw [if_neg (by simp)]
    cases fin with
    | true => rw [if_pos rfl]; exact preserve_2 cap cl sv l count pk w hr hf hV
    | false =>
      rw [if_neg (by simp)]
      by_cases hp : T.okPk count pk
      · rw [if_neg (not_not_intro hp)]
        by_cases hn : l.length = 99 ∨ cl = 16
        · rw [if_pos hn]; exact preserve_4 cap cl sv l count pk w hr hf hV hp hi hn
        · rw [if_neg hn]
          by_cases hx : cap - T.stN cl l < count
          · rw [if_pos hx]; exact preserve_5 cap cl sv l count pk w hr hf hV hp hi (fun h => hn (.inl h)) (fun h => hn (.inr h)) hx
          · rw [if_neg hx]; exact preserve_6 cap cl sv l count pk w hr hf hV hp hi (fun h => hn (.inl h)) (fun h => hn (.inr h)) hx
      · rw [if_pos hp]; exact preserve_3 cap cl sv l count pk w hr hf hV hp hi
theorem rreserve_any (cap cl : Int) (fin : Bool) (sv : Value) (l : List T.Trk) (count pk : Int) (w : World) (hr : RdK w sv l) (hf : Few l) (hi : i64 count) :
    Calls Try.prog 32 #[.int .i64 cap, tval cl fin sv, .int .i64 count, .int .i64 pk] w (OpP (reserveR cap cl fin l count pk) w) := by
  unfold reserveR
  cases hV : T.validB cap cl fin l with
  | false => rw [if_pos rfl]; exact rreserve_1 cap cl fin sv l count pk w hr hf hV
  | true =>
    rw [if_neg (by simp)]
    cases fin with
    | true => rw [if_pos rfl]; exact rreserve_2 cap cl sv l count pk w hr hf hV
    | false =>
      rw [if_neg (by simp)]
      by_cases hp : T.okPk count pk
      · rw [if_neg (not_not_intro hp)]
        by_cases hn : l.length = 99 ∨ cl = 16
        · rw [if_pos hn]; exact rreserve_4 cap cl sv l count pk w hr hf hV hp hi hn
        · rw [if_neg hn]
          by_cases hx : cap - T.stN cl l < count
          · rw [if_pos hx]; exact rreserve_5 cap cl sv l count pk w hr hf hV hp hi (fun h => hn (.inl h)) (fun h => hn (.inr h)) hx
          · rw [if_neg hx]; exact rreserve_6 cap cl sv l count pk w hr hf hV hp hi (fun h => hn (.inl h)) (fun h => hn (.inr h)) hx
      · rw [if_pos hp]; exact rreserve_3 cap cl sv l count pk w hr hf hV hp hi
theorem append_any (cap cl : Int) (fin : Bool) (sv : Value) (l : List T.Trk) (lba count : Int) (w : World) (hr : RdK w sv l) (hf : Few l) (hi : i64 count) (hi2 : i64 lba) :
    Calls Try.prog 29 #[.int .i64 cap, tval cl fin sv, .int .i64 lba, .int .i64 count] w (OpP (appendR cap cl fin l lba count) w) := by
  cases hV : T.validB cap cl fin l with
  | false => unfold appendR; rw [if_pos hV]; exact pappend_1 cap cl fin sv l lba count w hr hf hV
  | true => exact pappend_2 cap cl fin sv l lba count w hr hf hV hi hi2
theorem rappend_any (cap cl : Int) (fin : Bool) (sv : Value) (l : List T.Trk) (lba count : Int) (w : World) (hr : RdK w sv l) (hf : Few l) (hi : i64 count) (hi2 : i64 lba) :
    Calls Try.prog 33 #[.int .i64 cap, tval cl fin sv, .int .i64 lba, .int .i64 count] w (OpP (appendR cap cl fin l lba count) w) := by
  cases hV : T.validB cap cl fin l with
  | false => unfold appendR; rw [if_pos hV]; exact rappend_1 cap cl fin sv l lba count w hr hf hV
  | true => exact rappend_2 cap cl fin sv l lba count w hr hf hV hi hi2
theorem csess_any (cap cl : Int) (fin : Bool) (sv : Value) (l : List T.Trk) (fz : Bool) (w : World) (hr : RdK w sv l) (hf : Few l) :
    Calls Try.prog 31 #[.int .i64 cap, tval cl fin sv, .bool fz] w (OpP (closeSessR cap cl fin l fz) w) := by
  unfold closeSessR
  cases hV : T.validB cap cl fin l with
  | false => rw [if_pos rfl]; exact pcsess_1 cap cl fin sv l fz w hr hf hV
  | true =>
    rw [if_neg (by simp)]
    cases fin with
    | true => rw [if_pos rfl]; exact pcsess_2 cap cl sv l fz w hr hf hV
    | false =>
      rw [if_neg (by simp)]
      cases hu : anyP (undoneP l) l.length with
      | true => rw [if_pos rfl]; exact pcsess_3 cap cl sv l fz w hr hf hV hu
      | false =>
        rw [if_neg (by simp)]
        cases hl : anyP (laterP cl l) l.length with
        | true => rw [if_pos rfl]; exact pcsess_4 cap cl sv l fz w hr hf hV hu hl
        | false =>
          rw [if_neg (by simp)]
          by_cases hz : fz = false ∨ cl = 0
          · rw [if_pos hz]; exact pcsess_5 cap cl sv l fz w hr hf hV hu hl hz
          · rw [if_neg hz]
            cases fz with
            | false => exact absurd (.inl rfl) hz
            | true => exact pcsess_6 cap cl sv l w hr hf hV hu hl (fun h => hz (.inr h))
theorem rcsess_any (cap cl : Int) (fin : Bool) (sv : Value) (l : List T.Trk) (fz : Bool) (w : World) (hr : RdK w sv l) (hf : Few l) :
    Calls Try.prog 35 #[.int .i64 cap, tval cl fin sv, .bool fz] w (OpP (closeSessR cap cl fin l fz) w) := by
  cases hV : T.validB cap cl fin l with
  | false => unfold closeSessR; rw [if_pos hV]; exact rcsess_1 cap cl fin sv l fz w hr hf hV
  | true =>
    cases fin with
    | true => unfold closeSessR; rw [if_neg (by rw [hV]; simp), if_pos rfl]; exact rcsess_2 cap cl sv l fz w hr hf hV
    | false => exact rcsess_3 cap cl sv l fz w hr hf hV
end Go.Proofs.Ytiioojlihapdaaa
