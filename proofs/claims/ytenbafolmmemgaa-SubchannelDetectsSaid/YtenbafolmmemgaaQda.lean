/- Chapter 10: tracks and points out of bytes walked (a map is ranged over). -/
import Derived.Test.YtenbafolmmemgaaQn
namespace Go.Proofs.Ytenbafolmmemgaa.W10
open Go.RowKit Go.Maps
set_option linter.unusedVariables false

theorem sp_not {n : Int} (h : isSp n = false) (z : DataW Unit) : spD.atKey (.int .i64 n) z = z := by
  have h2 : ¬ (n = 160 ∨ n = 161 ∨ n = 162 ∨ n = 170) := fun e => by rw [isSp_iff.2 e] at h; cases h
  have e1 : (Lit.int IntKind.i64 160).sameKey (.int .i64 n) = false := by simp [Lit.sameKey]; omega
  have e2 : (Lit.int IntKind.i64 161).sameKey (.int .i64 n) = false := by simp [Lit.sameKey]; omega
  have e3 : (Lit.int IntKind.i64 162).sameKey (.int .i64 n) = false := by simp [Lit.sameKey]; omega
  have e4 : (Lit.int IntKind.i64 170).sameKey (.int .i64 n) = false := by simp [Lit.sameKey]; omega
  simp only [spD, DataW.atKey, List.find?_cons, e1, e2, e3, e4, List.find?_nil]
theorem sp_val {x c : Int} (h : ∀ z : DataW Unit, spD.atKey (.int .i64 x) z = .lit (.int .u8 c)) : isSp x = true ∧ x = c := by
  cases hs : isSp x with
  | true => exact ⟨rfl, sp_c ((sp_at hs (.map [])).symm.trans (h _))⟩
  | false => have := (sp_not hs (.map [])).symm.trans (h _); simp at this
/-- no number that has come is the byte -/
def NoSp (left : Lit → Bool) (c : Int) : Prop := ∀ n : Int, isSp n = true → left (.int .i64 n) = false → n ≠ c
theorem noSp_start (c : Int) : NoSp (Maps.has spD) c := fun n h1 h2 => by rw [sp_has, h1] at h2; cases h2
theorem noSp_step {left : Lit → Bool} {c x : Int} (h : NoSp left c) (hx : x ≠ c) : NoSp (fun z => left z && !z.sameKey (.int .i64 x)) c := fun n h1 h2 => by
  cases hl : left (.int .i64 n) with
  | false => exact h n h1 hl
  | true =>
    simp only [hl, Bool.true_and, Bool.not_eq_false', Lit.sameKey, decide_eq_true_eq] at h2
    have : n = x := by simpa using h2
    rw [this]; exact hx
theorem noSp_end {left : Lit → Bool} {c : Int} (h : NoSp left c) (hl : ∀ k, left k = false) : isSp c = false := by
  cases hs : isSp c with
  | false => rfl
  | true => exact (h c hs (hl _) rfl).elim
/-- the number of a byte of a track or a point, and whether there is one -/
def un (c : Int) : Int := if isSp c = true then c else (unbcd c).1
def unB (c : Int) : Bool := isSp c || decide ((unbcd c).2 = 0)
theorem un_sp {c : Int} (h : isSp c = true) : un c = c ∧ unB c = true := ⟨if_pos h, by unfold unB; rw [h]; rfl⟩
theorem un_no {c : Int} (h : isSp c = false) : un c = (unbcd c).1 ∧ unB c = decide ((unbcd c).2 = 0) := ⟨if_neg (by rw [h]; decide), by unfold unB; rw [h]; rfl⟩
theorem eql_dec (x : Int) : (x == 0) = decide (x = 0) := by by_cases h : x = 0 <;> simp [h]
theorem ret_ib {a a' : Int} {b b' : Bool} (h : a = a') (g : b = b') : Ending.returned (.tuple #[.int .i64 a, .bool b]) = .returned (.tuple #[.int .i64 a', .bool b']) := by rw [h, g]
set_option maxRecDepth 100000 in
set_option maxHeartbeats 4000000 in
theorem unnumber_any (c : Int) (w : World) (h0 : 0 ≤ c) (h1 : c ≤ 255) : Calls Try.prog 50 #[.int .u8 c] w (RV (.tuple #[.int .i64 (un c), .bool (unB c)]) w) := by
  go_enter Try.func50, Try.ntmps50
  go_wp2_with fail
  refine (special_any _).mono ?_
  rintro e w1 ⟨b, rfl, hown, hb1⟩
  obtain ⟨r, hr⟩ : ∃ r, r = w1.heap.size := ⟨_, rfl⟩
  go_wp2_with (at_range; (refine wpList_range_own _ rfl _ 83 rfl 3 5 lawInt Try.underlying83 _ b 4 _ rfl hown ?_; intro w0 hrg0 hg0 hs0))
  have hb2 := hb1.grown hg0 hb1.size (fun k hk => by cases hk)
  rw [← hr] at hrg0 ⊢
  have hrw : w.heap.size ≤ r := by have := hb1.size; omega
  clear hg0 hs0 hown hb1 hr
  go_frame
  go_loopw [4] (fun _ wr => ∃ (left : Lit → Bool) (cnt : Nat), wr.ranges Try.prog 3 (plainElem Try.prog 5) b r 4 spD left cnt ∧ NoSp left c ∧ Below w.heap.size w wr)
    (fun _ wr => wr.rangeLeft b r)
  case atStart => exact ⟨_, _, hrg0, noSp_start c, hb2⟩
  case round =>
    clear hrg0 hb2
    obtain ⟨left, cnt, hrg, hns, hb⟩ := hrel
    have HN := Lib.hid hns; clear hns
    go_wp2_with (at_next; (refine wpList_next_ranges_ii _ rfl _ rfl 3 5 .i64 .u8 lawInt Try.underlying3 Try.underlying5 b r 4 _ _ _ rfl hrg ?_ ?_))
    · intro _ hl0
      have hsp := noSp_end HN.out hl0
      obtain ⟨hu1, hu2⟩ := un_no hsp
      have HU1 := Lib.hid hu1; have HU2 := Lib.hid hu2
      clear hl0 hsp hu1 hu2
      go_wp2_with (go_at_call 68; refine (unbcd_any c _ h0 h1).mono ?_; rintro e w2 ⟨rfl, rfl⟩)
      go_ret2
      exact ⟨ret_ib HU1.out.symm ((eql_dec _).trans HU2.out.symm), hb⟩
    · intro x y w2 cnt1 hwx hwc hlx hat hrg1 hlt hg1 hs1 hen
      have hb3 := hb.grown hg1 hb.size (fun k hk => by cases hk; exact hrw)
      obtain ⟨hsx, hxy⟩ := sp_val hat
      subst hxy
      have HS := Lib.hid hsx
      have HRG := Lib.hid hrg1
      have HL := Lib.hid (show wr.rangeLeft b r = cnt from hrg.left_eq)
      clear hat hsx hwx hwc hlx hg1 hs1 hrg hrg1
      by_cases hxc : x = c
      · subst hxc
        obtain ⟨hu1, hu2⟩ := un_sp HS.out
        have HU1 := Lib.hid hu1; have HU2 := Lib.hid hu2
        clear hu1 hu2
        go_wp2_with fail
        go_ret2
        exact ⟨ret_ib HU1.out.symm HU2.out.symm, hb3⟩
      · have hd : (x == c) = false := by simpa using hxc
        go_wp2_with fail
        go_roundw
        case rel => exact ⟨_, cnt1, HRG.out, noSp_step HN.out hxc, hb3⟩
        case measure => rw [HRG.out.left_eq, HL.out]; exact hlt
end Go.Proofs.Ytenbafolmmemgaa.W10
