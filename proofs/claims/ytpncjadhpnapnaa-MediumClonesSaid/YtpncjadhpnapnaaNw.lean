/- Chapter 9: Frames, fits, Fits and covered walked. -/
import Derived.Test.YtpncjadhpnapnaaCa
import Derived.Test.YtpncjadhpnapnaaOwn
import Derived.Test.YtpncjadhpnapnaaRi
import Derived.Test.YtpncjadhpnapnaaChecked
import Derived.Test.YtpncjadhpnapnaaLib
import Derived.IntWalk
import Derived.Outline
namespace Go.Proofs.Ytpncjadhpnapnaa.C9
open Go.RowKit D13
set_option linter.unusedVariables false

theorem Try.sizeBool9 : (Try.prog.info? 4).map (·.size) = some 1 := by kernel_rfl
theorem Try.infoBool9 : (Try.prog.info? 4).map (fun i => (i.zero, i.size, i.bytes)) = some (some (.bool false), 1, 1) := by kernel_rfl
theorem Try.sizeSc : (Try.prog.info? 36).map (·.size) = some 2 := by kernel_rfl
theorem Try.sizeInt9 : (Try.prog.info? 3).map (·.size) = some 1 := by kernel_rfl
theorem Try.infoInt9 : (Try.prog.info? 3).map (fun i => (i.zero, i.size, i.bytes)) = some (some (.int .i64 0), 1, 8) := by kernel_rfl
/-- what a function ends with that returns one value -/
def RV (v : Value) (w : World) (e : Ending) (w' : World) : Prop := e = .returned v ∧ Below w.heap.size w w'
/-- scratches as cells -/
def scz : Sc := ⟨0, 0⟩
def scc (s : Sc) : List Value := [.int .i64 s.f, .int .i64 s.c]
theorem scc_len (s : Sc) : (scc s).length = 2 := rfl
def scA (l : List Sc) (i : Nat) : Sc := atD scz l i
def Wf (s : Sc) : Prop := (-9223372036854775808 ≤ s.f ∧ s.f ≤ 9223372036854775807) ∧ (-9223372036854775808 ≤ s.c ∧ s.c ≤ 9223372036854775807)
def RdSc (w : World) (v : Value) (l : List Sc) : Prop := RdD scz scc 2 w v l
theorem rd2 {w : World} {b o : Nat} {x : Sc} (h : w.rangeAt b o (scc x)) : w.cell? ⟨b, o, none⟩ = some (.int .i64 x.f) ∧ w.cell? ⟨b, o + 1, none⟩ = some (.int .i64 x.c) := ⟨h 0 _ rfl, h 1 _ rfl⟩

def frN (d : Int) : Int := if d < 1 ∨ 401408 < d then 0 else d + 108
theorem frames_any (d : Int) (w : World) : Calls Try.prog 40 #[.int .i64 d] w fun e w' => e = .returned (.int .i64 (frN d)) ∧ w = w' := by
  unfold frN
  by_cases h1 : d < 1
  · rw [if_pos (.inl h1)]
    go_enter Try.func40, Try.ntmps40
    go_wp2
    go_ret
    exact ⟨rfl, rfl⟩
  by_cases h2 : 401408 < d
  · rw [if_pos (.inr h2)]
    go_enter Try.func40, Try.ntmps40
    go_wp2
    go_ret
    exact ⟨rfl, rfl⟩
  rw [if_neg (by omega)]
  go_enter Try.func40, Try.ntmps40
  go_wp2
  go_ret
  exact ⟨rfl, rfl⟩
theorem rframes_any (d : Int) (w : World) : Calls Try.prog 71 #[.int .i64 d] w fun e w' => e = .returned (.int .i64 (frN d)) ∧ w = w' := by
  unfold frN
  by_cases h1 : d < 1
  · rw [if_pos (.inl h1)]
    go_enter Try.func71, Try.ntmps71
    go_wp2
    go_ret
    exact ⟨rfl, rfl⟩
  by_cases h2 : 401408 < d
  · rw [if_pos (.inr h2)]
    go_enter Try.func71, Try.ntmps71
    go_wp2
    go_ret
    exact ⟨rfl, rfl⟩
  rw [if_neg (by omega)]
  go_enter Try.func71, Try.ntmps71
  go_wp2
  go_ret
  exact ⟨rfl, rfl⟩
theorem fits_any (f c : Int) (n : Nat) (w : World) (hs : Wf ⟨f, c⟩) (hn : n ≤ 1000000000) :
    Calls Try.prog 41 #[.agg #[.int .i64 f, .int .i64 c], .int .i64 n] w (RV (.bool (fitB n ⟨f, c⟩)) w) := by
  obtain ⟨⟨f1, f2⟩, c1, c2⟩ := hs
  have hb := (Below.refl w.heap.size w).alloc (Nat.le_refl _) (.cells #[.int .i64 f, .int .i64 c] 36)
  simp only at f1 f2 c1 c2
  have no : ∀ (h : ¬ (0 ≤ f ∧ 1 ≤ c ∧ c ≤ (n : Int) ∧ f ≤ (n : Int) - c)), fitB n ⟨f, c⟩ = false := fun h => by
    rw [Bool.eq_false_iff]; intro h2; exact h ((fitB_iff n ⟨f, c⟩).1 h2)
  by_cases h1 : 0 ≤ f
  · by_cases h2 : 1 ≤ c
    · by_cases h3 : c ≤ (n : Int)
      · by_cases h4 : f ≤ (n : Int) - c
        · rw [(fitB_iff n ⟨f, c⟩).2 ⟨h1, h2, h3, h4⟩]
          clear no
          go_enter Try.func41, Try.ntmps41
          go_wp2
          go_ret
          exact ⟨rfl, hb⟩
        · rw [no (by omega)]
          clear no
          go_enter Try.func41, Try.ntmps41
          go_wp2
          go_ret
          exact ⟨rfl, hb⟩
      · rw [no (by omega)]
        clear no
        go_enter Try.func41, Try.ntmps41
        go_wp2
        go_ret
        exact ⟨rfl, hb⟩
    · rw [no (by omega)]
      clear no
      go_enter Try.func41, Try.ntmps41
      go_wp2
      go_ret
      exact ⟨rfl, hb⟩
  · rw [no (by omega)]
    clear no
    go_enter Try.func41, Try.ntmps41
    go_wp2
    go_ret
    exact ⟨rfl, hb⟩
end Go.Proofs.Ytpncjadhpnapnaa.C9
