/- Chapter 10: numbers of addresses walked. -/
import Derived.Test.YtiioojlihapdaaaQv
import Derived.Test.YtiioojlihapdaaaInv
namespace Go.Proofs.Ytiioojlihapdaaa.W10
open Go.RowKit
set_option linter.unusedVariables false

/-- the number of an address -/
def nmb (m s f : Int) : Int := (60 * m + s) * 75 + f
theorem nmb_bd {m s f : Int} (h : vB m s f = true) : 0 ≤ nmb m s f ∧ nmb m s f < 450000 := by
  have := vB_true.1 h; unfold nmb; omega
set_option maxRecDepth 100000 in
theorem lba_any (m s f : Int) (w : World) (h : vB m s f = true) : Calls Try.prog 41 #[msfv m s f] w (R2B (.int .i64 (nmb m s f - 150)) (.int .i64 0) w) := by
  have HV := Lib.hid h
  have hbd := nmb_bd h
  have HN := Lib.hid (fun W => anumber_any m s f W (vB_true.1 h))
  clear h
  have HE : Hid ((60 * m + s) * 75 + f = nmb m s f) := Lib.hid rfl
  go_enter Try.func41, Try.ntmps41
  go_wp2_with fail
  refine (avalid_any m s f _).mono ?_
  rw [HV.out]
  rintro e w1 ⟨rfl, hb⟩
  have hM := (Bx.new w 78 [.int .i64 m, .int .i64 s, .int .i64 f]).call hb
  have hle := ((Below.refl w.heap.size w).alloc (Nat.le_refl _) (.cells #[.int .i64 m, .int .i64 s, .int .i64 f] 78)).trans (hb.mono (by simp))
  have c0 := hM.cell (i := 0) rfl
  have c1 := hM.cell (i := 1) rfl
  have c2 := hM.cell (i := 2) rfl
  clear hb hM
  go_wp2_with fail
  refine (HN.out _).mono ?_
  rw [HE.out]
  rintro e w2 ⟨rfl, hb2⟩
  go_wp2_with fail
  go_ret2
  exact ⟨rfl, hle.trans (hb2.mono hle.size)⟩
set_option maxRecDepth 100000 in
theorem lba_no (m s f : Int) (w : World) (h : vB m s f = false) : Calls Try.prog 41 #[msfv m s f] w (R2B (.int .i64 0) (.int .i64 1) w) := by
  have HV := Lib.hid h
  clear h
  go_enter Try.func41, Try.ntmps41
  go_wp2_with fail
  refine (avalid_any m s f _).mono ?_
  rw [HV.out]
  rintro e w1 ⟨rfl, hb⟩
  have hle := ((Below.refl w.heap.size w).alloc (Nat.le_refl _) (.cells #[.int .i64 m, .int .i64 s, .int .i64 f] 78)).trans (hb.mono (by simp))
  go_wp2_with fail
  go_ret2
  exact ⟨rfl, hle⟩
def disV (m s f x y z : Int) (i : Nat) (v : Value) (W : World) : Prop := match i with
  | 0 => v = msfv x y z
  | 1 => v = .int .i64 (nmb x y z)
  | 2 => v = msfv m s f
  | 3 => v = .int .i64 (nmb m s f)
  | 4 => v = .int .i64 (nmb x y z - nmb m s f)
  | 5 => v = .int .i64 (nmb x y z - nmb m s f)
  | 6 => v = .int .i64 0
  | _ => True
end Go.Proofs.Ytiioojlihapdaaa.W10
