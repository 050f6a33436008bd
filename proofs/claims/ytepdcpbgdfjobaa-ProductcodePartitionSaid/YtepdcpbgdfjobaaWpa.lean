/- Chapter 8: the law ProductcodePartition walked. -/
import Derived.Test.YtepdcpbgdfjobaaWa
import Derived.Test.YtepdcpbgdfjobaaWn
namespace Go.Proofs.Ytepdcpbgdfjobaa.W8
open Go.RowKit Go.Shelf
set_option linter.unusedVariables false

set_option maxRecDepth 100000 in
set_option maxHeartbeats 8000000 in
theorem partition_law (w : World) (n : Int) (hn : (Lit.int .u16 n).wf = true) : Calls Try.prog 3 #[.int .u16 n] w fun e w' => e = .returned (.bool true) ∧ Below w.heap.size w w' := by
  have hn' : 0 ≤ n ∧ n ≤ 65535 := by simpa [Lit.wf, IntKind.min, IntKind.max, IntKind.signed, IntKind.bits] using hn
  obtain ⟨h1, h2⟩ := hn'
  clear hn
  go_enter Try.func3, Try.ntmps3
  go_wp2_with fail
  refine (awake8_any _).mono ?_
  rintro e w0 ⟨rfl, hb0⟩
  go_wp2_with fail
  obtain ⟨x, hx⟩ : ∃ x : Int, x = 12 + n % 2340 := ⟨_, rfl⟩
  have hx1 : 12 ≤ x := by omega
  have hx2 : x < 2352 := by omega
  try rw [← hx]
  have HX := Lib.hid hx
  clear hx
  go_loopw [4, 22] (fun vp vn wr => ∃ k : Nat, k ≤ 86 ∧ vn = .int .i64 k ∧ vp = .int .i64 (psN x k : Nat) ∧ Below w.heap.size w wr) (fun _ vn _ => 86 - (intOf vn).toNat)
  case atStart => exact ⟨0, by omega, rfl, rfl, hb0⟩
  case round =>
    clear hb0
    obtain ⟨k, hk, rfl, rfl, hb⟩ := hrel
    by_cases hlt : k < 86
    · have hlt' : (k : Int) < 86 := by omega
      have hle := psN_le x k
      have HN : Hid (psN x (k + 1) = psN x k + cw x (pw k) 26) := Lib.hid rfl
      generalize psN x k = P at *
      go_wp2_with fail
      refine (pword_ok k _ _ rfl hlt).mono ?_
      rintro e w1 ⟨v1, rfl, ho1, hb1⟩
      obtain ⟨g1, c1, rfl, hc1⟩ := own_int ho1 (by omega)
      have hB1 := hb.trans (hb1.mono hb.size)
      have HC := Lib.hid hc1
      have HB1 := Lib.hid hB1
      clear hb hb1 hc1 ho1 hB1
      go_wp2_with fail
      go_loop [4, 39] (fun vp vj => ∃ j : Nat, j ≤ 26 ∧ vj = .int .i64 j ∧ vp = .int .i64 (P + cw x (pw k) j : Nat)) (fun _ vj => 26 - (intOf vj).toNat)
      case atStart => exact ⟨0, by omega, rfl, rfl⟩
      case round =>
        obtain ⟨j, hj, rfl, rfl⟩ := hrel
        by_cases hlj : j < 26
        · have hlj' : (j : Int) < 26 := by omega
          have hcl := cw_le x (pw k) j
          have hcj := HC.out j hlj
          have HCW : Hid (cw x (pw k) (j + 1) = cw x (pw k) j + if ixI (pw k) j = x then 1 else 0) := Lib.hid rfl
          generalize cw x (pw k) j = c at *
          generalize ixI (pw k) j = y at *
          by_cases hy : y = x
          · have hyb : (y == x) = true := by simpa using hy
            rw [if_pos hy] at HCW
            have HY := Lib.hid hy; clear hy
            go_wp2_with fail
            go_round
            case rel => exact ⟨j + 1, by omega, by go_num, by rw [HCW.out]; go_num⟩
            case measure => simp [intOf]; omega
          · have hyb : (y == x) = false := by simpa using hy
            rw [if_neg hy] at HCW
            have HY := Lib.hid hy; clear hy
            go_wp2_with fail
            go_round
            case rel => exact ⟨j + 1, by omega, by go_num, by rw [HCW.out]; rfl⟩
            case measure => simp [intOf]; omega
        · obtain rfl : j = 26 := by omega
          go_wp2_with fail
          go_roundw
          case rel => exact ⟨k + 1, by omega, by go_num, by rw [HN.out], HB1.out⟩
          case measure => simp [intOf]; omega
    · obtain rfl : k = 86 := by omega
      rw [show ((86 : Nat) : Int) = 86 from rfl]
      have HP : Hid (psN x 86 = if 2248 ≤ x then 0 else 1) := Lib.hid (by split; exact ps_none x (by omega); exact ps_one x hx1 (by omega))
      have hle := psN_le x 86
      generalize psN x 86 = PP at *
      have hb0 := hb
      clear hb
      go_wp2_with fail
      go_loopw [5, 50] (fun vp vn wr => ∃ k : Nat, k ≤ 52 ∧ vn = .int .i64 k ∧ vp = .int .i64 (qsN x k : Nat) ∧ Below w.heap.size w wr) (fun _ vn _ => 52 - (intOf vn).toNat)
      case atStart => exact ⟨0, by omega, rfl, rfl, hb0⟩
      case round =>
        clear hb0
        obtain ⟨k, hk, rfl, rfl, hb⟩ := hrel
        by_cases hlt : k < 52
        · have hlt' : (k : Int) < 52 := by omega
          have hle := qsN_le x k
          have HN : Hid (qsN x (k + 1) = qsN x k + cw x (qw k) 45) := Lib.hid rfl
          generalize qsN x k = P at *
          go_wp2_with fail
          refine (qword_ok k _ _ rfl hlt).mono ?_
          rintro e w1 ⟨v1, rfl, ho1, hb1⟩
          obtain ⟨g1, c1, rfl, hc1⟩ := own_int ho1 (by omega)
          have hB1 := hb.trans (hb1.mono hb.size)
          have HC := Lib.hid hc1
          have HB1 := Lib.hid hB1
          clear hb hb1 hc1 ho1 hB1
          go_wp2_with fail
          go_loop [5, 67] (fun vp vj => ∃ j : Nat, j ≤ 45 ∧ vj = .int .i64 j ∧ vp = .int .i64 (P + cw x (qw k) j : Nat)) (fun _ vj => 45 - (intOf vj).toNat)
          case atStart => exact ⟨0, by omega, rfl, rfl⟩
          case round =>
            obtain ⟨j, hj, rfl, rfl⟩ := hrel
            by_cases hlj : j < 45
            · have hlj' : (j : Int) < 45 := by omega
              have hcl := cw_le x (qw k) j
              have hcj := HC.out j hlj
              have HCW : Hid (cw x (qw k) (j + 1) = cw x (qw k) j + if ixI (qw k) j = x then 1 else 0) := Lib.hid rfl
              generalize cw x (qw k) j = c at *
              generalize ixI (qw k) j = y at *
              by_cases hy : y = x
              · have hyb : (y == x) = true := by simpa using hy
                rw [if_pos hy] at HCW
                have HY := Lib.hid hy; clear hy
                go_wp2_with fail
                go_round
                case rel => exact ⟨j + 1, by omega, by go_num, by rw [HCW.out]; go_num⟩
                case measure => simp [intOf]; omega
              · have hyb : (y == x) = false := by simpa using hy
                rw [if_neg hy] at HCW
                have HY := Lib.hid hy; clear hy
                go_wp2_with fail
                go_round
                case rel => exact ⟨j + 1, by omega, by go_num, by rw [HCW.out]; rfl⟩
                case measure => simp [intOf]; omega
            · obtain rfl : j = 45 := by omega
              go_wp2_with fail
              go_roundw
              case rel => exact ⟨k + 1, by omega, by go_num, by rw [HN.out], HB1.out⟩
              case measure => simp [intOf]; omega
        · obtain rfl : k = 52 := by omega
          rw [show ((52 : Nat) : Int) = 52 from rfl]
          have HQ : Hid (qsN x 52 = 1) := Lib.hid (qs_one x hx1 hx2)
          rw [HQ.out]
          clear hle
          by_cases hg : 2248 ≤ x
          · have hg' : decide (2248 ≤ x) = true := by simpa using hg
            rw [if_pos hg] at HP
            rw [HP.out]
            go_wp2_with fail
            go_ret
            exact ⟨rfl, hb⟩
          · have hg' : decide (2248 ≤ x) = false := by simpa using hg
            rw [if_neg hg] at HP
            rw [HP.out]
            go_wp2_with fail
            go_ret
            exact ⟨rfl, hb⟩
end Go.Proofs.Ytepdcpbgdfjobaa.W8
