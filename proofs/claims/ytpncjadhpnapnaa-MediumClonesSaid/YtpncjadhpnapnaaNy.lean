/- Chapter 9: covered of the reference walked. -/
import Derived.Test.YtpncjadhpnapnaaNx
namespace Go.Proofs.Ytpncjadhpnapnaa.C9
open Go.RowKit D13
set_option linter.unusedVariables false

def CovP (n : Nat) (l : List Sc) (w : World) (e : Ending) (w' : World) : Prop := e = .returned (.slice (some ⟨w.heap.size, 0, none⟩) n n) ∧ Bx w' w.heap.size 4 (bb (mk n (gon l))) ∧ Below w.heap.size w w'
theorem take_snocS {l : List Sc} {i : Nat} (h : i < l.length) : l.take (i + 1) = l.take i ++ [scA l i] := by
  rw [List.take_succ_eq_append_getElem h, scA_get h]
theorem gon_nil : gon [] = fun _ => false := by funext g; simp [gon]
set_option maxRecDepth 100000 in
set_option maxHeartbeats 2000000 in
theorem covered_any (v : Value) (l : List Sc) (n : Nat) (w : World) (hr : RdSc w v l) (hwf : ∀ i, i < l.length → Wf (scA l i)) (hl : l.length ≤ 9223372036854775807) (hn : n ≤ 1000000000) (hfit : fitA n l = true) :
    Calls Try.prog 72 #[.int .i64 n, v] w (CovP n l w) := by
  obtain ⟨a, c, rfl, hac⟩ := RdD.form hr
  obtain ⟨b0, off, hcell⟩ := RdD.at hr
  have HC := Lib.hid hcell; clear hcell
  have HF := Lib.hid (fun (k : Nat) (hk : k < l.length) => fitA_at hfit hk); clear hfit
  clear hr hwf
  go_enter Try.func72, Try.ntmps72
  go_wp2_with (refine wpList_mkBool rfl _ _ rfl Try.underlying91 Try.infoBool9 n rfl rfl rfl rfl (by omega) ?_; intro w2 hbx hb2)
  go_loopw [6] (fun vi wr => ∃ (i : Nat), i ≤ l.length ∧ vi = .int .i64 i ∧ Bx wr w.heap.size 4 (bb (mk n (gon (l.take i)))) ∧ Below w.heap.size w wr) (fun vi _ => l.length - (intOf vi).toNat)
  case atStart => exact ⟨0, by omega, rfl, by rw [List.take_zero, gon_nil, mk_false]; exact hbx, hb2⟩
  case round =>
    clear hbx hb2
    obtain ⟨i, hi, rfl, hbx, hb⟩ := hrel
    by_cases hlt : i < l.length
    · obtain ⟨ha, hrange⟩ := HC.out i hlt
      have hfx := (fitB_iff _ _).1 (HF.out i hlt)
      have HT := Lib.hid (take_snocS hlt)
      change w.rangeAt b0 (off + i * 2) (scc (scA l i)) at hrange
      generalize scA l i = x at *
      obtain ⟨xf, xc⟩ := x
      simp only at hfx
      obtain ⟨f1, f2, f3, f4⟩ := hfx
      obtain ⟨cn, rfl⟩ : ∃ cn : Nat, xc = (cn : Int) := ⟨xc.toNat, by omega⟩
      obtain ⟨wo, rfl⟩ : ∃ wo : World, wo = wr := ⟨_, rfl⟩
      have hix := fun w' => run_idxS Try.underlying22 Try.sizeSc (cap := c) ha hlt _ rfl w'
      have Ha := Lib.hid ha; clear ha
      have hlb : b0 < w.heap.size := World.block_lt_of_cell? w _ (hrange 0 _ rfl)
      have HR := Lib.hid hrange; clear hrange
      go_wp2_with fail
      go_loopw [7] (fun vi wr => ∃ (j : Nat), j ≤ cn ∧ vi = .int .i64 j ∧ Bx wr w.heap.size 4 (bb (prt n (l.take i) ⟨xf, cn⟩ j)) ∧ Below w.heap.size w wr) (fun vi _ => cn - (intOf vi).toNat)
      case atStart => exact ⟨0, by omega, rfl, by rw [prt_zero]; exact hbx, hb⟩
      case round =>
        clear hbx hb
        obtain ⟨j, hj, rfl, hbx, hb⟩ := hrel
        have hrg : wr.rangeAt b0 (off + i * 2) (scc ⟨xf, cn⟩) := fun q u hu => (hb.cell (p := ⟨b0, off + i * 2 + q, none⟩) hlb).trans (HR.out q u hu)
        obtain ⟨hc0, hc1⟩ := rd2 hrg
        clear hrg
        simp only at hc0 hc1
        by_cases hjt : j < cn
        · have hjt' : (j : Int) < (cn : Int) := by omega
          obtain ⟨k, hk⟩ : ∃ k : Nat, (k : Int) = xf + j := ⟨(xf + j).toNat, by omega⟩
          have hkn : k < n := by omega
          have hset := hbx.set k (.bool true)
          rw [bb_set, prt_succ n _ _ j k hk] at hset
          have hix2 := fun w' => run_idxS Try.underlying91 Try.sizeBool9 (a := some ⟨w.heap.size, 0, none⟩) (cap := n) rfl hkn (xf + j) hk.symm w'
          simp only [Nat.mul_one, Nat.zero_add] at hix2
          have hcl : wr.cell? ⟨w.heap.size, k, none⟩ = some (.bool (gon (l.take i) k || covX ⟨xf, cn⟩ j k)) := hbx.cell (by rw [bb_get]; exact mk_get _ hkn)
          have hfr := hbx.free k
          clear hk
          go_wp2_with fail
          go_roundw
          case rel => exact ⟨j + 1, by omega, by go_num, hset, hb.setCell (Nat.le_refl _) _⟩
          case measure => simp [intOf]; omega
        · obtain rfl : j = cn := by omega
          go_wp2_with fail
          go_roundw
          case rel => exact ⟨i + 1, by omega, by go_num, by rw [HT.out, ← prt_all n (l.take i) ⟨xf, j⟩ j rfl]; exact hbx, hb⟩
          case measure => simp [intOf]; omega
    · obtain rfl : i = l.length := by omega
      rw [List.take_length] at hbx
      go_wp2_with fail
      go_ret
      exact ⟨rfl, hbx, hb⟩
end Go.Proofs.Ytpncjadhpnapnaa.C9
