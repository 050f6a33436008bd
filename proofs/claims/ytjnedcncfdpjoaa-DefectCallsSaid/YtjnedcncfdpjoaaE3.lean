/- Chapter 13: home, Physical, Blocks, Primary, Replace, Block walked. -/
import Derived.Test.YtjnedcncfdpjoaaE2
namespace Go.Proofs.Ytjnedcncfdpjoaa.D13
open Go.RowKit Go.Maps
set_option linter.unusedVariables false

theorem Try.sizeInt13 : (Try.prog.info? 3).map (·.size) = some 1 := by kernel_rfl
theorem hmK_le (l : List Int) : ∀ b : Int, hmK l b ≤ b + l.length := by
  induction l with
  | nil => intro b; simp [hmK]
  | cons p r ih =>
    intro b
    rw [hmK_cons, List.length_cons]
    split
    · have := ih (b + 1); push_cast; omega
    · have := ih b; push_cast; omega
theorem RdI.at {w : World} {a : Option Addr} {c : Nat} {l : List Int} (h : RdI w (.slice a l.length c) l) : ∃ b off, ∀ i, i < l.length → a = some ⟨b, off, none⟩ ∧ w.cell? ⟨b, off + i, none⟩ = some (.int .i64 (ixI l i)) := by
  obtain ⟨_, ⟨a', c', b, o, hv, _, hcell⟩, _⟩ := h
  injection hv with e1 _ _
  subst e1
  exact ⟨b, o, hcell⟩
set_option maxRecDepth 100000 in
set_option maxHeartbeats 2000000 in
theorem home_any {w : World} {g gm : Nat} {vp : Value} {T : Tab} (h : TabW w g gm vp T) (b : Int) (b0 : -10000 ≤ b) (b1 : b ≤ 10000) :
    Calls Try.prog 31 #[.pointer (some ⟨g, 0, none⟩), .int .i64 b] w fun e w' => e = .returned (.int .i64 (hmK T.prim b)) ∧ w = w' := by
  obtain ⟨c0, c1, c2, c3, c4⟩ := h.cells
  obtain ⟨a, c, hvp⟩ := RdI.formD h.rd
  have hp := h.rd
  subst hvp
  obtain ⟨bl, off, hcell⟩ := RdI.at hp
  have HC := Lib.hid hcell
  have HR := Lib.hid hp.2.2
  have hn := h.ok.pl
  clear h hp hcell
  generalize T.prim = l at *
  go_enter Try.func31, Try.ntmps31
  go_wp2_with fail
  go_loopw [12, 1] (fun vk vb wr => ∃ k : Nat, k ≤ l.length ∧ vk = .int .i64 k ∧ vb = .int .i64 (hmK (l.take k) b) ∧ wr = w) (fun vk _ _ => l.length - (intOf vk).toNat)
  case atStart => exact ⟨0, by omega, rfl, rfl, rfl⟩
  case round =>
    obtain ⟨k, hk, rfl, rfl, rfl⟩ := hrel
    by_cases hlt : k < l.length
    · obtain ⟨ha, hcl⟩ := HC.out k hlt
      obtain ⟨r1, r2⟩ := HR.out k hlt
      have hix := fun w' => run_idxS Try.underlying22 Try.sizeInt13 (cap := c) ha hlt (k : Int) rfl w'
      simp only [Nat.mul_one] at hix
      have HT := Lib.hid (hmK_take l b k hlt)
      have e : l[k] = ixI l k := by simp [ixI, hlt]
      rw [e] at HT
      have hg := hmK_ge (l.take k) b
      have hl := hmK_le (l.take k) b
      rw [List.length_take, Nat.min_eq_left hk] at hl
      generalize hmK (l.take k) b = y at *
      generalize ixI l k = p at *
      have HA := Lib.hid ha
      clear ha e
      by_cases hle : p ≤ y
      · have HY : Hid (hmK (l.take (k + 1)) b = y + 1) := Lib.hid (by have := HT.out; rwa [if_pos hle] at this)
        go_wp2_with fail
        go_roundw
        case rel => exact ⟨k + 1, by omega, by go_num, by rw [HY.out], trivial⟩
        case measure => simp [intOf]; omega
      · have HY : Hid (hmK (l.take (k + 1)) b = y) := Lib.hid (by have := HT.out; rwa [if_neg hle] at this)
        go_wp2_with fail
        go_roundw
        case rel => exact ⟨k + 1, by omega, by go_num, by rw [HY.out], trivial⟩
        case measure => simp [intOf]; omega
    · obtain rfl : k = l.length := by omega
      go_wp2_with fail
      go_ret
      refine ⟨?_, rfl⟩
      rw [List.take_length]
      rfl
theorem Tab.phys_none {T : Tab} {b : Int} (h : T.mv b = none) : T.phys b = hmK T.prim b := by unfold Tab.phys; rw [h]
theorem Tab.phys_some {T : Tab} {b : Int} {s : Nat} (h : T.mv b = some s) : T.phys b = (T.first : Int) + s := by unfold Tab.phys; rw [h]
/-- what Physical returns -/
def physR (T : Tab) (b : Int) : Int × Int := if 0 ≤ b ∧ b < T.blocks then (T.phys b, 0) else (0, 2)
set_option maxRecDepth 100000 in
set_option maxHeartbeats 2000000 in
theorem physical_any {w : World} {g gm : Nat} {vp : Value} {T : Tab} (h : TabW w g gm vp T) (b : Int) (hb : In64 b) :
    Calls Try.prog 13 #[.pointer (some ⟨g, 0, none⟩), .int .i64 b] w (RetQ (.tuple #[.int .i64 (physR T b).1, .int .i64 (physR T b).2]) w) := by
  obtain ⟨c0, c1, c2, c3, c4⟩ := h.cells
  have HH := Lib.hid (has_any h b)
  have HF := Lib.hid (first_any h)
  have HO := Lib.hid (fun h0 h1 => home_any h b h0 h1)
  have hok := Lib.hid h.ok
  unfold physR
  by_cases hr : 0 ≤ b ∧ b < (T.blocks : Int)
  · rw [if_pos hr]
    rw [decide_eq_true hr] at HH
    have hb2 := h.ok.b2
    have hm := h.map.run b hb
    cases hs : T.mv b with
    | none =>
      rw [Tab.phys_none hs]
      simp only [hs, Option.map_none, Option.getD_none, Option.isSome_none] at hm
      clear hs h
      go_enter Try.func13, Try.ntmps13
      go_wp2_with fail
      refine HH.out.mono ?_
      rintro e w' ⟨rfl, rfl⟩
      go_wp2_with fail
      refine (HO.out (by omega) (by omega)).mono ?_
      rintro e w' ⟨rfl, rfl⟩
      go_wp2_with fail
      go_ret2
      exact ⟨rfl, 0, rfl⟩
    | some s =>
      rw [Tab.phys_some hs]
      have h4 : T.first ≤ 5000 := by have := h.ok.pl; unfold Tab.first; omega
      have h5 := (h.ok.mr b s hs).2.2
      have h6 := h.ok.sp
      have h7 := h.ok.us
      simp only [hs, Option.map_some, Option.getD_some, Option.isSome_some] at hm
      clear hs h
      generalize T.first = n at *
      go_enter Try.func13, Try.ntmps13
      go_wp2_with fail
      refine HH.out.mono ?_
      rintro e w' ⟨rfl, rfl⟩
      go_wp2_with fail
      refine HF.out.mono ?_
      rintro e w' ⟨rfl, q, rfl⟩
      go_wp2_with fail
      go_ret2
      exact ⟨rfl, q, rfl⟩
  · rw [if_neg hr]
    rw [decide_eq_false hr] at HH
    clear hr h
    go_enter Try.func13, Try.ntmps13
    go_wp2_with fail
    refine HH.out.mono ?_
    rintro e w' ⟨rfl, rfl⟩
    go_wp2_with fail
    go_ret2
    exact ⟨rfl, 0, rfl⟩
end Go.Proofs.Ytjnedcncfdpjoaa.D13
