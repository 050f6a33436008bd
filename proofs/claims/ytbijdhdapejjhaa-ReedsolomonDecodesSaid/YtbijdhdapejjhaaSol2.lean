/- Walk of merged of the reference of chapter 4. -/
import Derived.Test.YtbijdhdapejjhaaSol1
import Derived.Test.YtbijdhdapejjhaaMg
namespace Go.Proofs.Ytbijdhdapejjhaa
open Go.RowKit
set_option linter.unusedVariables false

set_option maxRecDepth 100000 in
set_option maxHeartbeats 4000000 in
theorem merged_any (v : Value) (l : List Int) (x : Int) (w : World) (hv : RdI w v l) (hl : l.length ≤ 1000) (hx1 : -9223372036854775808 ≤ x) (hx2 : x ≤ 9223372036854775807) :
    Calls Try.prog 72 #[v, .int .i64 x] w fun e w' => ∃ v', e = .returned v' ∧ RdI w' v' (G.mg l x) ∧ Below w.heap.size w w' := by
  have hmem : ∀ y ∈ G.mg l x, -9223372036854775808 ≤ y ∧ y ≤ 9223372036854775807 := fun y hy => by
    rcases (G.mem_mg l x y).1 hy with h | rfl
    · obtain ⟨k, hk, rfl⟩ := List.getElem_of_mem h
      have := hv.2.2 k hk
      rwa [G.ixI_get hk] at this
    · exact ⟨hx1, hx2⟩
  have HM := Lib.hid hmem; clear hmem
  have hml := G.mg_length l x
  have HML := Lib.hid hml; clear hml
  obtain ⟨h0, ⟨a, cap, b, off, rfl, hcap, hcell⟩, hrng⟩ := hv
  have HC := Lib.hid hcell; clear hcell
  have HR := Lib.hid hrng; clear hrng
  go_enter Try.func72, Try.ntmps72
  go_wp2_with fail
  have ho0 : (w.alloc (.cells #[] 3)).ownsRow w.heap.size 3 1 (.slice (some ⟨w.heap.size, 0, none⟩) 0 0) 0 (is []) := World.ownsRow_lit w #[] 0 (Nat.le_refl _) (by simp) (by simp)
  have hb0 : Below w.heap.size w (w.alloc (.cells #[] 3)) := (Below.refl _ _).alloc (Nat.le_refl _) _
  go_loopw [5, 6, 7] (fun vo vd vk wr => ∃ k : Nat, k ≤ l.length ∧ vk = .int .i64 k ∧ vd = .bool (G.mgS l x k).2 ∧ wr.ownsRow w.heap.size 3 1 vo (G.mgS l x k).1.length (is (G.mgS l x k).1) ∧ Below w.heap.size w wr) (fun _ _ vk _ => l.length - (intOf vk).toNat)
  case atStart => exact ⟨0, by omega, rfl, rfl, ho0, hb0⟩
  case round =>
    clear ho0 hb0
    obtain ⟨k, hk, rfl, rfl, ho, hb⟩ := hrel
    have hsl := G.mgS_length l x k
    obtain ⟨⟨S, d⟩, hS⟩ : ∃ s, s = G.mgS l x k := ⟨_, rfl⟩
    rw [← hS] at ho hsl ⊢
    dsimp only at ho hsl ⊢
    have hsl2 : S.length ≤ k + 1 := by rw [hsl]; split <;> omega
    clear hsl
    by_cases hlt : k < l.length
    · obtain ⟨ha, hcp⟩ := HC.out k hlt
      have hcw : wr.cell? ⟨b, off + k, none⟩ = some (.int .i64 (ixI l k)) := (hb.cell (p := ⟨b, off + k, none⟩) (World.block_lt_of_cell? w _ hcp)).trans hcp
      have hix := fun wx => run_idx (P := Try.prog) Try.underlying34 Try.sizeInt (cap := cap) ha hlt _ rfl wx
      have hbb := World.block_lt_of_cell? w _ hcp
      have Ha := Lib.hid ha; clear ha
      obtain ⟨y, hy⟩ : ∃ y, y = ixI l k := ⟨_, rfl⟩
      rw [← hy] at hcw hcp
      have Hcp := Lib.hid hcp; clear hcp
      have hbs := hb.size
      by_cases hc : d = false ∧ x < y
      · obtain ⟨rfl, hxy⟩ := hc
        have hd1 : decide (x < y) = true := decide_eq_true hxy
        have HS : Hid (G.mgS l x (k + 1) = (S ++ [x] ++ [y], true)) := Lib.hid (by rw [G.mgS, ← hS, if_pos ⟨rfl, by rw [← hy]; exact hxy⟩, ← hy])
        have Hy := Lib.hid hy; clear hy
        have Hxy := Lib.hid hxy; clear hxy
        clear hS
        have ho6 := own_keep ho ((Below.refl wr.heap.size wr).alloc (Nat.le_refl _) (.cells #[.int .i64 x] 3))
        have hb6 := hb.alloc hbs (.cells #[.int .i64 x] 3)
        have hb6s := hb6.size
        clear ho hb
        go_wp2_with (first | (refine wpList_appI rfl _ _ rfl Try.underlying34 Try.infoI64 ho6 rfl (g := wr.heap.size) (y := x) (by simp) rfl (by omega) hb6s ?_; intro v7 w7 hown7 hgr7; have hb7 := hb6.grown hgr7 hb6s (ownBlock_ge ho6); have hcw7 := (hb7.cell (p := ⟨b, off + k, none⟩) hbb).trans Hcp.out; have hb7s := hb7.size; have ho8 := own_keep hown7 ((Below.refl w7.heap.size w7).alloc (Nat.le_refl _) (.cells #[.int .i64 y] 3)); have hb8 := hb7.alloc hb7s (.cells #[.int .i64 y] 3); have hb8s := hb8.size; clear hb6 ho6 hgr7 hown7 hb7 hcw) | (refine wpList_appI rfl _ _ rfl Try.underlying34 Try.infoI64 ho8 rfl (g := w7.heap.size) (y := y) (by simp) rfl (by omega) hb8s ?_; intro v9 w9 hown9 hgr9))
        have hb9 := hb8.grown hgr9 hb8s (ownBlock_ge ho8)
        clear hb8 ho8 hgr9
        go_roundw
        case rel =>
          refine ⟨k + 1, by omega, by go_num, by rw [HS.out], ?_, hb9⟩
          rw [HS.out]
          simpa using hown9
        case measure => simp [intOf]; omega
      · have HS : Hid (G.mgS l x (k + 1) = (S ++ [y], d)) := Lib.hid (by rw [G.mgS, ← hS, if_neg (by rw [← hy]; exact hc), ← hy])
        have Hy := Lib.hid hy; clear hy
        clear hS
        have hb6s := (hb.alloc hbs (.cells #[.int .i64 y] 3)).size
        have ho6 := own_keep ho ((Below.refl wr.heap.size wr).alloc (Nat.le_refl _) (.cells #[.int .i64 y] 3))
        have hb6 := hb.alloc hbs (.cells #[.int .i64 y] 3)
        have hdec : (d = true ∧ Hid True) ∨ (d = false ∧ Hid (decide (x < y) = false)) := by
          cases d with
          | true => exact .inl ⟨rfl, Lib.hid trivial⟩
          | false => exact .inr ⟨rfl, Lib.hid (decide_eq_false (fun h => hc ⟨rfl, h⟩))⟩
        clear hc ho hb
        rcases hdec with ⟨rfl, Hd⟩ | ⟨rfl, Hd⟩
        all_goals
          have hd1 := Hd.out
          go_wp2_with (refine wpList_appI rfl _ _ rfl Try.underlying34 Try.infoI64 ho6 rfl (g := wr.heap.size) (y := y) (by simp) rfl (by omega) hb6s ?_; intro v7 w7 hown7 hgr7)
          have hb7 := hb6.grown hgr7 hb6s (ownBlock_ge ho6)
          clear hb6 ho6 hgr7
          go_roundw
          case rel =>
            refine ⟨k + 1, by omega, by go_num, by rw [HS.out], ?_, hb7⟩
            rw [HS.out]
            simpa using hown7
          case measure => simp [intOf]; omega
    · obtain rfl : k = l.length := by omega
      have hbs := hb.size
      cases d with
      | true =>
        have HS : Hid (G.mg l x = S) := Lib.hid (by unfold G.mg; rw [← hS]; rfl)
        clear hS
        go_wp2_with fail
        go_ret
        rw [HS.out]
        exact ⟨_, rfl, RdI.ofOwn ho (by omega) (by rw [← HS.out]; exact HM.out), hb⟩
      | false =>
        have HS : Hid (G.mg l x = S ++ [x]) := Lib.hid (by unfold G.mg; rw [← hS]; rfl)
        clear hS
        have ho6 := own_keep ho ((Below.refl wr.heap.size wr).alloc (Nat.le_refl _) (.cells #[.int .i64 x] 3))
        have hb6 := hb.alloc hbs (.cells #[.int .i64 x] 3)
        have hb6s := hb6.size
        clear ho hb
        go_wp2_with (refine wpList_appI rfl _ _ rfl Try.underlying34 Try.infoI64 ho6 rfl (g := wr.heap.size) (y := x) (by simp) rfl (by omega) hb6s ?_; intro v7 w7 hown7 hgr7)
        have hb7 := hb6.grown hgr7 hb6s (ownBlock_ge ho6)
        go_ret
        rw [HS.out]
        refine ⟨_, rfl, RdI.ofOwn (by simpa using hown7) (by simp; omega) (by rw [← HS.out]; exact HM.out), hb7⟩
end Go.Proofs.Ytbijdhdapejjhaa
