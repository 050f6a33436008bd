/- Chapter 10: the first track that ends behind a block (slices.IndexFunc). -/
import Derived.Test.YtenbafolmmemgaaQm
namespace Go.Proofs.Ytenbafolmmemgaa.W10
open Go.RowKit
set_option linter.unusedVariables false

/-- tracks that are those of a session -/
def Fine (x : T.Trk) : Prop := 0 ≤ x.st ∧ x.st ≤ 449849 ∧ 1 ≤ x.len ∧ x.len ≤ 449849
theorem ends_any (x : T.Trk) (g : Nat) (lba : Int) (w : World) (hg : w.cell? ⟨g, 0, none⟩ = some (.int .i64 lba)) (hf : Fine x) :
    Calls Try.prog 29 #[tagg x, .pointer (some ⟨g, 0, none⟩)] w (RB (decide (lba < x.st + x.len)) w) := by
  have hlt : g < w.heap.size := World.block_lt_of_cell? w _ hg
  obtain ⟨f1, f2, f3, f4⟩ := hf
  go_enter Try.func29, Try.ntmps29
  go_wp2_with fail
  have hX : Bx (w.alloc (tobj x)) w.heap.size 53 (tcs x) := Bx.new _ _ _
  have hbe := (Below.refl w.heap.size w).alloc (Nat.le_refl _) (tobj x)
  have hg2 : (w.alloc (tobj x)).cell? ⟨g, 0, none⟩ = some (.int .i64 lba) := (hbe.cell (p := ⟨g, 0, none⟩) hlt).trans hg
  generalize w.alloc (tobj x) = W at hX hbe hg2 ⊢
  have hgW : g < W.heap.size := World.block_lt_of_cell? W _ hg2
  have hx0 := hX.cell (i := 0) rfl
  have hx1 := hX.cell (i := 1) rfl
  have hx2 := hX.cell (i := 2) rfl
  have hx3 := hX.cell (i := 3) rfl
  have hx4 := hX.cell (i := 4) rfl
  have hx5 := hX.cell (i := 5) rfl
  have hx6 := hX.cell (i := 6) rfl
  have hxl := hX.lt
  clear hg
  first | go_region_with (go_at_call 30; refine (send_any x _ f1 f2 f3 f4).mono ?_; rintro e w1 ⟨rfl, rfl⟩) | fail
  all_goals
    go_wp2_with fail
    go_ret
    have hbs := hbe.size
    refine ⟨rfl, ?_⟩
    repeat (first | exact hbe | refine Below.alloc ?_ (by first | omega | (simp; omega) | simp) _ | refine Below.drew ?_)
def idxV (l : List T.Trk) (lba : Int) : Int := match Q.firstP l lba l.length with
  | none => -1
  | some i => i
def Behind (l : List T.Trk) (lba : Int) (i : Nat) : Prop := ∀ m, m < i → ¬ lba < Q.en l m
def Past (x : T.Trk) (lba : Int) : Prop := ¬ lba < x.st + x.len
set_option maxRecDepth 100000 in
set_option maxHeartbeats 2000000 in
theorem first_any (v : Value) (l : List T.Trk) (w : World) (hr : RdK w v l) (hn : l.length ≤ 120) (hf : ∀ i, i < l.length → Fine (T.tr l i)) (g : Nat) (lba : Int) (hg : w.cell? ⟨g, 0, none⟩ = some (.int .i64 lba)) :
    Calls Try.prog 28 #[v, .func (.func 29) #[] #[.pointer (some ⟨g, 0, none⟩)]] w (RV (.int .i64 (idxV l lba)) w) := by
  have hg2 : g < w.heap.size := World.block_lt_of_cell? w _ hg
  obtain ⟨a, c, b, off, rfl, hac, hcell⟩ := hr
  have HC := Lib.hid hcell; clear hcell
  have HF := Lib.hid hf; clear hf
  go_enter Try.func28, Try.ntmps28
  go_wp2_with fail
  go_loopw [8] (fun vi wr => ∃ (i : Nat), i ≤ l.length ∧ vi = .int .i64 i ∧ Hid (Behind l lba i) ∧ Below w.heap.size w wr) (fun vi _ => l.length - (intOf vi).toNat)
  case atStart => exact ⟨0, by omega, rfl, Lib.hid fun m hm => by omega, Below.refl _ _⟩
  case round =>
    obtain ⟨i, hi, rfl, HO, hb⟩ := hrel
    have hbs := hb.size
    have hgr : wr.cell? ⟨g, 0, none⟩ = some (.int .i64 lba) := (hb.cell (p := ⟨g, 0, none⟩) hg2).trans hg
    by_cases hlt : i < l.length
    · obtain ⟨ha, hrange⟩ := HC.out i hlt
      have hfx := HF.out i hlt
      have HE : Hid (Q.en l i = (T.tr l i).st + (T.tr l i).len) := Lib.hid rfl
      replace hrange : w.rangeAt b (off + i * 7) (tcs (T.tr l i)) := hrange
      generalize T.tr l i = x at hrange hfx HE
      have hix := fun w' => run_idxS Try.underlying22 Try.sizeTrack (cap := c) ha hlt (i : Int) rfl w'
      have hrg : wr.rangeAt b (off + i * 7) (tcs x) := fun j u hu => (hb.cell (p := ⟨b, off + i * 7 + j, none⟩) (World.block_lt_of_cell? w _ (hrange j u hu))).trans (hrange j u hu)
      clear hrange
      obtain ⟨hc0, hc1, hc2, hc3, hc4, hc5, hc6⟩ := rd7 hrg
      clear hrg
      have Ha := Lib.hid ha; clear ha
      have HFx := Lib.hid hfx; clear hfx
      go_wp2_with fail
      refine (ends_any x g lba _ (by exact hgr) HFx.out).mono ?_
      rintro e w1 ⟨rfl, hb1⟩
      have hbb := hb.trans (hb1.mono hbs)
      by_cases hq : lba < x.st + x.len
      · have HI : Hid (idxV l lba = i) := Lib.hid (by unfold idxV; rw [Q.firstP_some hlt (by rw [HE.out]; exact hq) HO.out])
        rw [decide_eq_true hq]
        clear hq hb1
        go_wp2_with fail
        go_ret
        exact ⟨retI HI.out.symm, hbb⟩
      · have HQ : Hid (Past x lba) := Lib.hid hq
        rw [decide_eq_false hq]
        clear hq hb1
        go_wp2_with fail
        go_roundw
        case rel =>
          refine ⟨i + 1, by omega, by go_num, Lib.hid fun m hm => ?_, hbb⟩
          by_cases e9 : m < i
          · exact HO.out m e9
          · have e8 : m = i := by omega
            rw [e8, HE.out]; exact HQ.out
        case measure => simp [intOf] <;> omega
    · obtain rfl : i = l.length := by omega
      have HI : Hid (idxV l lba = -1) := Lib.hid (by unfold idxV; rw [Q.firstP_none HO.out])
      go_wp2_with fail
      go_ret
      exact ⟨retI HI.out.symm, hb⟩
end Go.Proofs.Ytenbafolmmemgaa.W10
