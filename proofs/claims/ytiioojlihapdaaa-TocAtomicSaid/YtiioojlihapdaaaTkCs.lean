/- slices.IndexFunc and slices.ContainsFunc at tracks, with the two functions that CloseSession gives them (chapter 14). -/
import Derived.Test.YtiioojlihapdaaaTkRes
import Derived.Outline
namespace Go.Proofs.Ytiioojlihapdaaa
open Go.RowKit
set_option linter.unusedVariables false

def anyP (p : Nat → Bool) (n : Nat) : Bool := (List.range n).any p
theorem anyP_true {p : Nat → Bool} {n : Nat} : anyP p n = true ↔ ∃ m, m < n ∧ p m = true := by simp [anyP]
theorem anyP_false {p : Nat → Bool} {n : Nat} : anyP p n = false ↔ ∀ m, m < n → p m = false := by simp [anyP]
def laterP (cl : Int) (l : List T.Trk) (m : Nat) : Bool := decide (cl < (T.tr l m).ses)
def undoneP (l : List T.Trk) (m : Nat) : Bool := decide ((T.tr l m).sta ≠ 2)
def IdxP (p : Nat → Bool) (n : Nat) (w : World) (e : Ending) (w' : World) : Prop := ∃ r : Int, e = .returned (.int .i64 r) ∧ decide (0 ≤ r) = anyP p n ∧ Below w.heap.size w w'

theorem later_any (x : T.Trk) (g : Nat) (cl : Int) (w : World) (hg : w.cell? ⟨g, 0, none⟩ = some (.int .i64 cl)) (hlt : g < w.heap.size) :
    Calls Try.prog 53 #[tagg x, .pointer (some ⟨g, 0, none⟩)] w (RB (decide (cl < x.ses)) w) := by
  go_enter Try.func53, Try.ntmps53
  go_wp2
  go_ret
  exact ⟨rfl, (Below.refl _ _).alloc (Nat.le_refl _) _⟩
theorem undone_any (x : T.Trk) (w : World) :
    Calls Try.prog 54 #[tagg x] w (RB (decide (x.sta ≠ 2)) w) := by
  by_cases h : x.sta = 2
  · have hd : (x.sta != 2) = false := by rw [bne_eq_false_iff_eq]; exact h
    rw [decide_eq_false (not_not_intro h)]
    clear h
    go_enter Try.func54, Try.ntmps54
    go_wp2
    go_ret
    exact ⟨rfl, (Below.refl _ _).alloc (Nat.le_refl _) _⟩
  · have hd : (x.sta != 2) = true := by rw [bne_iff_ne]; exact h
    rw [decide_eq_true h]
    clear h
    go_enter Try.func54, Try.ntmps54
    go_wp2
    go_ret
    exact ⟨rfl, (Below.refl _ _).alloc (Nat.le_refl _) _⟩

set_option maxRecDepth 100000 in
set_option maxHeartbeats 2000000 in
theorem idx_later (v : Value) (l : List T.Trk) (w : World) (hr : RdK w v l) (hn : l.length ≤ 110) (g : Nat) (cl : Int) (hg : w.cell? ⟨g, 0, none⟩ = some (.int .i64 cl)) (hg2 : g < w.heap.size) :
    Calls Try.prog 82 #[v, .func (.func 53) #[] #[.pointer (some ⟨g, 0, none⟩)]] w (IdxP (laterP cl l) l.length w) := by
  obtain ⟨a, c, b, off, rfl, hac, hcell⟩ := hr
  have HC := Lib.hid hcell; clear hcell
  go_enter Try.func82, Try.ntmps82
  go_wp2_with fail
  go_loopw [8] (fun vi wr => ∃ (i : Nat), i ≤ l.length ∧ vi = .int .i64 i ∧ Hid (∀ m, m < i → (laterP cl l) m = false) ∧ Below w.heap.size w wr) (fun vi _ => l.length - (intOf vi).toNat)
  case atStart => exact ⟨0, by omega, rfl, Lib.hid fun m hm => by omega, Below.refl _ _⟩
  case round =>
    obtain ⟨i, hi, rfl, HO, hb⟩ := hrel
    have hbs := hb.size
    have hgr : wr.cell? ⟨g, 0, none⟩ = some (.int .i64 cl) := (hb.cell (p := ⟨g, 0, none⟩) hg2).trans hg
    by_cases hlt : i < l.length
    · obtain ⟨ha, hrange⟩ := HC.out i hlt
      obtain ⟨x, hx⟩ : ∃ x, x = T.tr l i := ⟨_, rfl⟩
      rw [← hx] at hrange
      have HX := Lib.hid hx; clear hx
      have hix := fun w' => run_idxS Try.underlying22 Try.sizeTrack (cap := c) ha hlt _ rfl w'
      have hrg : wr.rangeAt b (off + i * 7) (tcs x) := fun j u hu => (hb.cell (p := ⟨b, off + i * 7 + j, none⟩) (World.block_lt_of_cell? w _ (hrange j u hu))).trans (hrange j u hu)
      clear hrange
      obtain ⟨hc0, hc1, hc2, hc3, hc4, hc5, hc6⟩ := rd7 hrg
      clear hrg
      have Ha := Lib.hid ha; clear ha
      go_wp2_with fail
      refine (later_any x g cl _ (by exact hgr) (by omega)).mono ?_
      rintro e w1 ⟨rfl, hb1⟩
      have hbb := hb.trans (hb1.mono hbs)
      generalize hq : decide (cl < x.ses) = q
      have HQ2 : Hid ((laterP cl l) i = q) := Lib.hid (by unfold laterP; rw [← HX.out]; exact hq)
      clear hq hb1
      cases q
      · go_wp2_with fail
        go_roundw
        case rel =>
          refine ⟨i + 1, by omega, by go_num, Lib.hid fun m hm => ?_, hbb⟩
          by_cases e9 : m < i
          · exact HO.out m e9
          · have e8 : m = i := by omega
            rw [e8]; exact HQ2.out
        case measure => simp [intOf] <;> omega
      · go_wp2_with fail
        go_ret
        refine ⟨i, rfl, ?_, hbb⟩
        rw [anyP_true.2 ⟨i, hlt, HQ2.out⟩]; simp
    · obtain rfl : i = l.length := by omega
      go_wp2_with fail
      go_ret
      refine ⟨-1, rfl, ?_, hb⟩
      rw [anyP_false.2 HO.out]; rfl
set_option maxRecDepth 100000 in
set_option maxHeartbeats 2000000 in
theorem has_later (v : Value) (l : List T.Trk) (w : World) (hr : RdK w v l) (hn : l.length ≤ 110) (g : Nat) (cl : Int) (hg : w.cell? ⟨g, 0, none⟩ = some (.int .i64 cl)) (hg2 : g < w.heap.size) :
    Calls Try.prog 52 #[v, .func (.func 53) #[] #[.pointer (some ⟨g, 0, none⟩)]] w (RB (anyP (laterP cl l) l.length) w) := by
  obtain ⟨a, c, rfl, _⟩ := RdS.form hr
  have HI := Lib.hid (idx_later _ l w hr hn g cl hg hg2)
  go_enter Try.func52, Try.ntmps52
  go_wp2_with fail
  refine HI.out.mono ?_
  rintro e w1 ⟨r, rfl, hr1, hb⟩
  have HR1 := Lib.hid hr1; clear hr1
  go_wp2_with fail
  go_ret
  exact ⟨retB HR1.out, hb⟩
set_option maxRecDepth 100000 in
set_option maxHeartbeats 2000000 in
theorem idx_undone (v : Value) (l : List T.Trk) (w : World) (hr : RdK w v l) (hn : l.length ≤ 110)  :
    Calls Try.prog 82 #[v, .func (.func 54) #[] #[]] w (IdxP (undoneP l) l.length w) := by
  obtain ⟨a, c, b, off, rfl, hac, hcell⟩ := hr
  have HC := Lib.hid hcell; clear hcell
  go_enter Try.func82, Try.ntmps82
  go_wp2_with fail
  go_loopw [8] (fun vi wr => ∃ (i : Nat), i ≤ l.length ∧ vi = .int .i64 i ∧ Hid (∀ m, m < i → (undoneP l) m = false) ∧ Below w.heap.size w wr) (fun vi _ => l.length - (intOf vi).toNat)
  case atStart => exact ⟨0, by omega, rfl, Lib.hid fun m hm => by omega, Below.refl _ _⟩
  case round =>
    obtain ⟨i, hi, rfl, HO, hb⟩ := hrel
    have hbs := hb.size
    by_cases hlt : i < l.length
    · obtain ⟨ha, hrange⟩ := HC.out i hlt
      obtain ⟨x, hx⟩ : ∃ x, x = T.tr l i := ⟨_, rfl⟩
      rw [← hx] at hrange
      have HX := Lib.hid hx; clear hx
      have hix := fun w' => run_idxS Try.underlying22 Try.sizeTrack (cap := c) ha hlt _ rfl w'
      have hrg : wr.rangeAt b (off + i * 7) (tcs x) := fun j u hu => (hb.cell (p := ⟨b, off + i * 7 + j, none⟩) (World.block_lt_of_cell? w _ (hrange j u hu))).trans (hrange j u hu)
      clear hrange
      obtain ⟨hc0, hc1, hc2, hc3, hc4, hc5, hc6⟩ := rd7 hrg
      clear hrg
      have Ha := Lib.hid ha; clear ha
      go_wp2_with fail
      refine (undone_any x _).mono ?_
      rintro e w1 ⟨rfl, hb1⟩
      have hbb := hb.trans (hb1.mono hbs)
      generalize hq : decide (x.sta ≠ 2) = q
      have HQ2 : Hid ((undoneP l) i = q) := Lib.hid (by unfold undoneP; rw [← HX.out]; exact hq)
      clear hq hb1
      cases q
      · go_wp2_with fail
        go_roundw
        case rel =>
          refine ⟨i + 1, by omega, by go_num, Lib.hid fun m hm => ?_, hbb⟩
          by_cases e9 : m < i
          · exact HO.out m e9
          · have e8 : m = i := by omega
            rw [e8]; exact HQ2.out
        case measure => simp [intOf] <;> omega
      · go_wp2_with fail
        go_ret
        refine ⟨i, rfl, ?_, hbb⟩
        rw [anyP_true.2 ⟨i, hlt, HQ2.out⟩]; simp
    · obtain rfl : i = l.length := by omega
      go_wp2_with fail
      go_ret
      refine ⟨-1, rfl, ?_, hb⟩
      rw [anyP_false.2 HO.out]; rfl
set_option maxRecDepth 100000 in
set_option maxHeartbeats 2000000 in
theorem has_undone (v : Value) (l : List T.Trk) (w : World) (hr : RdK w v l) (hn : l.length ≤ 110)  :
    Calls Try.prog 52 #[v, .func (.func 54) #[] #[]] w (RB (anyP (undoneP l) l.length) w) := by
  obtain ⟨a, c, rfl, _⟩ := RdS.form hr
  have HI := Lib.hid (idx_undone _ l w hr hn)
  go_enter Try.func52, Try.ntmps52
  go_wp2_with fail
  refine HI.out.mono ?_
  rintro e w1 ⟨r, rfl, hr1, hb⟩
  have HR1 := Lib.hid hr1; clear hr1
  go_wp2_with fail
  go_ret
  exact ⟨retB HR1.out, hb⟩
end Go.Proofs.Ytiioojlihapdaaa
