/- Chapter 9: collect of the package with the closure of Lost walked. -/
import Derived.Test.YtpncjadhpnapnaaNz
namespace Go.Proofs.Ytpncjadhpnapnaa.C9
open Go.RowKit D13 Ap
set_option linter.unusedVariables false

/-- the box 'eb' holds a slice that owns the ints 'E' -/
def ErB (eb : Nat) (E : List Int) (W : World) : Prop := ∃ ve, Bx W eb 30 [ve] ∧ W.ownsRow (eb + 1) 3 1 ve E.length (is E)
def ErP (eb : Nat) (E : List Int) (w : World) (e : Ending) (w' : World) : Prop := e = .returned (.tuple #[]) ∧ ErB eb E w' ∧ Below eb w w'
set_option maxRecDepth 100000 in
set_option maxHeartbeats 1000000 in
theorem lost1_no (i : Int) (fr gb g N eb k : Nat) (E : List Int) (w : World) (hg : w.cell? ⟨gb, 0, none⟩ = some (.slice (some ⟨g, 0, none⟩) N N)) (hc : w.cell? ⟨g, fr, none⟩ = some (.bool false)) (hfr : fr < N) (x : Int) (hx : x = fr) (he : ErB eb E w) :
    Calls Try.prog 43 #[.int .i64 i, .int .i64 x, .pointer (some ⟨gb, 0, none⟩), .pointer (some ⟨eb, 0, none⟩)] w (ErP eb E w) := by
  have hix := fun w' => run_idxS Try.underlying91 Try.sizeBool9 (a := some ⟨g, 0, none⟩) (cap := N) rfl hfr x hx w'
  simp only [Nat.mul_one, Nat.zero_add] at hix
  have Hx := Lib.hid hx; clear hx
  have HE := Lib.hid he; clear he
  go_enter Try.func43, Try.ntmps43
  go_wp2_with fail
  go_end0
  exact ⟨rfl, HE.out, Below.refl _ _⟩
set_option maxRecDepth 100000 in
set_option maxHeartbeats 1000000 in
theorem lost1_yes (i : Int) (fr gb g N eb k : Nat) (E : List Int) (w : World) (hg : w.cell? ⟨gb, 0, none⟩ = some (.slice (some ⟨g, 0, none⟩) N N)) (hc : w.cell? ⟨g, fr, none⟩ = some (.bool true)) (hfr : fr < N) (x : Int) (hx : x = fr) (he : ErB eb E w) (hE : E.length ≤ 1000) :
    Calls Try.prog 43 #[.int .i64 i, .int .i64 x, .pointer (some ⟨gb, 0, none⟩), .pointer (some ⟨eb, 0, none⟩)] w (ErP eb (E ++ [i]) w) := by
  have hix := fun w' => run_idxS Try.underlying91 Try.sizeBool9 (a := some ⟨g, 0, none⟩) (cap := N) rfl hfr x hx w'
  simp only [Nat.mul_one, Nat.zero_add] at hix
  have Hx := Lib.hid hx; clear hx
  obtain ⟨ve, hbx, hoe⟩ := he
  have hc0 := hbx.cell (i := 0) rfl
  have hlt := hbx.lt
  have hoa := ownD_keep hoe ((Below.refl w.heap.size w).alloc (Nat.le_refl _) (.cells #[.int .i64 i] 3))
  have hba := (Below.refl eb w).alloc (Nat.le_of_lt hlt) (.cells #[.int .i64 i] 3)
  have hbxa := hbx.alloc (.cells #[.int .i64 i] 3)
  have hbas : eb + 1 ≤ (w.alloc (.cells #[.int .i64 i] 3)).heap.size := by simp; omega
  have HBX := Lib.hid hbxa
  clear hbx hoe hbxa
  go_enter Try.func43, Try.ntmps43
  go_wp2_with (at_builtin; refine wpList_ap1 rfl _ _ rfl Try.underlying30 Try.infoInt9 rfl hoa rfl (g := w.heap.size) (y := .int .i64 i) rfl (by simp) rfl (by unfold maxLen; omega) (by omega) hbas ?_; intro v7 w7 hown7 hgr7 hno7; obtain ⟨a7, c7, rfl⟩ := ownD_form hown7; have hbx7 := bx_off HBX.out hgr7 (fun h => by have := ownD_block hoa eb h; omega); have hb7 := hba.grown hgr7 (by omega) (fun q hq => by have := ownD_block hoa q hq; omega); have hc7 := hbx7.cell (i := 0) rfl; have hf7 := hbx7.free 0; clear hoa hba hbas hgr7 hno7 hc0)
  go_end0
  exact ⟨rfl, ⟨_, hbx7.set 0 _, by rw [is_append, List.length_append]; exact ownD_far hown7 (by simp only; omega) _⟩, hb7.setCell (Nat.le_refl _) _⟩
set_option maxRecDepth 100000 in
set_option maxHeartbeats 1000000 in
theorem collect_lost (f n N g gb eb : Nat) (l : List Sc) (w : World) (hf : f < n) (hN : N = n + 108) (hn : n ≤ 401408) (hg1 : g < eb) (hg2 : gb < eb) (hb : Bx w g 4 (bb (mk N (gon l)))) (hc : w.cell? ⟨gb, 0, none⟩ = some (.slice (some ⟨g, 0, none⟩) N N)) (he : ErB eb [] w) :
    Calls Try.prog 42 #[.int .i64 f, .func (.func 43) #[] #[.pointer (some ⟨gb, 0, none⟩), .pointer (some ⟨eb, 0, none⟩)]] w (ErP eb (ers l f) w) := by
  have HB := Lib.hid hb
  have HC := Lib.hid hc
  have HE := Lib.hid he
  have hN1 : n + 108 ≤ N := by omega
  have hN2 : N ≤ n + 108 := by omega
  clear hb hc he hN
  go_enter Try.func42, Try.ntmps42
  go_wp2_with fail
  go_loopw [5] (fun vi wr => ∃ i : Nat, i ≤ 28 ∧ vi = .int .i64 i ∧ ErB eb (ersK l f i) wr ∧ Below eb w wr) (fun vi _ => 28 - (intOf vi).toNat)
  case atStart => exact ⟨0, by omega, rfl, HE.out, Below.refl _ _⟩
  case round =>
    obtain ⟨i, hi, rfl, hee, hbe⟩ := hrel
    by_cases hit : i < 28
    · have hit' : (i : Int) < 28 := by omega
      have hgw : wr.cell? ⟨gb, 0, none⟩ = some (.slice (some ⟨g, 0, none⟩) N N) := (hbe.cell (p := ⟨gb, 0, none⟩) hg2).trans HC.out
      have hbw := HB.out.keepB hbe hg1
      obtain ⟨q, hq⟩ : ∃ q, q = gon l (f + 4 * i) := ⟨_, rfl⟩
      have hcl : wr.cell? ⟨g, f + 4 * i, none⟩ = some (.bool q) := hbw.cell (by rw [bb_get]; rw [hq]; exact mk_get _ (by omega))
      have HS := Lib.hid (ersK_succ l f i)
      rw [← hq] at HS
      have hel := ersK_length l f i
      generalize ersK l f i = E at hee HS hel
      clear hq hbw
      cases q with
      | false =>
        have HS2 : Hid (ersK l f (i + 1) = E) := Lib.hid (by rw [HS.out, if_neg (by decide)])
        have HK := Lib.hid (lost1_no i (f + 4 * i) gb g N eb 0 E wr hgw hcl (by omega) ((f : Int) + 4 * i) (by omega) hee)
        clear hgw hcl HS hee
        go_wp2_with fail
        refine HK.out.mono ?_
        rintro e w1 ⟨rfl, he1, hb1⟩
        go_wp2_with fail
        go_roundw
        case rel => exact ⟨i + 1, by omega, by go_num, by rw [HS2.out]; exact he1, hbe.trans hb1⟩
        case measure => simp [intOf]; omega
      | true =>
        have HS2 : Hid (ersK l f (i + 1) = E ++ [(i : Int)]) := Lib.hid (by rw [HS.out, if_pos rfl])
        have HK := Lib.hid (lost1_yes i (f + 4 * i) gb g N eb 0 E wr hgw hcl (by omega) ((f : Int) + 4 * i) (by omega) hee (by omega))
        clear hgw hcl HS hee
        go_wp2_with fail
        refine HK.out.mono ?_
        rintro e w1 ⟨rfl, he1, hb1⟩
        go_wp2_with fail
        go_roundw
        case rel => exact ⟨i + 1, by omega, by go_num, by rw [HS2.out]; exact he1, hbe.trans hb1⟩
        case measure => simp [intOf]; omega
    · obtain rfl : i = 28 := by omega
      go_wp2_with fail
      go_end0
      exact ⟨rfl, hee, hbe⟩
end Go.Proofs.Ytpncjadhpnapnaa.C9
