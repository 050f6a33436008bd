/- Chapter 9: Lost of the package walked. -/
import Derived.Test.YtpncjadhpnapnaaCa
import Derived.Test.YtpncjadhpnapnaaOwn
import Derived.Test.YtpncjadhpnapnaaRi
import Derived.Test.YtpncjadhpnapnaaChecked
import Derived.Test.YtpncjadhpnapnaaLib
import Derived.IntWalk
import Derived.Outline
import Derived.Test.YtpncjadhpnapnaaAq
import Derived.Deep.Cut
import Derived.Deep.CutRange
/- Chapter 9: Frames, fits, Fits and covered walked. -/
namespace Go.Proofs.Ytpncjadhpnapnaa.C9
open Go.RowKit D13
set_option linter.unusedVariables false

theorem Try.sizeBool9 : (Try.prog.info? 4).map (·.size) = some 1 := by kernel_rfl
theorem Try.infoBool9 : (Try.prog.info? 4).map (fun i => (i.zero, i.size, i.bytes)) = some (some (.bool false), 1, 1) := by kernel_rfl
theorem Try.sizeSc : (Try.prog.info? 36).map (·.size) = some 2 := by kernel_rfl
theorem Try.sizeInt9 : (Try.prog.info? 3).map (·.size) = some 1 := by kernel_rfl
theorem Try.infoInt9 : (Try.prog.info? 3).map (fun i => (i.zero, i.size, i.bytes)) = some (some (.int .i64 0), 1, 8) := by kernel_rfl
/-- what a function ends with that returns one value -/
def RV (v : Value) (w : World) (e : Ending) (w' : World) : Prop := e = .returned v ∧ Below w.heap.size w w'
/-- scratches as cells -/
def scz : Sc := ⟨0, 0⟩
def scc (s : Sc) : List Value := [.int .i64 s.f, .int .i64 s.c]
theorem scc_len (s : Sc) : (scc s).length = 2 := rfl
def scA (l : List Sc) (i : Nat) : Sc := atD scz l i
def Wf (s : Sc) : Prop := (-9223372036854775808 ≤ s.f ∧ s.f ≤ 9223372036854775807) ∧ (-9223372036854775808 ≤ s.c ∧ s.c ≤ 9223372036854775807)
def RdSc (w : World) (v : Value) (l : List Sc) : Prop := RdD scz scc 2 w v l
theorem rd2 {w : World} {b o : Nat} {x : Sc} (h : w.rangeAt b o (scc x)) : w.cell? ⟨b, o, none⟩ = some (.int .i64 x.f) ∧ w.cell? ⟨b, o + 1, none⟩ = some (.int .i64 x.c) := ⟨h 0 _ rfl, h 1 _ rfl⟩

def frN (d : Int) : Int := if d < 1 ∨ 401408 < d then 0 else d + 108
theorem frames_any (d : Int) (w : World) : Calls Try.prog 40 #[.int .i64 d] w fun e w' => e = .returned (.int .i64 (frN d)) ∧ w = w' := by
  unfold frN
  by_cases h1 : d < 1
  · rw [if_pos (.inl h1)]
    go_enter Try.func40, Try.ntmps40
    go_wp2
    go_ret
    exact ⟨rfl, rfl⟩
  by_cases h2 : 401408 < d
  · rw [if_pos (.inr h2)]
    go_enter Try.func40, Try.ntmps40
    go_wp2
    go_ret
    exact ⟨rfl, rfl⟩
  rw [if_neg (by omega)]
  go_enter Try.func40, Try.ntmps40
  go_wp2
  go_ret
  exact ⟨rfl, rfl⟩
theorem rframes_any (d : Int) (w : World) : Calls Try.prog 71 #[.int .i64 d] w fun e w' => e = .returned (.int .i64 (frN d)) ∧ w = w' := by
  unfold frN
  by_cases h1 : d < 1
  · rw [if_pos (.inl h1)]
    go_enter Try.func71, Try.ntmps71
    go_wp2
    go_ret
    exact ⟨rfl, rfl⟩
  by_cases h2 : 401408 < d
  · rw [if_pos (.inr h2)]
    go_enter Try.func71, Try.ntmps71
    go_wp2
    go_ret
    exact ⟨rfl, rfl⟩
  rw [if_neg (by omega)]
  go_enter Try.func71, Try.ntmps71
  go_wp2
  go_ret
  exact ⟨rfl, rfl⟩
theorem fits_any (f c : Int) (n : Nat) (w : World) (hs : Wf ⟨f, c⟩) (hn : n ≤ 1000000000) :
    Calls Try.prog 41 #[.agg #[.int .i64 f, .int .i64 c], .int .i64 n] w (RV (.bool (fitB n ⟨f, c⟩)) w) := by
  obtain ⟨⟨f1, f2⟩, c1, c2⟩ := hs
  have hb := (Below.refl w.heap.size w).alloc (Nat.le_refl _) (.cells #[.int .i64 f, .int .i64 c] 36)
  simp only at f1 f2 c1 c2
  have no : ∀ (h : ¬ (0 ≤ f ∧ 1 ≤ c ∧ c ≤ (n : Int) ∧ f ≤ (n : Int) - c)), fitB n ⟨f, c⟩ = false := fun h => by
    rw [Bool.eq_false_iff]; intro h2; exact h ((fitB_iff n ⟨f, c⟩).1 h2)
  by_cases h1 : 0 ≤ f
  · by_cases h2 : 1 ≤ c
    · by_cases h3 : c ≤ (n : Int)
      · by_cases h4 : f ≤ (n : Int) - c
        · rw [(fitB_iff n ⟨f, c⟩).2 ⟨h1, h2, h3, h4⟩]
          clear no
          go_enter Try.func41, Try.ntmps41
          go_wp2
          go_ret
          exact ⟨rfl, hb⟩
        · rw [no (by omega)]
          clear no
          go_enter Try.func41, Try.ntmps41
          go_wp2
          go_ret
          exact ⟨rfl, hb⟩
      · rw [no (by omega)]
        clear no
        go_enter Try.func41, Try.ntmps41
        go_wp2
        go_ret
        exact ⟨rfl, hb⟩
    · rw [no (by omega)]
      clear no
      go_enter Try.func41, Try.ntmps41
      go_wp2
      go_ret
      exact ⟨rfl, hb⟩
  · rw [no (by omega)]
    clear no
    go_enter Try.func41, Try.ntmps41
    go_wp2
    go_ret
    exact ⟨rfl, hb⟩
end Go.Proofs.Ytpncjadhpnapnaa.C9
/- Chapter 9: Fits and covered of the reference walked. -/
namespace Go.Proofs.Ytpncjadhpnapnaa.C9
open Go.RowKit D13
set_option linter.unusedVariables false

/-- the first 'k' scratches fit -/
def fitK (n : Nat) (l : List Sc) (k : Nat) : Prop := ∀ m, m < k → fitB n (scA l m) = true
theorem scA_get {l : List Sc} {i : Nat} (h : i < l.length) : scA l i = l[i] := by simp [scA, atD, h]
theorem fitA_true {n : Nat} {l : List Sc} (h : fitK n l l.length) : fitA n l = true := by
  unfold fitA
  rw [List.all_eq_true]
  intro s hs
  obtain ⟨i, hi, rfl⟩ := List.getElem_of_mem hs
  rw [← scA_get hi]
  exact h i hi
theorem fitA_false {n : Nat} {l : List Sc} {k : Nat} (hk : k < l.length) (h : fitB n (scA l k) = false) : fitA n l = false := by
  rw [Bool.eq_false_iff]
  intro h2
  unfold fitA at h2
  rw [List.all_eq_true] at h2
  have := h2 _ (List.getElem_mem hk)
  rw [← scA_get hk, h] at this
  exact absurd this (by decide)
theorem fitA_at {n : Nat} {l : List Sc} (h : fitA n l = true) {k : Nat} (hk : k < l.length) : fitB n (scA l k) = true := by
  unfold fitA at h
  rw [List.all_eq_true] at h
  rw [scA_get hk]
  exact h _ (List.getElem_mem hk)
theorem gt_false {a b : Int} (h : ¬ a < b) : decide (a < b) = false := decide_eq_false h
set_option maxRecDepth 100000 in
set_option maxHeartbeats 2000000 in
theorem rfits_any (v : Value) (l : List Sc) (n : Nat) (w : World) (hr : RdSc w v l) (hwf : ∀ i, i < l.length → Wf (scA l i)) (hl : l.length ≤ 9223372036854775807) (hn : n ≤ 1000000000) :
    Calls Try.prog 50 #[.int .i64 n, v] w (RV (.bool (fitA n l)) w) := by
  obtain ⟨a, c, rfl, hac⟩ := RdD.form hr
  obtain ⟨b0, off, hcell⟩ := RdD.at hr
  have HC := Lib.hid hcell; clear hcell
  have HW := Lib.hid hwf; clear hwf
  clear hr
  go_enter Try.func50, Try.ntmps50
  go_wp2_with fail
  go_loopw [5] (fun vi wr => ∃ (i : Nat), i ≤ l.length ∧ vi = .int .i64 i ∧ Hid (fitK n l i) ∧ Below w.heap.size w wr) (fun vi _ => l.length - (intOf vi).toNat)
  case atStart => exact ⟨0, by omega, rfl, Lib.hid fun m hm => by omega, Below.refl _ _⟩
  case round =>
    obtain ⟨i, hi, rfl, HO, hb⟩ := hrel
    by_cases hlt : i < l.length
    · obtain ⟨ha, hrange⟩ := HC.out i hlt
      have HF := Lib.hid (fun h => fitA_false (n := n) hlt h)
      have hw9 := HW.out i hlt
      have HS : Hid (fitB n (scA l i) = true → fitK n l (i + 1)) := Lib.hid fun h m hm => by
        by_cases e : m < i
        · exact HO.out m e
        · have : m = i := by omega
          rw [this]; exact h
      change w.rangeAt b0 (off + i * 2) (scc (scA l i)) at hrange
      generalize scA l i = x at *
      obtain ⟨xf, xc⟩ := x
      have hrg : wr.rangeAt b0 (off + i * 2) (scc ⟨xf, xc⟩) := fun j u hu => (hb.cell (p := ⟨b0, off + i * 2 + j, none⟩) (World.block_lt_of_cell? w _ (hrange j u hu))).trans (hrange j u hu)
      clear hrange
      obtain ⟨hc0, hc1⟩ := rd2 hrg
      clear hrg
      simp only at hc0 hc1
      obtain ⟨⟨f1, f2⟩, c1, c2⟩ := hw9
      simp only at f1 f2 c1 c2
      have hix := fun w' => run_idxS Try.underlying22 Try.sizeSc (cap := c) ha hlt _ rfl w'
      have Ha := Lib.hid ha; clear ha
      have no : ∀ (h : ¬ (0 ≤ xf ∧ 1 ≤ xc ∧ xc ≤ (n : Int) ∧ xf ≤ (n : Int) - xc)), fitB n ⟨xf, xc⟩ = false := fun h => by
        rw [Bool.eq_false_iff]; intro h2; exact h ((fitB_iff n ⟨xf, xc⟩).1 h2)
      have NO := Lib.hid no; clear no
      by_cases g1 : xf < 0
      · have d1 : decide (xf < 0) = true := decide_eq_true g1
        rw [HF.out (NO.out (by omega))]
        go_wp2_with fail
        go_quiet (fail)
        go_wp2_with fail
        go_ret
        exact ⟨rfl, Below.drewN hb _⟩
      have d1 : decide (xf < 0) = false := decide_eq_false g1
      by_cases g2 : xc < 1
      · have d2 : decide (xc < 1) = true := decide_eq_true g2
        rw [HF.out (NO.out (by omega))]
        go_wp2_with fail
        go_quiet (fail)
        go_wp2_with fail
        go_ret
        exact ⟨rfl, Below.drewN hb _⟩
      have d2 : decide (xc < 1) = false := decide_eq_false g2
      by_cases g3 : (n : Int) < xf
      · have d3 : decide ((n : Int) < xf) = true := decide_eq_true g3
        rw [HF.out (NO.out (by omega))]
        go_wp2_with fail
        go_quiet (fail)
        go_wp2_with fail
        go_ret
        exact ⟨rfl, Below.drewN hb _⟩
      have d3 : decide ((n : Int) < xf) = false := decide_eq_false g3
      have hwr : IntKind.i64.wrap ((n : Int) - xf) = (n : Int) - xf := IntWalk.i64_in _ (by omega)
      by_cases g4 : (n : Int) - xf < xc
      · have d4 : decide ((n : Int) - xf < xc) = true := decide_eq_true g4
        rw [HF.out (NO.out (by omega))]
        go_wp2_with fail
        go_quiet (fail)
        go_wp2_with fail
        go_ret
        exact ⟨rfl, Below.drewN hb _⟩
      have d4 : decide ((n : Int) - xf < xc) = false := decide_eq_false g4
      have hs := HS.out ((fitB_iff n ⟨xf, xc⟩).2 ⟨by simp only; omega, by simp only; omega, by simp only; omega, by simp only; omega⟩)
      have HS2 := Lib.hid hs; clear hs
      go_wp2_with fail
      go_quiet (fail)
      clear hwr
      go_wp2_with fail
      go_roundw
      case rel => exact ⟨i + 1, by omega, by go_num, HS2, Below.drewN hb _⟩
      case measure => simp [intOf]; omega
    · obtain rfl : i = l.length := by omega
      have HT : Hid (fitA n l = true) := Lib.hid (fitA_true HO.out)
      go_wp2_with fail
      go_ret
      exact ⟨by rw [HT.out]; rfl, hb⟩
end Go.Proofs.Ytpncjadhpnapnaa.C9
/- Chapter 9: covered of the reference walked. -/
namespace Go.Proofs.Ytpncjadhpnapnaa.C9
open Go.RowKit D13
set_option linter.unusedVariables false

def CovP (n : Nat) (l : List Sc) (w : World) (e : Ending) (w' : World) : Prop := e = .returned (.slice (some ⟨w.heap.size, 0, none⟩) n n) ∧ Bx w' w.heap.size 4 (bb (mk n (gon l))) ∧ Below w.heap.size w w'
theorem take_snocS {l : List Sc} {i : Nat} (h : i < l.length) : l.take (i + 1) = l.take i ++ [scA l i] := by
  rw [List.take_succ_eq_append_getElem h, scA_get h]
theorem gon_nil : gon [] = fun _ => false := by funext g; simp [gon]
set_option maxRecDepth 100000 in
set_option maxHeartbeats 2000000 in
theorem covered_any (v : Value) (l : List Sc) (n : Nat) (w : World) (hr : RdSc w v l) (hwf : ∀ i, i < l.length → Wf (scA l i)) (hl : l.length ≤ 9223372036854775807) (hn : n ≤ 1000000000) (hfit : fitA n l = true) :
    Calls Try.prog 72 #[.int .i64 n, v] w (CovP n l w) := by
  obtain ⟨a, c, rfl, hac⟩ := RdD.form hr
  obtain ⟨b0, off, hcell⟩ := RdD.at hr
  have HC := Lib.hid hcell; clear hcell
  have HF := Lib.hid (fun (k : Nat) (hk : k < l.length) => fitA_at hfit hk); clear hfit
  clear hr hwf
  go_enter Try.func72, Try.ntmps72
  go_wp2_with (refine wpList_mkBool rfl _ _ rfl Try.underlying91 Try.infoBool9 n rfl rfl rfl rfl (by omega) ?_; intro w2 hbx hb2)
  go_loopw [6] (fun vi wr => ∃ (i : Nat), i ≤ l.length ∧ vi = .int .i64 i ∧ Bx wr w.heap.size 4 (bb (mk n (gon (l.take i)))) ∧ Below w.heap.size w wr) (fun vi _ => l.length - (intOf vi).toNat)
  case atStart => exact ⟨0, by omega, rfl, by rw [List.take_zero, gon_nil, mk_false]; exact hbx, hb2⟩
  case round =>
    clear hbx hb2
    obtain ⟨i, hi, rfl, hbx, hb⟩ := hrel
    by_cases hlt : i < l.length
    · obtain ⟨ha, hrange⟩ := HC.out i hlt
      have hfx := (fitB_iff _ _).1 (HF.out i hlt)
      have HT := Lib.hid (take_snocS hlt)
      change w.rangeAt b0 (off + i * 2) (scc (scA l i)) at hrange
      generalize scA l i = x at *
      obtain ⟨xf, xc⟩ := x
      simp only at hfx
      obtain ⟨f1, f2, f3, f4⟩ := hfx
      obtain ⟨cn, rfl⟩ : ∃ cn : Nat, xc = (cn : Int) := ⟨xc.toNat, by omega⟩
      obtain ⟨wo, rfl⟩ : ∃ wo : World, wo = wr := ⟨_, rfl⟩
      have hix := fun w' => run_idxS Try.underlying22 Try.sizeSc (cap := c) ha hlt _ rfl w'
      have Ha := Lib.hid ha; clear ha
      have hlb : b0 < w.heap.size := World.block_lt_of_cell? w _ (hrange 0 _ rfl)
      have HR := Lib.hid hrange; clear hrange
      go_wp2_with fail
      go_loopw [7] (fun vi wr => ∃ (j : Nat), j ≤ cn ∧ vi = .int .i64 j ∧ Bx wr w.heap.size 4 (bb (prt n (l.take i) ⟨xf, cn⟩ j)) ∧ Below w.heap.size w wr) (fun vi _ => cn - (intOf vi).toNat)
      case atStart => exact ⟨0, by omega, rfl, by rw [prt_zero]; exact hbx, hb⟩
      case round =>
        clear hbx hb
        obtain ⟨j, hj, rfl, hbx, hb⟩ := hrel
        have hrg : wr.rangeAt b0 (off + i * 2) (scc ⟨xf, cn⟩) := fun q u hu => (hb.cell (p := ⟨b0, off + i * 2 + q, none⟩) hlb).trans (HR.out q u hu)
        obtain ⟨hc0, hc1⟩ := rd2 hrg
        clear hrg
        simp only at hc0 hc1
        by_cases hjt : j < cn
        · have hjt' : (j : Int) < (cn : Int) := by omega
          obtain ⟨k, hk⟩ : ∃ k : Nat, (k : Int) = xf + j := ⟨(xf + j).toNat, by omega⟩
          have hkn : k < n := by omega
          have hset := hbx.set k (.bool true)
          rw [bb_set, prt_succ n _ _ j k hk] at hset
          have hix2 := fun w' => run_idxS Try.underlying91 Try.sizeBool9 (a := some ⟨w.heap.size, 0, none⟩) (cap := n) rfl hkn (xf + j) hk.symm w'
          simp only [Nat.mul_one, Nat.zero_add] at hix2
          have hcl : wr.cell? ⟨w.heap.size, k, none⟩ = some (.bool (gon (l.take i) k || covX ⟨xf, cn⟩ j k)) := hbx.cell (by rw [bb_get]; exact mk_get _ hkn)
          have hfr := hbx.free k
          clear hk
          go_wp2_with fail
          go_roundw
          case rel => exact ⟨j + 1, by omega, by go_num, hset, hb.setCell (Nat.le_refl _) _⟩
          case measure => simp [intOf]; omega
        · obtain rfl : j = cn := by omega
          go_wp2_with fail
          go_roundw
          case rel => exact ⟨i + 1, by omega, by go_num, by rw [HT.out, ← prt_all n (l.take i) ⟨xf, j⟩ j rfl]; exact hbx, hb⟩
          case measure => simp [intOf]; omega
    · obtain rfl : i = l.length := by omega
      rw [List.take_length] at hbx
      go_wp2_with fail
      go_ret
      exact ⟨rfl, hbx, hb⟩
end Go.Proofs.Ytpncjadhpnapnaa.C9
/- Chapter 9: Lost of the reference walked. -/
namespace Go.Proofs.Ytpncjadhpnapnaa.C9
open Go.RowKit D13 Ap
set_option linter.unusedVariables false

/-- what Lost returns: the offsets and the code -/
def lostR (d : Int) (l : List Sc) : List Int × Int := if d < 1 ∨ 401408 < d then ([], 1) else if fitA (d.toNat + 108) l = false then ([], 1) else (lostN l d.toNat, 0)
def LostP (R : List Int × Int) (w : World) (e : Ending) (w' : World) : Prop := ∃ v, e = .returned (.tuple #[v, .int .i64 R.2]) ∧ w'.ownsRow w.heap.size 3 1 v R.1.length (is R.1) ∧ Below w.heap.size w w'
theorem LostP.none (c : Int) {w : World} {e : Ending} {w' : World} (he : e = .returned (.tuple #[.slice none 0 0, .int .i64 c])) (hb : Below w.heap.size w w') : LostP ([], c) w e w' := ⟨_, he, ownsRow_nil _ _ _, hb⟩
theorem frN_ok {n : Nat} (h1 : 1 ≤ n) (h2 : n ≤ 401408) : frN n = ((n + 108 : Nat) : Int) := by unfold frN; rw [if_neg (by omega)]; omega
theorem frN_bad {d : Int} (h : d < 1 ∨ 401408 < d) : frN d = 0 := by unfold frN; rw [if_pos h]
theorem ers_get (l : List Sc) (f k : Nat) (hk : k < (ers l f).length) : 0 ≤ ixI (ers l f) k ∧ ixI (ers l f) k < 28 := ers_bd l f _ (ixI_mem hk)
theorem ixI_some {E : List Int} {k : Nat} (h : k < E.length) : E[k]? = some (ixI E k) := by rw [ixI_get h]; exact List.getElem?_eq_getElem h

set_option maxRecDepth 100000 in
set_option maxHeartbeats 2000000 in
theorem rlost_range (d : Int) (v : Value) (l : List Sc) (w : World) (hr : RdSc w v l) (hd : d < 1 ∨ 401408 < d) :
    Calls Try.prog 51 #[.int .i64 d, v] w (LostP ([], 1) w) := by
  obtain ⟨a, c, rfl, hac⟩ := RdD.form hr
  have HF := Lib.hid (fun W => (rframes_any d W).mono (fun e w' (h : e = _ ∧ W = w') => (by rw [frN_bad hd] at h; exact h : e = .returned (.int .i64 0) ∧ W = w')))
  go_enter Try.func51, Try.ntmps51
  go_wp2_with (refine (HF.out _).mono ?_; rintro e w' ⟨rfl, rfl⟩)
  go_ret2
  exact LostP.none 1 rfl (Below.refl _ _)
set_option maxRecDepth 100000 in
set_option maxHeartbeats 2000000 in
theorem rlost_fit (n : Nat) (v : Value) (l : List Sc) (w : World) (h1 : 1 ≤ n) (h2 : n ≤ 401408) (hr : RdSc w v l) (hwf : ∀ i, i < l.length → Wf (scA l i)) (hl : l.length ≤ 9223372036854775807) (hfit : fitA (n + 108) l = false) :
    Calls Try.prog 51 #[.int .i64 n, v] w (LostP ([], 1) w) := by
  have HF := Lib.hid (fun W => (rframes_any n W).mono (fun e w' (h : e = _ ∧ W = w') => (by rw [frN_ok h1 h2] at h; exact h : e = .returned (.int .i64 ((n + 108 : Nat) : Int)) ∧ W = w')))
  have HT := Lib.hid ((rfits_any v l (n + 108) w hr hwf hl (by omega)).mono (fun e w' (h : e = _ ∧ Below w.heap.size w w') => (by rw [hfit] at h; exact h : e = .returned (.bool false) ∧ Below w.heap.size w w')))
  obtain ⟨a, c, rfl, hac⟩ := RdD.form hr
  obtain ⟨N, hN⟩ : ∃ N, N = n + 108 := ⟨_, rfl⟩
  rw [← hN] at HF HT
  have hz : ((N : Int) == 0) = false := by rw [beq_eq_false_iff_ne]; omega
  clear hr hwf hfit hN
  go_enter Try.func51, Try.ntmps51
  go_wp2_with fail
  refine (HF.out _).mono ?_
  rintro e w' ⟨rfl, rfl⟩
  go_wp2_with fail
  refine (HF.out _).mono ?_
  rintro e w' ⟨rfl, rfl⟩
  go_wp2_with fail
  refine HT.out.mono ?_
  rintro e w' ⟨rfl, hb⟩
  go_wp2_with fail
  go_ret2
  exact LostP.none 1 rfl hb
set_option maxRecDepth 100000 in
set_option maxHeartbeats 8000000 in
theorem rlost_ok (n : Nat) (v : Value) (l : List Sc) (w : World) (h1 : 1 ≤ n) (h2 : n ≤ 401408) (hr : RdSc w v l) (hwf : ∀ i, i < l.length → Wf (scA l i)) (hl : l.length ≤ 9223372036854775807) (hfit : fitA (n + 108) l = true) :
    Calls Try.prog 51 #[.int .i64 n, v] w (LostP (lostN l n, 0) w) := by
  have HF := Lib.hid (fun W => (rframes_any n W).mono (fun e w' (h : e = _ ∧ W = w') => (by rw [frN_ok h1 h2] at h; exact h : e = .returned (.int .i64 ((n + 108 : Nat) : Int)) ∧ W = w')))
  have HT := Lib.hid ((rfits_any v l (n + 108) w hr hwf hl (by omega)).mono (fun e w' (h : e = _ ∧ Below w.heap.size w w') => (by rw [hfit] at h; exact h : e = .returned (.bool true) ∧ Below w.heap.size w w')))
  have HV := Lib.hid (fun W hW => covered_any v l (n + 108) W hW hwf hl (by omega) hfit)
  have HR := Lib.hid hr
  obtain ⟨a, c, rfl, hac⟩ := RdD.form hr
  obtain ⟨N, hN⟩ : ∃ N, N = n + 108 := ⟨_, rfl⟩
  rw [← hN] at HF HT HV
  have hz : ((N : Int) == 0) = false := by rw [beq_eq_false_iff_ne]; omega
  have hN1 : n + 108 ≤ N := by omega
  have hN2 : N ≤ n + 108 := by omega
  clear hr hwf hfit hN
  go_enter Try.func51, Try.ntmps51
  go_wp2_with fail
  refine (HF.out _).mono ?_
  rintro e w' ⟨rfl, rfl⟩
  go_wp2_with fail
  refine (HF.out _).mono ?_
  rintro e w' ⟨rfl, rfl⟩
  go_wp2_with fail
  refine HT.out.mono ?_
  rintro e w1 ⟨rfl, hb1⟩
  go_wp2_with fail
  refine (HF.out _).mono ?_
  rintro e w' ⟨rfl, rfl⟩
  have hr1 := RdD.keep HR.out hb1
  go_wp2_with fail
  refine (HV.out _ hr1).mono ?_
  rintro e w2 ⟨rfl, hbx, hb2⟩
  clear hz hr1
  have hbw := hb1.trans (hb2.mono hb1.size)
  have hws := hb1.size
  obtain ⟨g, hg⟩ : ∃ g, g = w1.heap.size := ⟨_, rfl⟩
  rw [← hg] at hbx hws
  simp only [← hg]
  have hg2 := hbx.lt
  clear hb2 hb1 hg
  go_wp2_with fail
  have ho0 : (w2.alloc (.cells #[] 3)).ownsRow (g + 1) 3 1 (.slice (some ⟨w2.heap.size, 0, none⟩) 0 0) 0 (is []) := World.ownsRow_lit w2 #[] 0 hg2 (by simp) (by simp)
  have hb0 := hbw.alloc hbw.size (.cells #[] 3)
  have hbx0 := hbx.alloc (.cells #[] 3)
  clear hbx hbw
  go_loopw [7, 8] (fun vo vf wr => ∃ f : Nat, f ≤ n ∧ vf = .int .i64 f ∧ wr.ownsRow (g + 1) 3 1 vo (lostN l f).length (is (lostN l f)) ∧ Bx wr g 4 (bb (mk N (gon l))) ∧ Below w.heap.size w wr) (fun _ vf _ => n - (intOf vf).toNat)
  case atStart => exact ⟨0, by omega, rfl, ho0, hbx0, hb0⟩
  case round =>
    clear ho0 hbx0 hb0
    obtain ⟨f, hf, rfl, ho, hbx, hb⟩ := hrel
    obtain ⟨wo, rfl⟩ : ∃ wo : World, wo = wr := ⟨_, rfl⟩
    have hbs := hb.size
    have hgl := hbx.lt
    have hLl := lostN_length l f
    by_cases hlt : f < n
    · have hE : Hid (lostN l (f + 1) = lostN l f ++ ls (ers l f) f) := Lib.hid rfl
      obtain ⟨L, hL⟩ : ∃ L, L = lostN l f := ⟨_, rfl⟩
      rw [← hL] at ho hE hLl
      clear hL
      obtain ⟨ao, co, rfl⟩ := ownD_form ho
      have HO := Lib.hid ho
      have hoe : (wo.alloc (.cells #[] 3)).ownsRow wo.heap.size 3 1 (.slice (some ⟨wo.heap.size, 0, none⟩) 0 0) 0 (is []) := World.ownsRow_lit wo #[] 0 (Nat.le_refl _) (by simp) (by simp)
      have hbe : Below wo.heap.size wo (wo.alloc (.cells #[] 3)) := (Below.refl _ _).alloc (Nat.le_refl _) _
      have hlt' : (f : Int) < (n : Int) := by omega
      clear ho
      go_wp2_with fail
      go_loopw [9, 10] (fun ve vi wr => ∃ i : Nat, i ≤ 28 ∧ vi = .int .i64 i ∧ wr.ownsRow wo.heap.size 3 1 ve (ersK l f i).length (is (ersK l f i)) ∧ Below wo.heap.size wo wr) (fun _ vi _ => 28 - (intOf vi).toNat)
      case atStart => exact ⟨0, by omega, rfl, hoe, hbe⟩
      case round =>
        clear hoe hbe
        obtain ⟨i, hi, rfl, hoe, hbe⟩ := hrel
        have hbxr := hbx.call hbe
        have hes := hbe.size
        by_cases hit : i < 28
        · have hit' : (i : Int) < 28 := by omega
          have hkN : f + 4 * i < N := by omega
          have hix := fun w' => run_idxS Try.underlying91 Try.sizeBool9 (a := some ⟨g, 0, none⟩) (cap := N) rfl hkN ((f : Int) + 4 * (i : Int)) (by omega) w'
          simp only [Nat.mul_one, Nat.zero_add] at hix
          obtain ⟨q, hq⟩ : ∃ q, q = gon l (f + 4 * i) := ⟨_, rfl⟩
          have hcl : wr.cell? ⟨g, f + 4 * i, none⟩ = some (.bool q) := hbxr.cell (by rw [bb_get]; rw [hq]; exact mk_get _ hkN)
          have HS := Lib.hid (ersK_succ l f i)
          rw [← hq] at HS
          have hel := ersK_length l f i
          generalize ersK l f i = E at hoe HS hel
          clear hq hbxr
          cases q with
          | false =>
            have HS2 : Hid (ersK l f (i + 1) = E) := Lib.hid (by rw [HS.out, if_neg (by decide)])
            go_wp2_with fail
            go_roundw
            case rel => exact ⟨i + 1, by omega, by go_num, by rw [HS2.out]; exact hoe, hbe⟩
            case measure => simp [intOf]; omega
          | true =>
            have HS2 : Hid (ersK l f (i + 1) = E ++ [(i : Int)]) := Lib.hid (by rw [HS.out, if_pos rfl])
            have hoa := ownD_keep hoe ((Below.refl wr.heap.size wr).alloc (Nat.le_refl _) (.cells #[.int .i64 i] 3))
            have hba := hbe.alloc hes (.cells #[.int .i64 i] 3)
            have hbas := hba.size
            clear hoe hbe
            go_wp2_with (at_builtin; refine wpList_ap1 rfl _ _ rfl Try.underlying30 Try.infoInt9 rfl hoa rfl (g := wr.heap.size) (y := .int .i64 i) rfl (by simp) rfl (by unfold maxLen; omega) (by omega) hbas ?_; intro v7 w7 hown7 hgr7 hno7)
            have hb7 := hba.grown hgr7 hbas (ownD_block hoa)
            clear hba hoa hgr7
            go_roundw
            case rel => exact ⟨i + 1, by omega, by go_num, by rw [HS2.out, is_append, List.length_append]; exact hown7, hb7⟩
            case measure => simp [intOf]; omega
        · obtain rfl : i = 28 := by omega
          have HB := Lib.hid (fun k (hk : k < (ers l f).length) => ers_get l f k hk)
          have hel : (ersK l f 28).length ≤ 28 := ersK_length l f 28
          change wr.ownsRow wo.heap.size 3 1 _ (ers l f).length (is (ers l f)) at hoe
          change (ers l f).length ≤ 28 at hel
          generalize ers l f = E at hoe hel HB hE
          obtain ⟨ae, ce, rfl⟩ := ownD_form hoe
          have hbb := hb.trans (hbe.mono hbs)
          have hoo := ownD_keep HO.out hbe
          by_cases h4 : E.length ≤ 4
          · have HE2 : Hid (lostN l (f + 1) = L) := Lib.hid (by rw [hE.out]; unfold ls lsK; rw [if_pos h4, List.append_nil])
            have h4' : (E.length : Int) ≤ 4 := by omega
            go_wp2_with fail
            go_roundw
            case rel => exact ⟨f + 1, by omega, by go_num, by rw [HE2.out]; exact hoo, hbxr, hbb⟩
            case measure => simp [intOf]; omega
          · have h4' : ¬ (E.length : Int) ≤ 4 := by omega
            have hoff : Off (.slice ao L.length co) (fun k => k ∈ ae.map Addr.block) := by
              refine Off.own HO.out fun k _ hk hk2 => ?_
              obtain ⟨ge, ce', he, hge, _⟩ := ownD_addr hoe (by omega)
              simp only [Value.slice.injEq] at he
              rw [he.1] at hk2
              simp at hk2
              omega
            obtain ⟨ge, ce', he, hge, hge2⟩ := ownD_addr hoe (by omega)
            simp only [Value.slice.injEq] at he
            obtain ⟨rfl, _, _⟩ := he
            replace hoff : Off (.slice ao L.length co) (fun k => k = ge) := fun k hk h => hoff k hk (by simp [h])
            have HE := Lib.hid hoe
            clear hoe
            go_wp2_with fail
            go_loopw [7, 11] (fun vo vk wr => ∃ k : Nat, k ≤ E.length ∧ vk = .int .i64 k ∧ wr.ownsRow (g + 1) 3 1 vo (L ++ lsK E f k).length (is (L ++ lsK E f k)) ∧ Off vo (fun k => k = ge) ∧ wr.ownsRow wo.heap.size 3 1 (.slice (some ⟨ge, 0, none⟩) E.length ce) E.length (is E) ∧ Bx wr g 4 (bb (mk N (gon l))) ∧ Below w.heap.size w wr) (fun _ vk _ => E.length - (intOf vk).toNat)
            case atStart => exact ⟨0, by omega, rfl, by rw [lsK_zero, List.append_nil]; exact hoo, hoff, HE.out, hbxr, hbb⟩
            case round =>
              clear hoo hbxr hbb hoff hbe hb hbx hes hbs HE
              obtain ⟨k, hk, rfl, hoo, hoff, hoe, hbxr, hbb⟩ := hrel
              have hwsz := hbb.size
              have hgr := hbxr.lt
              have hger := (hoe.lt ge rfl).2
              by_cases hkt : k < E.length
              · have hkt' : (k : Int) < (E.length : Int) := by omega
                obtain ⟨hx1, hx2⟩ := HB.out k hkt
                have HS := Lib.hid (lsK_succ E f k (ixI E k) (ixI_some hkt))
                have hcl : wr.cell? ⟨ge, k, none⟩ = some (.int .i64 (ixI E k)) := by rw [hoe.cellAt k (by omega), is_get hkt]
                have hix := fun w' => run_idxS Try.underlying30 Try.sizeInt9 (a := some ⟨ge, 0, none⟩) (cap := ce) rfl hkt _ rfl w'
                simp only [Nat.mul_one, Nat.zero_add] at hix
                generalize ixI E k = x at *
                have hll := lsK_length E f k hel
                have HLS : Hid (lsK E f k = lsK E f k) := Lib.hid rfl
                obtain ⟨M, hM⟩ : ∃ M, M = L ++ lsK E f k := ⟨_, rfl⟩
                have hMl : M.length ≤ 28 * f + 28 := by rw [hM, List.length_append]; omega
                rw [← hM] at hoo
                by_cases hx : x < 24
                · have HS2 : Hid (L ++ lsK E f (k + 1) = M ++ [24 * (f : Int) + x]) := Lib.hid (by rw [HS.out, if_pos ⟨by omega, hx⟩, hM, List.append_assoc])
                  clear hM HS HLS
                  have hoa := ownD_keep hoo ((Below.refl wr.heap.size wr).alloc (Nat.le_refl _) (.cells #[.int .i64 (24 * (f : Int) + x)] 3))
                  have hea := ownD_keep hoe ((Below.refl wr.heap.size wr).alloc (Nat.le_refl _) (.cells #[.int .i64 (24 * (f : Int) + x)] 3))
                  have hxa := hbxr.alloc (.cells #[.int .i64 (24 * (f : Int) + x)] 3)
                  have hba := hbb.alloc hwsz (.cells #[.int .i64 (24 * (f : Int) + x)] 3)
                  have hbas : g + 1 ≤ (wr.alloc (.cells #[.int .i64 (24 * (f : Int) + x)] 3)).heap.size := by simp; omega
                  clear hoo hoe hbxr hbb
                  go_wp2_with (at_builtin; refine wpList_ap1 rfl _ _ rfl Try.underlying30 Try.infoInt9 rfl hoa rfl (g := wr.heap.size) (y := .int .i64 (24 * (f : Int) + x)) rfl (by simp) rfl (by unfold maxLen; omega) (by omega) hbas ?_; intro v7 w7 hown7 hgr7 hno7)
                  have hb7 := hba.grown hgr7 hba.size (fun q hq => by have := ownD_block hoa q hq; omega)
                  have he7 := own_off hea hgr7 (fun q hq h => hoff q h (by simpa [Value.ownBlock] using hq.symm))
                  have hx7 := bx_off hxa hgr7 (fun h => by have := ownD_block hoa g h; omega)
                  have hf7 := hoff.step hno7 (fun q hq h => by subst h; simp at hq; omega)
                  clear hba hoa hea hxa hgr7 hno7
                  go_roundw
                  case rel => exact ⟨k + 1, by omega, by go_num, by rw [HS2.out, is_append, List.length_append]; exact hown7, hf7, he7, hx7, hb7⟩
                  case measure => simp [intOf]; omega
                · have HS2 : Hid (L ++ lsK E f (k + 1) = M) := Lib.hid (by rw [HS.out, if_neg (fun h => hx h.2), hM])
                  clear hM HS HLS
                  go_wp2_with fail
                  go_roundw
                  case rel => exact ⟨k + 1, by omega, by go_num, by rw [HS2.out]; exact hoo, hoff, hoe, hbxr, hbb⟩
                  case measure => simp [intOf]; omega
              · obtain rfl : k = E.length := by omega
                go_wp2_with fail
                go_roundw
                case rel => exact ⟨f + 1, by omega, by go_num, by rw [hE.out]; exact hoo, hbxr, hbb⟩
                case measure => simp [intOf]; omega
    · obtain rfl : f = n := by omega
      go_wp2_with fail
      go_ret2
      exact ⟨_, rfl, own_mono ho (by omega), hb⟩
end Go.Proofs.Ytpncjadhpnapnaa.C9
/- Chapter 9: collect of the package with the closure of Lost walked. -/
namespace Go.Proofs.Ytpncjadhpnapnaa.C9
open Go.RowKit D13 Ap
set_option linter.unusedVariables false

/-- the box 'eb' holds a slice that owns the ints 'E' -/
def ErB (eb : Nat) (E : List Int) (W : World) : Prop := ∃ ve, Bx W eb 30 [ve] ∧ W.ownsRow (eb + 1) 3 1 ve E.length (is E)
def ErP (eb : Nat) (E : List Int) (w : World) (e : Ending) (w' : World) : Prop := e = .returned (.tuple #[]) ∧ ErB eb E w' ∧ Below eb w w'
set_option maxRecDepth 100000 in
set_option maxHeartbeats 1000000 in
theorem lost1_no (i : Int) (fr gb g N eb k : Nat) (E : List Int) (w : World) (hg : w.cell? ⟨gb, 0, none⟩ = some (.slice (some ⟨g, 0, none⟩) N N)) (hc : w.cell? ⟨g, fr, none⟩ = some (.bool false)) (hfr : fr < N) (x : Int) (hx : x = fr) (he : ErB eb E w) :
    Calls Try.prog 43 #[.int .i64 i, .int .i64 x, .pointer (some ⟨gb, 0, none⟩), .pointer (some ⟨eb, 0, none⟩)] w (ErP eb E w) := by
  have hix := fun w' => run_idxS Try.underlying91 Try.sizeBool9 (a := some ⟨g, 0, none⟩) (cap := N) rfl hfr x hx w'
  simp only [Nat.mul_one, Nat.zero_add] at hix
  have Hx := Lib.hid hx; clear hx
  have HE := Lib.hid he; clear he
  go_enter Try.func43, Try.ntmps43
  go_wp2_with fail
  go_end0
  exact ⟨rfl, HE.out, Below.refl _ _⟩
set_option maxRecDepth 100000 in
set_option maxHeartbeats 1000000 in
theorem lost1_yes (i : Int) (fr gb g N eb k : Nat) (E : List Int) (w : World) (hg : w.cell? ⟨gb, 0, none⟩ = some (.slice (some ⟨g, 0, none⟩) N N)) (hc : w.cell? ⟨g, fr, none⟩ = some (.bool true)) (hfr : fr < N) (x : Int) (hx : x = fr) (he : ErB eb E w) (hE : E.length ≤ 1000) :
    Calls Try.prog 43 #[.int .i64 i, .int .i64 x, .pointer (some ⟨gb, 0, none⟩), .pointer (some ⟨eb, 0, none⟩)] w (ErP eb (E ++ [i]) w) := by
  have hix := fun w' => run_idxS Try.underlying91 Try.sizeBool9 (a := some ⟨g, 0, none⟩) (cap := N) rfl hfr x hx w'
  simp only [Nat.mul_one, Nat.zero_add] at hix
  have Hx := Lib.hid hx; clear hx
  obtain ⟨ve, hbx, hoe⟩ := he
  have hc0 := hbx.cell (i := 0) rfl
  have hlt := hbx.lt
  have hoa := ownD_keep hoe ((Below.refl w.heap.size w).alloc (Nat.le_refl _) (.cells #[.int .i64 i] 3))
  have hba := (Below.refl eb w).alloc (Nat.le_of_lt hlt) (.cells #[.int .i64 i] 3)
  have hbxa := hbx.alloc (.cells #[.int .i64 i] 3)
  have hbas : eb + 1 ≤ (w.alloc (.cells #[.int .i64 i] 3)).heap.size := by simp; omega
  have HBX := Lib.hid hbxa
  clear hbx hoe hbxa
  go_enter Try.func43, Try.ntmps43
  go_wp2_with (at_builtin; refine wpList_ap1 rfl _ _ rfl Try.underlying30 Try.infoInt9 rfl hoa rfl (g := w.heap.size) (y := .int .i64 i) rfl (by simp) rfl (by unfold maxLen; omega) (by omega) hbas ?_; intro v7 w7 hown7 hgr7 hno7; obtain ⟨a7, c7, rfl⟩ := ownD_form hown7; have hbx7 := bx_off HBX.out hgr7 (fun h => by have := ownD_block hoa eb h; omega); have hb7 := hba.grown hgr7 (by omega) (fun q hq => by have := ownD_block hoa q hq; omega); have hc7 := hbx7.cell (i := 0) rfl; have hf7 := hbx7.free 0; clear hoa hba hbas hgr7 hno7 hc0)
  go_end0
  exact ⟨rfl, ⟨_, hbx7.set 0 _, by rw [is_append, List.length_append]; exact ownD_far hown7 (by simp only; omega) _⟩, hb7.setCell (Nat.le_refl _) _⟩
set_option maxRecDepth 100000 in
set_option maxHeartbeats 1000000 in
theorem collect_lost (f n N g gb eb : Nat) (l : List Sc) (w : World) (hf : f < n) (hN : N = n + 108) (hn : n ≤ 401408) (hg1 : g < eb) (hg2 : gb < eb) (hb : Bx w g 4 (bb (mk N (gon l)))) (hc : w.cell? ⟨gb, 0, none⟩ = some (.slice (some ⟨g, 0, none⟩) N N)) (he : ErB eb [] w) :
    Calls Try.prog 42 #[.int .i64 f, .func (.func 43) #[] #[.pointer (some ⟨gb, 0, none⟩), .pointer (some ⟨eb, 0, none⟩)]] w (ErP eb (ers l f) w) := by
  have HB := Lib.hid hb
  have HC := Lib.hid hc
  have HE := Lib.hid he
  have hN1 : n + 108 ≤ N := by omega
  have hN2 : N ≤ n + 108 := by omega
  clear hb hc he hN
  go_enter Try.func42, Try.ntmps42
  go_wp2_with fail
  go_loopw [5] (fun vi wr => ∃ i : Nat, i ≤ 28 ∧ vi = .int .i64 i ∧ ErB eb (ersK l f i) wr ∧ Below eb w wr) (fun vi _ => 28 - (intOf vi).toNat)
  case atStart => exact ⟨0, by omega, rfl, HE.out, Below.refl _ _⟩
  case round =>
    obtain ⟨i, hi, rfl, hee, hbe⟩ := hrel
    by_cases hit : i < 28
    · have hit' : (i : Int) < 28 := by omega
      have hgw : wr.cell? ⟨gb, 0, none⟩ = some (.slice (some ⟨g, 0, none⟩) N N) := (hbe.cell (p := ⟨gb, 0, none⟩) hg2).trans HC.out
      have hbw := HB.out.keepB hbe hg1
      obtain ⟨q, hq⟩ : ∃ q, q = gon l (f + 4 * i) := ⟨_, rfl⟩
      have hcl : wr.cell? ⟨g, f + 4 * i, none⟩ = some (.bool q) := hbw.cell (by rw [bb_get]; rw [hq]; exact mk_get _ (by omega))
      have HS := Lib.hid (ersK_succ l f i)
      rw [← hq] at HS
      have hel := ersK_length l f i
      generalize ersK l f i = E at hee HS hel
      clear hq hbw
      cases q with
      | false =>
        have HS2 : Hid (ersK l f (i + 1) = E) := Lib.hid (by rw [HS.out, if_neg (by decide)])
        have HK := Lib.hid (lost1_no i (f + 4 * i) gb g N eb 0 E wr hgw hcl (by omega) ((f : Int) + 4 * i) (by omega) hee)
        clear hgw hcl HS hee
        go_wp2_with fail
        refine HK.out.mono ?_
        rintro e w1 ⟨rfl, he1, hb1⟩
        go_wp2_with fail
        go_roundw
        case rel => exact ⟨i + 1, by omega, by go_num, by rw [HS2.out]; exact he1, hbe.trans hb1⟩
        case measure => simp [intOf]; omega
      | true =>
        have HS2 : Hid (ersK l f (i + 1) = E ++ [(i : Int)]) := Lib.hid (by rw [HS.out, if_pos rfl])
        have HK := Lib.hid (lost1_yes i (f + 4 * i) gb g N eb 0 E wr hgw hcl (by omega) ((f : Int) + 4 * i) (by omega) hee (by omega))
        clear hgw hcl HS hee
        go_wp2_with fail
        refine HK.out.mono ?_
        rintro e w1 ⟨rfl, he1, hb1⟩
        go_wp2_with fail
        go_roundw
        case rel => exact ⟨i + 1, by omega, by go_num, by rw [HS2.out]; exact he1, hbe.trans hb1⟩
        case measure => simp [intOf]; omega
    · obtain rfl : i = 28 := by omega
      go_wp2_with fail
      go_end0
      exact ⟨rfl, hee, hbe⟩
end Go.Proofs.Ytpncjadhpnapnaa.C9
namespace Go.Proofs.Ytpncjadhpnapnaa.C9
open Go.RowKit D13 Ap
set_option linter.unusedVariables false

/-- what Lost keeps in memory: the marks of the frames, their box, the marks of the data frames -/
structure LoW (w0 : World) (N gg gb gt : Nat) (G T : List Bool) (W : World) : Prop where
  g : Bx W gg 4 (bb G)
  b : Bx W gb 91 [.slice (some ⟨gg, 0, none⟩) N N]
  t : Bx W gt 4 (bb T)
  le : Below w0.heap.size w0 W
  g1 : w0.heap.size ≤ gg
  g2 : gg < gb
  g3 : gb < gt
section
variable {w0 W W' : World} {N gg gb gt : Nat} {G T : List Bool}
theorem LoW.keep (h : LoW w0 N gg gb gt G T W) (hb : Below (gt + 1) W W') : LoW w0 N gg gb gt G T W' :=
  have h1 := h.g1
  have h2 := h.g2
  have h3 := h.g3
  ⟨h.g.keepB hb (by omega), h.b.keepB hb (by omega), h.t.keepB hb (by omega), h.le.trans (hb.mono (by omega)), h1, h2, h3⟩
theorem LoW.size (h : LoW w0 N gg gb gt G T W) : gt + 1 ≤ W.heap.size := h.t.lt
theorem LoW.call (h : LoW w0 N gg gb gt G T W) (hb : Below W.heap.size W W') : LoW w0 N gg gb gt G T W' := h.keep (hb.mono h.size)
theorem LoW.putG (h : LoW w0 N gg gb gt G T W) (k : Nat) : LoW w0 N gg gb gt (G.set k true) T (W.setCell ⟨gg, k, none⟩ (.bool true)) :=
  have h1 := h.g1
  have h2 := h.g2
  have h3 := h.g3
  ⟨by rw [← bb_set]; exact h.g.set k _, h.b.far (by simp only; omega) _, h.t.far (by simp only; omega) _, h.le.setCell h1 _, h1, h2, h3⟩
theorem LoW.putT (h : LoW w0 N gg gb gt G T W) (k : Nat) : LoW w0 N gg gb gt G (T.set k true) (W.setCell ⟨gt, k, none⟩ (.bool true)) :=
  have h1 := h.g1
  have h2 := h.g2
  have h3 := h.g3
  ⟨h.g.far (by simp only; omega) _, h.b.far (by simp only; omega) _, by rw [← bb_set]; exact h.t.set k _, h.le.setCell (by simp only; omega) _, h1, h2, h3⟩
end
theorem tou_nil : tou [] = fun _ => false := by funext g; simp [tou]
set_option maxRecDepth 100000 in
set_option maxHeartbeats 2000000 in
theorem plost_range (d : Int) (v : Value) (l : List Sc) (w : World) (hr : RdSc w v l) (hd : d < 1 ∨ 401408 < d) :
    Calls Try.prog 12 #[.int .i64 d, v] w (LostP ([], 1) w) := by
  obtain ⟨a, c, rfl, hac⟩ := RdD.form hr
  have HF := Lib.hid (fun W => (frames_any d W).mono (fun e w' (h : e = _ ∧ W = w') => (by rw [frN_bad hd] at h; exact h : e = .returned (.int .i64 0) ∧ W = w')))
  go_enter Try.func12, Try.ntmps12
  go_wp2_with (refine (HF.out _).mono ?_; rintro e w' ⟨rfl, rfl⟩)
  go_ret2
  exact LostP.none 1 rfl (Below.refl _ _)
set_option maxRecDepth 100000 in
set_option maxHeartbeats 8000000 in
theorem plost_ok (n : Nat) (v : Value) (l : List Sc) (w : World) (h1 : 1 ≤ n) (h2 : n ≤ 401408) (hr : RdSc w v l) (hwf : ∀ i, i < l.length → Wf (scA l i)) (hl : l.length ≤ 9223372036854775807) :
    Calls Try.prog 12 #[.int .i64 n, v] w (LostP (if fitA (n + 108) l = false then ([], 1) else (lostN l n, 0)) w) := by
  have HF := Lib.hid (fun W => (frames_any n W).mono (fun e w' (h : e = _ ∧ W = w') => (by rw [frN_ok h1 h2] at h; exact h : e = .returned (.int .i64 ((n + 108 : Nat) : Int)) ∧ W = w')))
  obtain ⟨a, c, rfl, hac⟩ := RdD.form hr
  obtain ⟨b0, off, hcell⟩ := RdD.at hr
  have HC := Lib.hid hcell; clear hcell
  have HW := Lib.hid hwf; clear hwf
  have HNO : Hid (∀ k, k < l.length → fitB (n + 108) (scA l k) = false → (if fitA (n + 108) l = false then (([] : List Int), (1 : Int)) else (lostN l n, 0)) = ([], 1)) := Lib.hid fun k hk h => by rw [fitA_false hk h, if_pos rfl]
  have HYES : Hid (fitK (n + 108) l l.length → (if fitA (n + 108) l = false then (([] : List Int), (1 : Int)) else (lostN l n, 0)) = (lostN l n, 0)) := Lib.hid fun h => by rw [fitA_true h, if_neg (by decide)]
  generalize (if fitA (n + 108) l = false then (([] : List Int), (1 : Int)) else (lostN l n, 0)) = RES at *
  obtain ⟨N, hN⟩ : ∃ N, N = n + 108 := ⟨_, rfl⟩
  rw [← hN] at HF HNO HYES
  have hz : ((N : Int) == 0) = false := by rw [beq_eq_false_iff_ne]; omega
  have hN1 : n + 108 ≤ N := by omega
  have hN2 : N ≤ n + 108 := by omega
  have HN := Lib.hid hN
  clear hr hN
  go_enter Try.func12, Try.ntmps12
  go_wp2_with fail
  refine (HF.out _).mono ?_
  rintro e w' ⟨rfl, rfl⟩
  go_wp2_with (first | (refine wpList_mkBool rfl _ _ rfl Try.underlying91 Try.infoBool9 N rfl rfl rfl rfl (by omega) ?_; intro w2 hbx2 hb2; have hsz2 := hbx2.lt) | (refine wpList_mkBool rfl _ _ rfl Try.underlying91 Try.infoBool9 n rfl rfl rfl rfl (by omega) ?_; intro w3 hbx3 hb3))
  obtain ⟨gt, hgt⟩ : ∃ gt, gt = w2.heap.size + 1 := ⟨_, rfl⟩
  obtain ⟨gb, hgb⟩ : ∃ gb, gb = w2.heap.size := ⟨_, rfl⟩
  obtain ⟨gg, hgg⟩ : ∃ gg, gg = w.heap.size := ⟨_, rfl⟩
  have hlo0 : LoW w N gg gb gt (mk N (gon (l.take 0))) (mk n (tou (l.take 0))) w3 := by
    have hA := Below.alloc (Below.refl w2.heap.size w2) (Nat.le_refl _) (.cells #[Value.slice (some ⟨w.heap.size, 0, none⟩) N N] 91)
    rw [List.take_zero, gon_nil, tou_nil, mk_false, mk_false, hgg, hgb, hgt]
    rw [World.size_alloc] at hbx3
    exact ⟨((hbx2.keepB hA hsz2).call hb3), (Bx.new _ _ _).call hb3, hbx3, hb2.trans ((hA.trans (hb3.mono (by simp))).mono hb2.size), Nat.le_refl _, hsz2, by omega⟩
  simp only [← hgt]
  simp only [← hgb, ← hgg]
  clear hbx2 hb2 hsz2 hbx3 hb3 hgt hgb hgg hz
  have hg1 := hlo0.g1
  have hg2 := hlo0.g2
  have hg3 := hlo0.g3
  go_loopw [28] (fun vk wr => ∃ k : Nat, k ≤ l.length ∧ vk = .int .i64 k ∧ Hid (fitK N l k) ∧ LoW w N gg gb gt (mk N (gon (l.take k))) (mk n (tou (l.take k))) wr) (fun vk _ => l.length - (intOf vk).toNat)
  case atStart => exact ⟨0, by omega, rfl, Lib.hid fun m hm => by omega, hlo0⟩
  case round =>
    clear hlo0
    obtain ⟨k, hk, rfl, HO, hlo⟩ := hrel
    obtain ⟨wo, rfl⟩ : ∃ wo : World, wo = wr := ⟨_, rfl⟩
    have hsz := hlo.size
    by_cases hlt : k < l.length
    · obtain ⟨ha, hrange⟩ := HC.out k hlt
      have HT := Lib.hid (take_snocS hlt)
      have HNOk := Lib.hid (HNO.out k hlt)
      have hw9 := HW.out k hlt
      have HS : Hid (fitB N (scA l k) = true → fitK N l (k + 1)) := Lib.hid fun h m hm => by
        by_cases e : m < k
        · exact HO.out m e
        · have : m = k := by omega
          rw [this]; exact h
      change w.rangeAt b0 (off + k * 2) (scc (scA l k)) at hrange
      generalize scA l k = x at *
      obtain ⟨xf, xc⟩ := x
      have hrg : wo.rangeAt b0 (off + k * 2) (scc ⟨xf, xc⟩) := fun j u hu => (hlo.le.cell (p := ⟨b0, off + k * 2 + j, none⟩) (World.block_lt_of_cell? w _ (hrange j u hu))).trans (hrange j u hu)
      clear hrange
      obtain ⟨hc0, hc1⟩ := rd2 hrg
      clear hrg
      simp only at hc0 hc1
      have hix := fun w' => run_idxS Try.underlying22 Try.sizeSc (cap := c) ha hlt _ rfl w'
      have Ha := Lib.hid ha; clear ha
      have hA := (Below.refl wo.heap.size wo).alloc (Nat.le_refl _) (.cells #[.int .i64 xf, .int .i64 xc] 36)
      have hloA := hlo.call hA
      have hSB := Bx.new wo 36 [.int .i64 xf, .int .i64 xc]
      have HLO := Lib.hid hloA
      have HSB := Lib.hid hSB
      clear hA hloA hSB hlo
      go_wp2_with fail
      refine (fits_any xf xc N _ hw9 (by omega)).mono ?_
      rintro e w1 ⟨rfl, hb1⟩
      have hlo1 := HLO.out.call hb1
      have hsb1 := HSB.out.call hb1
      obtain ⟨q, hq⟩ : ∃ q, q = fitB N ⟨xf, xc⟩ := ⟨_, rfl⟩
      rw [← hq] at HS HNOk ⊢
      obtain ⟨⟨f1, f2⟩, c1, c2⟩ := hw9
      simp only at f1 f2 c1 c2
      clear hc0 hc1 hb1 HLO HSB
      cases q with
      | false =>
        have HR := Lib.hid (HNOk.out rfl)
        have HLE := Lib.hid hlo1.le
        clear hlo1 hsb1 hq
        go_wp2_with fail
        go_ret2
        rw [HR.out]
        exact LostP.none 1 rfl HLE.out
      | true =>
        obtain ⟨x1, x2, x3, x4⟩ := (fitB_iff _ _).1 hq.symm
        simp only at x1 x2 x3 x4
        have HS2 := Lib.hid (HS.out rfl)
        clear hq HS HNOk
        obtain ⟨fn, rfl⟩ : ∃ fn : Nat, xf = (fn : Int) := ⟨xf.toNat, by omega⟩
        obtain ⟨cn, rfl⟩ : ∃ cn : Nat, xc = (cn : Int) := ⟨xc.toNat, by omega⟩
        obtain ⟨sb, hsb⟩ : ∃ sb, sb = wo.heap.size := ⟨_, rfl⟩
        rw [← hsb] at hsb1 hsz
        simp only [← hsb]
        clear hsb
        have hd1 := hsb1.cell (i := 1) rfl
        go_wp2_with fail
        go_loopw [38] (fun vi wr => ∃ j : Nat, j ≤ cn ∧ vi = .int .i64 j ∧ LoW w N gg gb gt (prt N (l.take k) ⟨fn, cn⟩ j) (mk n (tou (l.take k))) wr ∧ Bx wr sb 36 [.int .i64 fn, .int .i64 cn]) (fun vi _ => cn - (intOf vi).toNat)
        case atStart => exact ⟨0, by omega, rfl, by rw [prt_zero]; exact hlo1, hsb1⟩
        case round =>
          clear hlo1 hsb1 hd1
          obtain ⟨j, hj, rfl, hlo1, hsb1⟩ := hrel
          have hd0 := hsb1.cell (i := 0) rfl
          have hd1 := hsb1.cell (i := 1) rfl
          by_cases hjt : j < cn
          · have hjt' : (j : Int) < (cn : Int) := by omega
            have hkn : fn + j < N := by omega
            have hset := hlo1.putG (fn + j)
            rw [prt_succ N _ _ j (fn + j) (by simp only; omega)] at hset
            have hix2 := fun w' => run_idxS Try.underlying91 Try.sizeBool9 (a := some ⟨gg, 0, none⟩) (cap := N) rfl hkn ((fn : Int) + (j : Int)) (by omega) w'
            simp only [Nat.mul_one, Nat.zero_add] at hix2
            have hcb := hlo1.b.cell (i := 0) rfl
            have hcl : wr.cell? ⟨gg, fn + j, none⟩ = some (.bool (gon (l.take k) (fn + j) || covX ⟨fn, cn⟩ j (fn + j))) := hlo1.g.cell (by rw [bb_get]; exact mk_get _ hkn)
            have hfr := hlo1.g.free (fn + j)
            have hsb2 := hsb1.far (p := ⟨gg, fn + j, none⟩) (by simp only; omega) (.bool true)
            have HSET := Lib.hid hset
            have HSB2 := Lib.hid hsb2
            clear hset hsb2 hlo1 hsb1
            go_wp2_with fail
            go_roundw
            case rel => exact ⟨j + 1, by omega, by go_num, HSET.out, HSB2.out⟩
            case measure => simp [intOf]; omega
          · obtain rfl : j = cn := by omega
            rw [prt_all N (l.take k) ⟨fn, j⟩ j rfl, ← HT.out] at hlo1
            clear hd0 hd1 hjt hj
            have hd0 := hsb1.cell (i := 0) rfl
            obtain ⟨lo, hlo2, hlo3, hlo4⟩ : ∃ lo : Nat, fn ≤ lo + 108 ∧ (lo = 0 ∨ lo + 108 ≤ fn) ∧ max 0 ((fn : Int) - 108) = lo := ⟨fn - 108, by omega, by omega, by omega⟩
            have HL4 := Lib.hid hlo4
            have hpz := pto_zero n (l.take k) ⟨fn, j⟩ lo (by simp only; omega)
            rw [← hpz] at hlo1
            clear hlo4 hpz
            obtain ⟨H, hH1, hH2⟩ : ∃ H : Nat, (H = n ∨ H = fn + j) ∧ min (n : Int) ((fn : Int) + j) = H := ⟨min n (fn + j), by omega, by omega⟩
            have HH2 := Lib.hid hH2
            clear hH1 hH2
            have hcase : ((fn : Int) ≤ 108 ∧ lo = 0) ∨ (108 < (fn : Int) ∧ lo + 108 = fn) := by omega
            rcases hcase with ⟨m1, m2⟩ | ⟨m1, m2⟩
            all_goals
              have M2 := Lib.hid m2
              clear m2 hlo3
              by_cases m3 : (n : Int) ≤ (fn : Int) + j
              all_goals
                go_wp2_with fail
                go_loopw [12] (fun vx wr => ∃ x : Nat, lo ≤ x ∧ (x ≤ lo ∨ x ≤ fn + j) ∧ vx = .int .i64 x ∧ LoW w N gg gb gt (mk N (gon (l.take (k + 1)))) (pto n (l.take k) ⟨fn, j⟩ x) wr ∧ Bx wr sb 36 [.int .i64 fn, .int .i64 j]) (fun vx _ => n + 1 - (intOf vx).toNat)
                case atStart => exact ⟨lo, Nat.le_refl _, .inl (Nat.le_refl _), by have := M2.out; congr 1; omega, hlo1, hsb1⟩
                case round =>
                  clear hlo1 hsb1 hd0
                  obtain ⟨x, hx1, hx2, rfl, hlo1, hsb1⟩ := hrel
                  have hd0 := hsb1.cell (i := 0) rfl
                  have hd1 := hsb1.cell (i := 1) rfl
                  have HX2 := Lib.hid hx2
                  clear hx2
                  by_cases hxt : (x : Int) < (n : Int) ∧ (x : Int) < (fn : Int) + j
                  · obtain ⟨ht1, ht2⟩ := hxt
                    have hxn : x < n := by omega
                    have hset := hlo1.putT x
                    rw [pto_succ n _ _ x (by rw [show ((⟨(fn : Int), (j : Int)⟩ : Sc).f) = (fn : Int) from rfl, HL4.out]; omega)] at hset
                    have hix2 := fun w' => run_idxS Try.underlying91 Try.sizeBool9 (a := some ⟨gt, 0, none⟩) (cap := n) rfl hxn (x : Int) rfl w'
                    simp only [Nat.mul_one, Nat.zero_add] at hix2
                    have hcl : wr.cell? ⟨gt, x, none⟩ = some (.bool (tou (l.take k) x || touX ⟨fn, j⟩ x x)) := hlo1.t.cell (by rw [bb_get]; exact mk_get _ hxn)
                    have hfr := hlo1.t.free x
                    have hsb2 := hsb1.far (p := ⟨gt, x, none⟩) (by simp only; omega) (.bool true)
                    have HSET := Lib.hid hset
                    have HSB2 := Lib.hid hsb2
                    clear hset hsb2 hlo1 hsb1
                    go_wp2_with fail
                    go_roundw
                    case rel => exact ⟨x + 1, by omega, .inr (by omega), by go_num, HSET.out, HSB2.out⟩
                    case measure => simp [intOf]; omega
                  · have hpa := pto_all n (l.take k) ⟨fn, j⟩ x (by simp only; omega) (by have := HX2.out; have := HL4.out; simp only; omega)
                    rw [hpa, ← HT.out] at hlo1
                    have HLO := Lib.hid hlo1
                    clear hpa hlo1 hsb1
                    have hxt2 : ¬ ((x : Int) < (n : Int)) ∨ ¬ ((x : Int) < (fn : Int) + j) := by omega
                    have hxt3 : ((n : Int) ≤ (fn : Int) + j ∧ ¬ ((x : Int) < (n : Int))) ∨ (¬ (n : Int) ≤ (fn : Int) + j ∧ ¬ ((x : Int) < (fn : Int) + j)) := by omega
                    clear hxt hxt2 m3
                    rcases hxt3 with ⟨m3, m4⟩ | ⟨m3, m4⟩
                    all_goals
                      go_wp2_with fail
                      go_roundw
                      case rel => exact ⟨k + 1, by omega, by go_num, HS2, HLO.out⟩
                      case measure => simp [intOf]; omega
    · obtain rfl : k = l.length := by omega
      rw [List.take_length] at hlo
      have HR := Lib.hid (HYES.out HO.out)
      clear hlt hk HO HYES HNO HC HW HF hac
      have hRES := HR.out
      subst hRES
      go_wp2_with fail
      go_loopw [13, 68] (fun vo vf wr => ∃ f : Nat, f ≤ n ∧ vf = .int .i64 f ∧ wr.ownsRow (gt + 1) 3 1 vo (lostN l f).length (is (lostN l f)) ∧ LoW w N gg gb gt (mk N (gon l)) (mk n (tou l)) wr) (fun _ vf _ => n - (intOf vf).toNat)
      case atStart => exact ⟨0, by omega, rfl, ownsRow_nil _ _ _, hlo⟩
      case round =>
        clear hlo hsz
        obtain ⟨f, hf, rfl, ho, hlo⟩ := hrel
        obtain ⟨wq, rfl⟩ : ∃ wq : World, wq = wr := ⟨_, rfl⟩
        have hsz := hlo.size
        have hLl := lostN_length l f
        by_cases hlt : f < n
        · have hlt' : (f : Int) < (n : Int) := by omega
          have hE : Hid (lostN l (f + 1) = lostN l f ++ ls (ers l f) f) := Lib.hid rfl
          have HN2 : Hid (tou l f = false → ls (ers l f) f = []) := Lib.hid fun h => by rw [ers_untouched l f h]; exact ls_nil f
          obtain ⟨L, hL⟩ : ∃ L, L = lostN l f := ⟨_, rfl⟩
          rw [← hL] at ho hE hLl
          clear hL
          obtain ⟨ao, co, rfl⟩ := ownD_form ho
          obtain ⟨q, hq⟩ : ∃ q, q = tou l f := ⟨_, rfl⟩
          have hcl : wq.cell? ⟨gt, f, none⟩ = some (.bool q) := hlo.t.cell (by rw [bb_get]; rw [hq]; exact mk_get _ hlt)
          rw [← hq] at HN2
          have hix2 := fun w' => run_idxS Try.underlying91 Try.sizeBool9 (a := some ⟨gt, 0, none⟩) (cap := n) rfl hlt (f : Int) rfl w'
          simp only [Nat.mul_one, Nat.zero_add] at hix2
          have HO := Lib.hid ho
          have HLO := Lib.hid hlo
          clear hq ho hlo
          cases q with
          | false =>
            have HE2 : Hid (lostN l (f + 1) = L) := Lib.hid (by rw [hE.out, HN2.out rfl, List.append_nil])
            go_wp2_with fail
            go_roundw
            case rel => exact ⟨f + 1, by omega, by go_num, by rw [HE2.out]; exact HO.out, HLO.out⟩
            case measure => simp [intOf]; omega
          | true =>
            clear HN2
            have hA := (Below.refl wq.heap.size wq).alloc (Nat.le_refl _) (.cells #[.slice none 0 0] 30)
            have hloA := HLO.out.call hA
            have hbc := hloA.b.cell (i := 0) rfl
            have hsz' : gg < wq.heap.size ∧ gb < wq.heap.size := by omega
            have HK := Lib.hid (collect_lost f n N gg gb wq.heap.size l (wq.alloc (.cells #[.slice none 0 0] 30)) hlt HN.out h2 hsz'.1 hsz'.2 hloA.g hbc ⟨_, Bx.new wq _ _, ownsRow_nil _ _ _⟩)
            clear hloA hbc hA
            go_wp2_with fail
            refine HK.out.mono ?_
            rintro e w4 ⟨rfl, ⟨ve, hbx, hoe⟩, hb4⟩
            have hb4' := ((Below.refl wq.heap.size wq).alloc (Nat.le_refl _) (.cells #[.slice none 0 0] 30)).trans hb4
            have hlo4 := HLO.out.call hb4'
            have ho4 := ownD_keep HO.out hb4'
            have HB := Lib.hid (fun k (hk : k < (ers l f).length) => ers_get l f k hk)
            have hel : (ers l f).length ≤ 28 := ersK_length l f 28
            generalize ers l f = E at hoe hel HB hE
            obtain ⟨ae, ce, rfl⟩ := ownD_form hoe
            obtain ⟨eb, heb⟩ : ∃ eb, eb = wq.heap.size := ⟨_, rfl⟩
            have hoff : Off (.slice ao L.length co) (fun k => k = wq.heap.size ∨ ae = some ⟨k, 0, none⟩) := by
              refine Off.own HO.out fun k _ hk hk2 => ?_
              rcases hk2 with hk2 | hk2
              · omega
              · have := (hoe.lt k (by rw [hk2]; rfl)).1
                omega
            rw [← heb] at hbx hoe hoff hsz
            simp only [← heb]
            clear hb4 hb4' HK hsz' HLO HO heb
            have hd0 := hbx.cell (i := 0) rfl
            go_wp2_with fail
            go_loopw [13, 81] (fun vo vk wr => ∃ k : Nat, k ≤ E.length ∧ vk = .int .i64 k ∧ wr.ownsRow (gt + 1) 3 1 vo (L ++ lsK E f k).length (is (L ++ lsK E f k)) ∧ Off vo (fun k => k = eb ∨ ae = some ⟨k, 0, none⟩) ∧ wr.ownsRow (eb + 1) 3 1 (.slice ae E.length ce) E.length (is E) ∧ Bx wr eb 30 [.slice ae E.length ce] ∧ LoW w N gg gb gt (mk N (gon l)) (mk n (tou l)) wr) (fun _ vk _ => E.length - (intOf vk).toNat)
            case atStart => exact ⟨0, by omega, rfl, by rw [lsK_zero, List.append_nil]; exact ho4, hoff, hoe, hbx, hlo4⟩
            case round =>
              clear ho4 hoff hoe hbx hlo4 hd0
              obtain ⟨k, hk, rfl, hoo, hoff, hoe, hbx, hlo⟩ := hrel
              have hwsz := hlo.size
              have hebl := hbx.lt
              by_cases hkt : k < E.length
              · have hkt' : (k : Int) < (E.length : Int) := by omega
                obtain ⟨ge, ce', he, hge, hge2⟩ := ownD_addr hoe (by omega)
                simp only [Value.slice.injEq] at he
                obtain ⟨rfl, _, rfl⟩ := he
                obtain ⟨hx1, hx2⟩ := HB.out k hkt
                have HS := Lib.hid (lsK_succ E f k (ixI E k) (ixI_some hkt))
                have hcl : wr.cell? ⟨ge, k, none⟩ = some (.int .i64 (ixI E k)) := by rw [hoe.cellAt k (by omega), is_get hkt]
                have hix := fun w' => run_idxS Try.underlying30 Try.sizeInt9 (a := some ⟨ge, 0, none⟩) (cap := ce) rfl hkt _ rfl w'
                simp only [Nat.mul_one, Nat.zero_add] at hix
                have hd0 := hbx.cell (i := 0) rfl
                generalize ixI E k = x at *
                have hll := lsK_length E f k hel
                obtain ⟨M, hM⟩ : ∃ M, M = L ++ lsK E f k := ⟨_, rfl⟩
                have hMl : M.length ≤ 28 * f + 28 := by rw [hM, List.length_append]; omega
                rw [← hM] at hoo
                have HOE := Lib.hid hoe
                have HBX := Lib.hid hbx
                have HLO := Lib.hid hlo
                have HOO := Lib.hid hoo
                have HOF := Lib.hid hoff
                clear hoe hbx hlo hoo hoff
                have hstay : ∀ h : lsK E f (k + 1) = lsK E f k, Hid (L ++ lsK E f (k + 1) = M) := fun h => Lib.hid (by rw [h, hM])
                have HST := Lib.hid hstay
                have HGR : Hid (4 < E.length → x < 24 → L ++ lsK E f (k + 1) = M ++ [24 * (f : Int) + x]) := Lib.hid fun h1 h2 => by rw [HS.out, if_pos ⟨h1, h2⟩, hM, List.append_assoc]
                clear hM hstay
                by_cases h4 : 4 < E.length
                · have h4' : (4 : Int) < (E.length : Int) := by omega
                  by_cases hx : x < 24
                  · have HS2 := Lib.hid (HGR.out h4 hx)
                    clear HS HGR HST
                    have hoa := ownD_keep HOO.out ((Below.refl wr.heap.size wr).alloc (Nat.le_refl _) (.cells #[.int .i64 (24 * (f : Int) + x)] 3))
                    have hA := (Below.refl wr.heap.size wr).alloc (Nat.le_refl _) (.cells #[.int .i64 (24 * (f : Int) + x)] 3)
                    have HA := Lib.hid hA
                    have hbas : gt + 1 ≤ (wr.alloc (.cells #[.int .i64 (24 * (f : Int) + x)] 3)).heap.size := by simp; omega
                    clear hA
                    go_wp2_with (at_builtin; refine wpList_ap1 rfl _ _ rfl Try.underlying30 Try.infoInt9 rfl hoa rfl (g := wr.heap.size) (y := .int .i64 (24 * (f : Int) + x)) rfl (by simp) rfl (by unfold maxLen; omega) (by omega) hbas ?_; intro v7 w7 hown7 hgr7 hno7)
                    have hb7 := (Below.refl (gt + 1) (wr.alloc (.cells #[.int .i64 (24 * (f : Int) + x)] 3))).grown hgr7 hbas (fun q hq => by have := ownD_block hoa q hq; omega)
                    have hlo7 := (HLO.out.call HA.out).keep hb7
                    have hoe7 := own_off (ownD_keep HOE.out HA.out) hgr7 (fun q hq h => HOF.out q h (.inr (by simpa [Value.ownBlock] using hq)))
                    have hbx7 := bx_off (HBX.out.call HA.out) hgr7 (fun h => HOF.out eb h (.inl rfl))
                    have hf7 := HOF.out.step hno7 (fun q hq h => by
                      simp only [World.size_alloc] at hq
                      rcases h with h | h
                      · omega
                      · simp only [Option.some.injEq, Addr.mk.injEq, and_true] at h
                        omega)
                    clear hoa hgr7 hno7 HA HOE HBX HLO HOO HOF
                    go_roundw
                    case rel => exact ⟨k + 1, by omega, by go_num, by rw [HS2.out, is_append, List.length_append]; exact hown7, hf7, hoe7, hbx7, hlo7⟩
                    case measure => simp [intOf]; omega
                  · have HS2 := HST.out (by rw [HS.out, if_neg (fun h => hx h.2)])
                    have hxd : decide (x < 24) = false := decide_eq_false hx
                    clear HS HGR HST
                    go_wp2_with fail
                    go_roundw
                    case rel => exact ⟨k + 1, by omega, by go_num, by rw [HS2.out]; exact HOO.out, HOF.out, HOE.out, HBX.out, HLO.out⟩
                    case measure => simp [intOf]; omega
                · have HS2 := HST.out (by rw [HS.out, if_neg (fun h => h4 h.1)])
                  have h4' : ¬ (4 : Int) < (E.length : Int) := by omega
                  clear HS HGR HST
                  go_wp2_with fail
                  go_roundw
                  case rel => exact ⟨k + 1, by omega, by go_num, by rw [HS2.out]; exact HOO.out, HOF.out, HOE.out, HBX.out, HLO.out⟩
                  case measure => simp [intOf]; omega
              · obtain rfl : k = E.length := by omega
                go_wp2_with fail
                go_roundw
                case rel => exact ⟨f + 1, by omega, by go_num, by rw [hE.out]; exact hoo, hlo⟩
                case measure => simp [intOf]; omega
        · obtain rfl : f = n := by omega
          have HLE := Lib.hid hlo.le
          have HO := Lib.hid ho
          obtain ⟨ao, co, rfl⟩ := ownD_form ho
          clear ho hlo
          go_wp2_with fail
          go_ret2
          exact ⟨_, rfl, own_mono HO.out (by omega), HLE.out⟩
end Go.Proofs.Ytpncjadhpnapnaa.C9
