/- Frames of the Q subchannel (chapter 10): the plain definitions. -/
import Derived.Test.YtjnedcncfdpjoaaTocApp
namespace Go.Proofs.Ytjnedcncfdpjoaa.Q
open T (Trk tr eB)
set_option linter.unusedVariables false

/-- a frame: control, track, point, the relative address, the absolute one -/
structure Fr where
  ctl : Int
  trk : Int
  pt : Int
  rm : Int
  rs : Int
  rf : Int
  am : Int
  as : Int
  af : Int
  deriving DecidableEq
def z : Fr := ⟨0, 0, 0, 0, 0, 0, 0, 0, 0⟩
/-- the parts of a number of sectors -/
def mM (n : Int) : Int := n / 4500
def mS (n : Int) : Int := n / 75 % 60
def mF (n : Int) : Int := n % 75
theorem parts (n : Int) : (60 * mM n + mS n) * 75 + mF n = n := by unfold mM mS mF; omega
theorem parts_valid {n : Int} (h0 : 0 ≤ n) (h1 : n < 450000) : 0 ≤ mM n ∧ mM n ≤ 99 ∧ 0 ≤ mS n ∧ mS n ≤ 59 ∧ 0 ≤ mF n ∧ mF n ≤ 74 := by unfold mM mS mF; omega
theorem parts_of {m s f : Int} (h1 : 0 ≤ m) (h2 : 0 ≤ s) (h3 : s ≤ 59) (h4 : 0 ≤ f) (h5 : f ≤ 74) : mM ((60 * m + s) * 75 + f) = m ∧ mS ((60 * m + s) * 75 + f) = s ∧ mF ((60 * m + s) * 75 + f) = f := by unfold mM mS mF; omega

/-- the rule of the track 'i' of a session -/
def okS (l : List Trk) (i : Nat) : Prop :=
  1 ≤ (tr l i).num ∧ (tr l i).num ≤ 99 ∧ (0 < i → (tr l i).num = (tr l (i - 1)).num + 1) ∧ eB l i ≤ (tr l i).st ∧ (tr l i).st ≤ 449849 ∧ 1 ≤ (tr l i).len ∧ (tr l i).len ≤ 449849 - (tr l i).st
instance (l : List Trk) (i : Nat) : Decidable (okS l i) := by unfold okS; infer_instance
def Sess (l : List Trk) : Prop := 1 ≤ l.length ∧ l.length ≤ 99 ∧ ∀ i, i < l.length → okS l i
instance (l : List Trk) : Decidable (Sess l) := by unfold Sess; infer_instance
def sessB (l : List Trk) : Bool := decide (Sess l)
theorem sessB_true {l : List Trk} : sessB l = true ↔ Sess l := by unfold sessB; exact decide_eq_true_iff
theorem sessB_false {l : List Trk} : sessB l = false ↔ ¬ Sess l := by unfold sessB; exact decide_eq_false_iff_not
/-- the end of the track 'i' -/
def en (l : List Trk) (i : Nat) : Int := (tr l i).st + (tr l i).len
def endL (l : List Trk) : Int := en l (l.length - 1)
theorem okS.ends {l : List Trk} {n : Nat} (h : ∀ i, i < n → okS l i) : ∀ i, i ≤ n → 0 ≤ eB l i ∧ eB l i ≤ 449849
  | 0, _ => by rw [T.eB_zero]; omega
  | i + 1, hi => by
    obtain ⟨h0, _⟩ := okS.ends h i (by omega)
    obtain ⟨_, _, _, h4, h5, h6, h7⟩ := h i (by omega)
    rw [T.eB_succ]; omega
/-- what a session's tracks are bounded by -/
theorem Sess.at {l : List Trk} (h : Sess l) {i : Nat} (hi : i < l.length) : 1 ≤ (tr l i).num ∧ (tr l i).num ≤ 99 ∧ 0 ≤ (tr l i).st ∧ (tr l i).st ≤ 449848 ∧ 1 ≤ (tr l i).len ∧ (tr l i).st + (tr l i).len ≤ 449849 := by
  obtain ⟨h1, h2, _, h4, h5, h6, h7⟩ := h.2.2 i hi
  have := okS.ends h.2.2 i (by omega)
  omega
theorem Sess.mono {l : List Trk} (h : Sess l) (i : Nat) : ∀ d, i + d < l.length → (tr l (i + d)).num = (tr l i).num + d ∧ (0 < d → en l i ≤ (tr l (i + d)).st)
  | 0, _ => by rw [Nat.add_zero]; exact ⟨by simp, fun h => by omega⟩
  | d + 1, hd => by
    obtain ⟨h1, h2⟩ := Sess.mono h i d (by omega)
    obtain ⟨_, _, g3, g4, _⟩ := h.2.2 (i + d + 1) (by omega)
    obtain ⟨_, _, _, _, _, g6, _⟩ := h.2.2 (i + d) (by omega)
    rw [T.eB_succ] at g4
    have g3' := g3 (by omega)
    rw [Nat.add_sub_cancel] at g3'
    have e : i + (d + 1) = i + d + 1 := by omega
    rw [e, g3', h1]
    refine ⟨by omega, fun _ => ?_⟩
    by_cases h0 : d = 0
    · subst h0; unfold en; simp only [Nat.add_zero] at *; omega
    · have := h2 (by omega); omega
theorem Sess.ends {l : List Trk} (h : Sess l) {i : Nat} (hi : i < l.length) : en l i ≤ endL l := by
  unfold endL
  by_cases e : i = l.length - 1
  · rw [← e]; omega
  · have h1 := (h.mono i (l.length - 1 - i) (by omega)).2 (by omega)
    have e2 : i + (l.length - 1 - i) = l.length - 1 := by omega
    rw [e2] at h1
    have := (h.at (i := l.length - 1) (by omega))
    unfold en at h1 ⊢; omega

/-- the first track that ends behind a block -/
def firstP (l : List Trk) (lba : Int) (n : Nat) : Option Nat := (List.range n).find? fun i => decide (lba < en l i)
theorem firstP_some {l : List Trk} {lba : Int} {n i : Nat} (hi : i < n) (h1 : lba < en l i) (h2 : ∀ j, j < i → ¬ lba < en l j) : firstP l lba n = some i := by
  unfold firstP
  rw [List.find?_range_eq_some]
  exact ⟨by simpa using h1, by simpa using hi, fun j hj => by simpa using h2 j hj⟩
theorem firstP_none {l : List Trk} {lba : Int} {n : Nat} (h : ∀ j, j < n → ¬ lba < en l j) : firstP l lba n = none := by
  unfold firstP
  rw [List.find?_range_eq_none]
  exact fun j hj => by simpa using h j hj
/-- the frame of a sector, the first track that ends behind it given -/
def progF (l : List Trk) (ctl lba : Int) : Option Nat → Fr
  | none => ⟨ctl, 170, 1, mM (lba - endL l), mS (lba - endL l), mF (lba - endL l), mM (lba + 150), mS (lba + 150), mF (lba + 150)⟩
  | some i => if lba < (tr l i).st then ⟨ctl, (tr l i).num, 0, mM ((tr l i).st - lba), mS ((tr l i).st - lba), mF ((tr l i).st - lba), mM (lba + 150), mS (lba + 150), mF (lba + 150)⟩
    else ⟨ctl, (tr l i).num, 1, mM (lba - (tr l i).st), mS (lba - (tr l i).st), mF (lba - (tr l i).st), mM (lba + 150), mS (lba + 150), mF (lba + 150)⟩
/-- a frame and a code -/
def progR (l : List Trk) (ctl lba : Int) : Fr × Int :=
  if sessB l = false ∨ ctl < 0 ∨ 15 < ctl then (z, 1) else if lba < 0 ∨ 449849 < lba then (z, 2) else (progF l ctl lba (firstP l lba l.length), 0)
/-- the frame of an entry -/
def entF (ctl pt m s f : Int) : Fr := ⟨ctl, 0, pt, 0, 0, 0, m, s, f⟩
def entB (ctl pt n : Int) : Fr := entF ctl pt (mM (n + 150)) (mS (n + 150)) (mF (n + 150))
/-- the frames of the first 'n' tracks -/
def entT (l : List Trk) (ctl : Int) (n : Nat) : List Fr := (List.range n).map fun i => entB ctl (tr l i).num (tr l i).st
theorem entT_succ (l : List Trk) (ctl : Int) (n : Nat) : entT l ctl (n + 1) = entT l ctl n ++ [entB ctl (tr l n).num (tr l n).st] := by unfold entT; rw [List.range_succ, List.map_append]; rfl
def entL (l : List Trk) (ctl : Int) (n : Nat) : List Fr := [entF ctl 160 (tr l 0).num 0 0, entF ctl 161 (tr l (l.length - 1)).num 0 0, entB ctl 162 (endL l)] ++ entT l ctl n
theorem entL_succ (l : List Trk) (ctl : Int) (n : Nat) : entL l ctl (n + 1) = entL l ctl n ++ [entB ctl (tr l n).num (tr l n).st] := by unfold entL; rw [entT_succ, List.append_assoc]
theorem entL_length (l : List Trk) (ctl : Int) (n : Nat) : (entL l ctl n).length = n + 3 := by simp [entL, entT]
def entR (l : List Trk) (ctl : Int) : List Fr × Int := if sessB l = false ∨ ctl < 0 ∨ 15 < ctl then ([], 1) else (entL l ctl l.length, 0)
end Go.Proofs.Ytjnedcncfdpjoaa.Q
