/- Frames of consecutive sectors (chapter 10): plain. -/
import Derived.Test.YtenbafolmmemgaaQt
import Derived.Test.YtenbafolmmemgaaQf
namespace Go.Proofs.Ytenbafolmmemgaa.W10
open Go.RowKit
set_option linter.unusedVariables false

/-- a frame out of the numbers of its addresses -/
def mkF (ctl t p r ab : Int) : Q.Fr := ⟨ctl, t, p, Q.mM r, Q.mS r, Q.mF r, Q.mM ab, Q.mS ab, Q.mF ab⟩
theorem nmb_parts (n : Int) : nmb (Q.mM n) (Q.mS n) (Q.mF n) = n := Q.parts n
theorem vB_parts {n : Int} (h0 : 0 ≤ n) (h1 : n < 450000) : vB (Q.mM n) (Q.mS n) (Q.mF n) = true := vB_t (Q.parts_valid h0 h1)
theorem mk_ok {ctl t p r ab : Int} (c0 : 0 ≤ ctl) (c1 : ctl ≤ 15) (ht : (1 ≤ t ∧ t ≤ 99) ∨ t = 170) (hp : p = 0 ∨ p = 1) (r0 : 0 ≤ r) (r1 : r < 450000) (a0 : 0 ≤ ab) (a1 : ab < 450000) : frB (mkF ctl t p r ab) = true := by
  have e1 : btw ctl 0 15 = true := btw_t c0 c1
  have e2 : trkB t = true := by
    unfold trkB
    rcases ht with h | h
    · rw [btw_t (by omega) h.2]; rfl
    · subst h; rfl
  have e3 : ptB p = true := by unfold ptB; rw [btw_t (by omega) (by omega)]; rfl
  exact (frB_ok e1 e2 e3 (vB_parts r0 r1)).trans (vB_parts a0 a1)
/-- from one sector to the next -/
structure Cnt (a b : Q.Fr) (lba : Int) : Prop where
  ga : frB a = true
  va : vB a.am a.as a.af = true
  vb : vB b.am b.as b.af = true
  ra : vB a.rm a.rs a.rf = true
  rb : vB b.rm b.rs b.rf = true
  n : nmb a.am a.as a.af - 150 = lba
  d : nmb b.am b.as b.af - nmb a.am a.as a.af = 1
  c : ((a.trk ≠ b.trk ∨ a.pt ≠ b.pt) ∧ (b.pt = 0 ∨ (b.rm = 0 ∧ b.rs = 0 ∧ b.rf = 0))) ∨ (a.trk = b.trk ∧ a.pt = b.pt ∧ ((a.pt = 1 ∧ nmb b.rm b.rs b.rf - nmb a.rm a.rs a.rf = 1) ∨ (a.pt = 0 ∧ nmb b.rm b.rs b.rf - nmb a.rm a.rs a.rf = -1)))
theorem cnt_mk {ctl t p r t' p' r' lba : Int} (c0 : 0 ≤ ctl) (c1 : ctl ≤ 15) (ht : (1 ≤ t ∧ t ≤ 99) ∨ t = 170) (hp : p = 0 ∨ p = 1) (r0 : 0 ≤ r) (r1 : r < 450000) (r0' : 0 ≤ r') (r1' : r' < 450000) (a0 : 0 ≤ lba) (a1 : lba + 1 ≤ 449849)
    (hc : ((t ≠ t' ∨ p ≠ p') ∧ (p' = 0 ∨ r' = 0)) ∨ (t = t' ∧ p = p' ∧ ((p = 1 ∧ r' - r = 1) ∨ (p = 0 ∧ r' - r = -1)))) : Cnt (mkF ctl t p r (lba + 150)) (mkF ctl t' p' r' (lba + 1 + 150)) lba := by
  refine ⟨mk_ok c0 c1 ht hp r0 r1 (by omega) (by omega), vB_parts (by omega) (by omega), vB_parts (by omega) (by omega), vB_parts r0 r1, vB_parts r0' r1', ?_, ?_, ?_⟩
  · show nmb (Q.mM (lba + 150)) (Q.mS (lba + 150)) (Q.mF (lba + 150)) - 150 = lba
    rw [nmb_parts]; omega
  · show nmb (Q.mM (lba + 1 + 150)) (Q.mS (lba + 1 + 150)) (Q.mF (lba + 1 + 150)) - nmb (Q.mM (lba + 150)) (Q.mS (lba + 150)) (Q.mF (lba + 150)) = 1
    rw [nmb_parts, nmb_parts]; omega
  · show ((t ≠ t' ∨ p ≠ p') ∧ (p' = 0 ∨ (Q.mM r' = 0 ∧ Q.mS r' = 0 ∧ Q.mF r' = 0))) ∨ (t = t' ∧ p = p' ∧ ((p = 1 ∧ nmb (Q.mM r') (Q.mS r') (Q.mF r') - nmb (Q.mM r) (Q.mS r) (Q.mF r) = 1) ∨ (p = 0 ∧ nmb (Q.mM r') (Q.mS r') (Q.mF r') - nmb (Q.mM r) (Q.mS r) (Q.mF r) = -1)))
    rw [nmb_parts, nmb_parts]
    refine hc.imp (fun h => ⟨h.1, h.2.imp id fun h => ?_⟩) id
    subst h; exact ⟨rfl, rfl, rfl⟩
theorem progF_none (l : List T.Trk) (ctl lba : Int) : Q.progF l ctl lba none = mkF ctl 170 1 (lba - Q.endL l) (lba + 150) := rfl
theorem progF_gap (l : List T.Trk) (ctl lba : Int) (i : Nat) (h : lba < (T.tr l i).st) : Q.progF l ctl lba (some i) = mkF ctl (T.tr l i).num 0 ((T.tr l i).st - lba) (lba + 150) := if_pos h
theorem progF_in (l : List T.Trk) (ctl lba : Int) (i : Nat) (h : ¬ lba < (T.tr l i).st) : Q.progF l ctl lba (some i) = mkF ctl (T.tr l i).num 1 (lba - (T.tr l i).st) (lba + 150) := if_neg h
theorem cnt_all {l : List T.Trk} (hS : Q.Sess l) {ctl lba : Int} (c0 : 0 ≤ ctl) (c1 : ctl ≤ 15) (a0 : 0 ≤ lba) (a1 : lba + 1 ≤ 449849) :
    Cnt (Q.progF l ctl lba (Q.firstP l lba l.length)) (Q.progF l ctl (lba + 1) (Q.firstP l (lba + 1) l.length)) lba := by
  have hlen := hS.1
  have hE0 : 0 ≤ Q.endL l := by
    have := hS.at (i := l.length - 1) (by omega)
    show 0 ≤ (T.tr l (l.length - 1)).st + (T.tr l (l.length - 1)).len; omega
  cases hi : Q.firstP l lba l.length with
  | none =>
    have h := firstP_spec' hi
    have hn : Q.firstP l (lba + 1) l.length = none := Q.firstP_none fun j hj => by have := h j hj; omega
    have hE : Q.endL l ≤ lba := by have := h (l.length - 1) (by omega); unfold Q.endL; omega
    rw [hn, progF_none, progF_none]
    exact cnt_mk c0 c1 (.inr rfl) (.inr rfl) (by omega) (by omega) (by omega) (by omega) a0 a1 (.inr ⟨rfl, rfl, .inl ⟨rfl, by omega⟩⟩)
  | some i =>
    obtain ⟨h1, h2, h3⟩ := firstP_spec hi
    have hat := hS.at h1
    have hen : Q.en l i = (T.tr l i).st + (T.tr l i).len := rfl
    by_cases hlt : lba + 1 < Q.en l i
    · have hn : Q.firstP l (lba + 1) l.length = some i := Q.firstP_some h1 hlt fun j hj => by
        have h4 := h3 j hj
        have h5 := (hS.mono j (i - j) (by omega)).2 (by omega)
        rw [show j + (i - j) = i by omega] at h5
        have h6 := hS.at (i := j) (by omega)
        have h7 := hS.mono j (i - j) (by omega)
        omega
      rw [hn]
      by_cases g1 : lba < (T.tr l i).st
      · rw [progF_gap _ _ _ _ g1]
        by_cases g2 : lba + 1 < (T.tr l i).st
        · rw [progF_gap _ _ _ _ g2]
          exact cnt_mk c0 c1 (.inl ⟨by omega, by omega⟩) (.inl rfl) (by omega) (by omega) (by omega) (by omega) a0 a1 (.inr ⟨rfl, rfl, .inr ⟨rfl, by omega⟩⟩)
        · rw [progF_in _ _ _ _ g2]
          exact cnt_mk c0 c1 (.inl ⟨by omega, by omega⟩) (.inl rfl) (by omega) (by omega) (by omega) (by omega) a0 a1 (.inl ⟨.inr (by omega), .inr (by omega)⟩)
      · rw [progF_in _ _ _ _ g1, progF_in _ _ _ _ (by omega)]
        exact cnt_mk c0 c1 (.inl ⟨by omega, by omega⟩) (.inr rfl) (by omega) (by omega) (by omega) (by omega) a0 a1 (.inr ⟨rfl, rfl, .inl ⟨rfl, by omega⟩⟩)
    · have g1 : ¬ lba < (T.tr l i).st := by omega
      rw [progF_in _ _ _ _ g1]
      have hj : ∀ j, j < i + 1 → ¬ lba + 1 < Q.en l j := fun j hj => by
        by_cases e : j = i
        · rw [e]; exact hlt
        · have h4 := h3 j (by omega); omega
      by_cases hil : i + 1 < l.length
      · obtain ⟨m1, m2⟩ := hS.mono i 1 hil
        have m3 := m2 (by omega)
        have hat2 := hS.at hil
        have hn : Q.firstP l (lba + 1) l.length = some (i + 1) := Q.firstP_some hil (by unfold Q.en; omega) hj
        rw [hn]
        by_cases g2 : lba + 1 < (T.tr l (i + 1)).st
        · rw [progF_gap _ _ _ _ g2]
          exact cnt_mk c0 c1 (.inl ⟨by omega, by omega⟩) (.inr rfl) (by omega) (by omega) (by omega) (by omega) a0 a1 (.inl ⟨.inr (by omega), .inl rfl⟩)
        · rw [progF_in _ _ _ _ g2]
          exact cnt_mk c0 c1 (.inl ⟨by omega, by omega⟩) (.inr rfl) (by omega) (by omega) (by omega) (by omega) a0 a1 (.inl ⟨.inl (by omega), .inr (by omega)⟩)
      · have hil2 : i + 1 = l.length := by omega
        have hn : Q.firstP l (lba + 1) l.length = none := Q.firstP_none fun j hjl => hj j (by omega)
        have hE : Q.endL l = Q.en l i := by unfold Q.endL; rw [← hil2]; rfl
        rw [hn, progF_none]
        exact cnt_mk c0 c1 (.inl ⟨by omega, by omega⟩) (.inr rfl) (by omega) (by omega) (by omega) (by omega) a0 a1 (.inl ⟨.inl (by omega), .inr (by omega)⟩)
theorem progR_ok {l : List T.Trk} {ctl lba : Int} (h : (Q.progR l ctl lba).2 = 0) : Q.Sess l ∧ 0 ≤ ctl ∧ ctl ≤ 15 ∧ 0 ≤ lba ∧ lba ≤ 449849 ∧ (Q.progR l ctl lba).1 = Q.progF l ctl lba (Q.firstP l lba l.length) := by
  unfold Q.progR at h ⊢
  split at h
  · simp at h
  · rename_i h1
    split at h
    · simp at h
    · rename_i h2
      rw [if_neg h1, if_neg h2]
      exact ⟨Q.sessB_true.1 (by cases e : Q.sessB l with | true => rfl | false => exact absurd (.inl e) h1), by omega, by omega, by omega, by omega, rfl⟩
theorem progR_no {l : List T.Trk} {ctl lba : Int} (h : (Q.progR l ctl lba).2 ≠ 0) : (Q.progR l ctl lba).1 = Q.z ∧ ((Q.progR l ctl lba).2 = 1 ∨ (Q.progR l ctl lba).2 = 2) := by
  unfold Q.progR at h ⊢
  split
  · exact ⟨rfl, .inl rfl⟩
  · split
    · exact ⟨rfl, .inr rfl⟩
    · rename_i h1 h2; rw [if_neg h1, if_neg h2] at h; exact absurd rfl h
end Go.Proofs.Ytenbafolmmemgaa.W10
