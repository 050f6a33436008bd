/- What an operation gives, from a valid table (chapter 14). -/
import Derived.Test.YtiioojlihapdaaaTkDo
import Derived.Test.YtiioojlihapdaaaTocApp
namespace Go.Proofs.Ytiioojlihapdaaa
set_option linter.unusedVariables false

theorem findO_some {l : List T.Trk} {lba : Int} : ∀ (n i : Nat), findO l lba n = some i → i < n ∧ (T.tr l i).sta ≠ 2 ∧ (T.tr l i).nx = lba
  | 0, i, h => by simp [findO] at h
  | n + 1, i, h => by
    unfold findO at h
    split at h
    · obtain rfl := Option.some.inj h
      exact ⟨by omega, by assumption⟩
    · have := findO_some n i h
      exact ⟨by omega, this.2⟩
/-- what an operation gives -/
structure Does (cap cl : Int) (fin : Bool) (l : List T.Trk) (kind a b : Int) (R : Res) : Prop where
  ok : R.code = 0 → T.Step cap cl fin l R.cl R.fin R.l
  bad : R.code ≠ 0 → R = Res.bad R.code
  app : R.code = 0 → kind = 1 → ∃ i, i < l.length ∧ (T.tr l i).sta ≠ 2 ∧ (T.tr l i).nx = a ∧ 1 ≤ b ∧ b ≤ (T.tr l i).st + (T.tr l i).len - (T.tr l i).nx ∧ R.l = l.set i (T.grown (T.tr l i) b)
  same : R.code = 0 → kind ≠ 1 → ∀ k, T.Done R.l k ↔ T.Done l k
theorem Does.ofBad {cap cl : Int} {fin : Bool} {l : List T.Trk} {kind a b : Int} (c : Int) (hc : c ≠ 0) : Does cap cl fin l kind a b (Res.bad c) :=
  ⟨fun h => absurd h hc, fun _ => rfl, fun h => absurd h hc, fun h => absurd h hc⟩
theorem doR_does {cap cl : Int} {fin : Bool} {l : List T.Trk} (hv : T.validR cap cl fin l) (kind a b : Int) (fz : Bool) : Does cap cl fin l kind a b (doR cap cl fin l kind a b fz) := by
  have hV := T.validB_true.2 hv
  have hVn : ¬ T.validB cap cl fin l = false := by rw [hV]; simp
  unfold doR
  by_cases k0 : kind = 0
  · rw [if_pos k0]
    unfold reserveR
    rw [if_neg hVn]
    by_cases hf : fin = true
    · rw [if_pos hf]; exact Does.ofBad _ (by decide)
    rw [if_neg hf]
    by_cases hp : T.okPk a b
    · rw [if_neg (not_not_intro hp)]
      by_cases hn : l.length = 99 ∨ cl = 16
      · rw [if_pos hn]; exact Does.ofBad _ (by decide)
      rw [if_neg hn]
      by_cases hx : cap - T.stN cl l < a
      · rw [if_pos hx]; exact Does.ofBad _ (by decide)
      rw [if_neg hx]
      refine ⟨fun _ => .inl ⟨by simpa using hf, rfl, rfl, a, b, hp, ?_, ?_, by omega, rfl⟩, fun h => absurd rfl h, fun _ h => by omega, fun _ _ k => ?_⟩
      · have := hv.2.2.1; omega
      · have := hv.2.2.2.2.1; omega
      · exact T.done_new _ rfl k
    · rw [if_pos hp]; exact Does.ofBad _ (by decide)
  rw [if_neg k0]
  by_cases k1 : kind = 1
  · rw [if_pos k1]
    unfold appendR
    rw [if_neg hVn]
    split
    · exact Does.ofBad _ (by decide)
    · rename_i i hi
      obtain ⟨h1, h2, h3⟩ := findO_some _ _ hi
      by_cases hp : T.okPk b (T.tr l i).pk
      · rw [if_neg (not_not_intro hp)]
        by_cases hx : (T.tr l i).st + (T.tr l i).len - (T.tr l i).nx < b
        · rw [if_pos hx]; exact Does.ofBad _ (by decide)
        rw [if_neg hx]
        exact ⟨fun _ => .inr (.inl ⟨rfl, rfl, i, b, h1, h2, hp, by omega, rfl⟩), fun h => absurd rfl h, fun _ _ => ⟨i, h1, h2, h3, hp.1, by omega, rfl⟩, fun _ h => absurd k1 h⟩
      · rw [if_pos hp]; exact Does.ofBad _ (by decide)
  rw [if_neg k1]
  by_cases k2 : kind = 2
  · rw [if_pos k2]
    unfold closeTrackR
    rw [if_neg hVn]
    by_cases hn : a < 1 ∨ (l.length : Int) < a
    · rw [if_pos hn]; exact Does.ofBad _ (by decide)
    rw [if_neg hn]
    by_cases hs : shutB l (a.toNat - 1) = false
    · rw [if_pos hs]; exact Does.ofBad _ (by decide)
    rw [if_neg hs]
    have hs' : shutB l (a.toNat - 1) = true := by simpa using hs
    unfold shutB at hs'
    obtain ⟨s1, s2⟩ := of_decide_eq_true hs'
    have hlt : a.toNat - 1 < l.length := by omega
    exact ⟨fun _ => .inr (.inr (.inl ⟨rfl, rfl, a.toNat - 1, by omega, s1, fun h => by omega, rfl⟩)), fun h => absurd rfl h, fun _ h => absurd h k1, fun _ _ k => T.done_set hlt (T.shutT (T.tr l (a.toNat - 1))) rfl rfl k⟩
  rw [if_neg k2]
  unfold closeSessR
  rw [if_neg hVn]
  by_cases hf : fin = true
  · rw [if_pos hf]; exact Does.ofBad _ (by decide)
  rw [if_neg hf]
  by_cases hu : anyP (undoneP l) l.length = true
  · rw [if_pos hu]; exact Does.ofBad _ (by decide)
  rw [if_neg hu]
  have hu' : ∀ i, i < l.length → (T.tr l i).sta = 2 := fun i hi => by
    have := anyP_false.1 (by simpa using hu) i hi
    unfold undoneP at this
    simpa using this
  by_cases hl : anyP (laterP cl l) l.length = true
  · rw [if_pos hl]
    obtain ⟨m, hm, h2⟩ := anyP_true.1 hl
    exact ⟨fun _ => .inr (.inr (.inr (.inl ⟨by simpa using hf, rfl, rfl, hu', m, hm, of_decide_eq_true h2⟩))), fun h => absurd rfl h, fun _ h => absurd h k1, fun _ _ k => Iff.rfl⟩
  rw [if_neg hl]
  by_cases hz : fz = false ∨ cl = 0
  · rw [if_pos hz]; exact Does.ofBad _ (by decide)
  rw [if_neg hz]
  refine ⟨fun _ => .inr (.inr (.inr (.inr ⟨by simpa using hf, rfl, rfl, rfl, fun h => hz (.inr h), hu', fun i hi => ?_⟩))), fun h => absurd rfl h, fun _ h => absurd h k1, fun _ _ k => Iff.rfl⟩
  have := anyP_false.1 (by simpa using hl) i hi
  unfold laterP at this
  simpa using this
theorem few_of_valid {cap cl : Int} {fin : Bool} {l : List T.Trk} (hv : T.validR cap cl fin l) : Few l := by
  refine ⟨by have := hv.2.2.1; omega, fun i hi => ?_⟩
  have h1 := hv.at hi
  have h2 := hv.2.1
  have h0 := hv.2.2.1
  have ho := hv.2.2.2.2.2.1 i hi
  obtain ⟨o1, o2, o3, o4, o5, o6, o7, o8, o9, o10, o11, o12, o13, o14⟩ := ho
  have hs : 1 ≤ (T.tr l i).ses := by
    have := T.okR.mono hv.2.2.2.2.2.1 0 (i + 1) (by omega)
    rw [Nat.zero_add, T.sB_zero, T.sB_succ] at this
    exact this
  unfold smT sm
  refine ⟨⟨by omega, by omega⟩, ⟨by omega, by omega⟩, ⟨by omega, by omega⟩, ⟨by omega, by omega⟩, ⟨by omega, by omega⟩, ⟨by omega, by omega⟩, ⟨by omega, by omega⟩⟩
end Go.Proofs.Ytiioojlihapdaaa
