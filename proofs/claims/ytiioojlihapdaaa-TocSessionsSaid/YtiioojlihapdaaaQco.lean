/- Chapter 10: what Collect returns, plain: package and reference agree. -/
import Derived.Test.YtiioojlihapdaaaQt
import Derived.Test.YtiioojlihapdaaaQs
namespace Go.Proofs.Ytiioojlihapdaaa.W10
open Go.RowKit
set_option linter.unusedVariables false

/-- the block of an entry; 0, if it has none -/
def lbB (q : Q.Fr) : Bool := vB q.am q.as q.af
def lbV (q : Q.Fr) : Int := if lbB q = true then nmb q.am q.as q.af - 150 else 0
def lbE (q : Q.Fr) : Int := if lbB q = true then 0 else 1
theorem lbV_bd (q : Q.Fr) : -150 ≤ lbV q ∧ lbV q ≤ 449849 := by
  unfold lbV
  split
  · rename_i h; have := nmb_bd h; omega
  · omega
def outL (l : List Q.Fr) : Int := lbV (fr l 2)
def stL (l : List Q.Fr) (i : Nat) : Int := lbV (fr l (i + 3))
def lnL (l : List Q.Fr) (k i : Nat) : Int := (if i + 1 < k then stL l (i + 1) else outL l) - stL l i
def tkE (l : List Q.Fr) (k i : Nat) : T.Trk := ⟨(fr l (i + 3)).pt, 0, stL l i, lnL l k i, 0, 0, 0⟩
def rkE (l : List Q.Fr) (k i : Nat) : T.Trk := ⟨IntKind.i64.wrap ((fr l 0).am + i), 0, stL l i, lnL l k i, 0, 0, 0⟩
/-- the first 'k' tracks, while they are collected; the reference's, of 'm' -/
def tkL (l : List Q.Fr) (k : Nat) : List T.Trk := (List.range k).map (tkE l k)
def rkL (l : List Q.Fr) (m k : Nat) : List T.Trk := (List.range k).map (rkE l m)
def startsL (l : List Q.Fr) (k : Nat) : List Int := (List.range k).map (stL l)
theorem tkL_length (l : List Q.Fr) (k : Nat) : (tkL l k).length = k := by simp [tkL]
theorem rkL_length (l : List Q.Fr) (m k : Nat) : (rkL l m k).length = k := by simp [rkL]
theorem startsL_length (l : List Q.Fr) (k : Nat) : (startsL l k).length = k := by simp [startsL]
theorem startsL_succ (l : List Q.Fr) (k : Nat) : startsL l (k + 1) = startsL l k ++ [stL l k] := by unfold startsL; rw [List.range_succ, List.map_append]; rfl
theorem rkL_succ (l : List Q.Fr) (m k : Nat) : rkL l m (k + 1) = rkL l m k ++ [rkE l m k] := by unfold rkL; rw [List.range_succ, List.map_append]; rfl
theorem tr_tk (l : List Q.Fr) (k i : Nat) (h : i < k) : T.tr (tkL l k) i = tkE l k i := by simp [T.tr, tkL, h]
theorem tr_rk (l : List Q.Fr) (m k i : Nat) (h : i < k) : T.tr (rkL l m k) i = rkE l m i := by simp [T.tr, rkL, h]
/-- one track more: the one before it ends where this one begins -/
theorem tkL_first (l : List Q.Fr) : tkL l 1 = [(⟨(fr l 3).pt, 0, stL l 0, outL l - stL l 0, 0, 0, 0⟩ : T.Trk)] := rfl
theorem tkL_succ (l : List Q.Fr) (k : Nat) : tkL l (k + 2) = (tkL l (k + 1) ++ [(⟨(fr l (k + 1 + 3)).pt, 0, stL l (k + 1), outL l - stL l (k + 1), 0, 0, 0⟩ : T.Trk)]).set k (⟨(fr l (k + 3)).pt, 0, stL l k, stL l (k + 1) - stL l k, 0, 0, 0⟩ : T.Trk) := by
  have ht : ∀ k i, i < k → (tkL l k)[i]? = some (tkE l k i) := fun k i h => by unfold tkL; rw [List.getElem?_map, List.getElem?_range h]; rfl
  apply List.ext_getElem?
  intro i
  by_cases hi : i < k + 2
  · rw [ht _ _ hi]
    by_cases hk : k = i
    · subst hk
      rw [List.getElem?_set_self (by rw [List.length_append, tkL_length, List.length_singleton]; omega)]
      simp [tkE, lnL]
    · rw [List.getElem?_set_ne hk]
      by_cases hk1 : i = k + 1
      · subst hk1
        rw [List.getElem?_append_right (by rw [tkL_length]; omega), tkL_length, Nat.sub_self]
        simp [tkE, lnL]
      · rw [List.getElem?_append_left (by rw [tkL_length]; omega), ht _ _ (by omega)]
        simp [tkE, lnL, show i + 1 < k + 2 by omega, show i + 1 < k + 1 by omega]
  · rw [List.getElem?_eq_none (by rw [tkL_length]; omega), List.getElem?_eq_none (by simp [tkL_length]; omega)]
/-- the frames are those of a session -/
def colB (l : List Q.Fr) : Prop := 4 ≤ l.length ∧ (∀ i, i < l.length - 3 → lbB (fr l (i + 3)) = true) ∧ Q.entR (tkL l (l.length - 3)) (fr l 0).ctl = (l, 0)
def rcolB (l : List Q.Fr) : Prop := 4 ≤ l.length ∧ l.length ≤ 102 ∧ Q.entR (rkL l (l.length - 3) (l.length - 3)) (fr l 0).ctl = (l, 0)
open Classical in
noncomputable def colR (l : List Q.Fr) : List Int × Int × Int := if colB l then (startsL l (l.length - 3), outL l, 0) else ([], 0, 10)
theorem entR_ok {t : List T.Trk} {c : Int} {l : List Q.Fr} (h : Q.entR t c = (l, 0)) : Q.Sess t ∧ 0 ≤ c ∧ c ≤ 15 ∧ Q.entL t c t.length = l := by
  unfold Q.entR at h
  split at h
  · simp at h
  · rename_i hc
    simp only [not_or] at hc
    obtain ⟨h1, h2, h3⟩ := hc
    refine ⟨Q.sessB_true.1 (by simpa using h1), by omega, by omega, ?_⟩
    simpa using h
theorem entR_len {t : List T.Trk} {c : Int} (h : (Q.entR t c).2 = 0) : (Q.entR t c).1.length = t.length + 3 := by
  unfold Q.entR at h ⊢
  split
  · rename_i hc; rw [if_pos hc] at h; simp at h
  · rw [Q.entL_length]
theorem fr_ent (t : List T.Trk) (c : Int) (n i : Nat) (hi : i < n) : fr (Q.entL t c n) (i + 3) = Q.entB c (T.tr t i).num (T.tr t i).st := by
  unfold fr atD Q.entL
  rw [List.getElem?_append_right (by simp), show i + 3 - [Q.entF c 160 (T.tr t 0).num 0 0, Q.entF c 161 (T.tr t (t.length - 1)).num 0 0, Q.entB c 162 (Q.endL t)].length = i by simp]
  simp [Q.entT, hi]
theorem fr_ent0 (t : List T.Trk) (c : Int) (n : Nat) : fr (Q.entL t c n) 0 = Q.entF c 160 (T.tr t 0).num 0 0 := rfl
theorem fr_ent2 (t : List T.Trk) (c : Int) (n : Nat) : fr (Q.entL t c n) 2 = Q.entB c 162 (Q.endL t) := rfl
theorem wrap_small {n : Int} (h0 : 0 ≤ n) (h1 : n ≤ 1000) : IntKind.i64.wrap n = n := IntWalk.i64_in _ (by omega)
/-- where the numbers agree, the tracks do -/
theorem tk_eq_rk {l : List Q.Fr} {m : Nat} (h : ∀ i, i < m → (fr l (i + 3)).pt = IntKind.i64.wrap ((fr l 0).am + i)) : tkL l m = rkL l m m := by
  apply List.ext_getElem
  · simp [tkL, rkL]
  · intro i h1 h2
    have hi : i < m := by simpa [tkL] using h1
    simp [tkL, rkL, tkE, rkE, h i hi]
theorem col_iff (l : List Q.Fr) : colB l ↔ rcolB l := by
  constructor
  · rintro ⟨h1, h2, h3⟩
    obtain ⟨hs, c0, c1, hl⟩ := entR_ok h3
    rw [tkL_length] at hl
    have hlen := hs.2.1
    rw [tkL_length] at hlen
    obtain ⟨m, hm⟩ : ∃ m, m = l.length - 3 := ⟨_, rfl⟩
    rw [← hm] at hs hl h2 h3 hlen
    have e0 : (fr l 0).am = (T.tr (tkL l m) 0).num := by
      have := congrArg (fun x => (fr x 0).am) hl
      simp only [fr_ent0, Q.entF] at this
      exact this.symm
    have key : tkL l m = rkL l m m := tk_eq_rk fun i hi => by
      have h4 := (hs.mono 0 i (by rw [tkL_length]; omega)).1
      rw [Nat.zero_add, tr_tk l m i hi] at h4
      have h5 := hs.at (i := i) (by rw [tkL_length]; exact hi)
      rw [tr_tk l m i hi] at h5
      rw [e0]
      have h6 : (fr l (i + 3)).pt = (T.tr (tkL l m) 0).num + i := h4
      have h7 : 1 ≤ (fr l (i + 3)).pt ∧ (fr l (i + 3)).pt ≤ 99 := ⟨h5.1, h5.2.1⟩
      rw [← h6, wrap_small (by omega) (by omega)]
    refine ⟨h1, by omega, ?_⟩
    rw [← hm, ← key]; exact h3
  · rintro ⟨h1, h2, h3⟩
    obtain ⟨hs, c0, c1, hl⟩ := entR_ok h3
    rw [rkL_length] at hl
    obtain ⟨m, hm⟩ : ∃ m, m = l.length - 3 := ⟨_, rfl⟩
    rw [← hm] at hs hl h3
    have hf : ∀ i, i < m → fr l (i + 3) = Q.entB (fr l 0).ctl (T.tr (rkL l m m) i).num (T.tr (rkL l m m) i).st := fun i hi => by
      conv => lhs; rw [← hl]
      exact fr_ent _ _ _ _ hi
    have key : tkL l m = rkL l m m := tk_eq_rk fun i hi => by
      have := congrArg Q.Fr.pt (hf i hi)
      rw [tr_rk l m m i hi] at this
      exact this
    refine ⟨h1, fun i hi => ?_, by rw [← hm, key]; exact h3⟩
    rw [← hm] at hi
    have h5 := hs.at (i := i) (by rw [rkL_length]; exact hi)
    rw [hf i hi]
    unfold lbB
    exact vB_t (Q.parts_valid (by omega) (by omega))
theorem colR_yes {l : List Q.Fr} (h : colB l) : colR l = (startsL l (l.length - 3), outL l, 0) := if_pos h
theorem colR_no {l : List Q.Fr} (h : ¬ colB l) : colR l = ([], 0, 10) := if_neg h
theorem lb_ent {c pt n : Int} (h0 : -150 ≤ n) (h1 : n ≤ 449849) : lbB (Q.entB c pt n) = true ∧ lbV (Q.entB c pt n) = n := by
  have hb : lbB (Q.entB c pt n) = true := vB_t (Q.parts_valid (n := n + 150) (by omega) (by omega))
  refine ⟨hb, ?_⟩
  unfold lbV
  rw [if_pos hb]
  have := Q.parts (n + 150)
  show nmb (Q.mM (n + 150)) (Q.mS (n + 150)) (Q.mF (n + 150)) - 150 = n
  unfold nmb
  omega
theorem entL_congr {X t : List T.Trk} {c : Int} (hl : X.length = t.length) (h0 : 0 < t.length) (h : ∀ i, i < t.length → (T.tr X i).num = (T.tr t i).num ∧ (T.tr X i).st = (T.tr t i).st) (he : Q.endL X = Q.endL t) : Q.entL X c t.length = Q.entL t c t.length := by
  unfold Q.entL
  rw [hl, he, (h 0 h0).1, (h (t.length - 1) (by omega)).1]
  congr 1
  unfold Q.entT
  apply List.map_congr_left
  intro i hi
  have := h i (List.mem_range.1 hi)
  rw [this.1, this.2]
theorem endL_bd {t : List T.Trk} (hs : Q.Sess t) : 0 ≤ Q.endL t ∧ Q.endL t ≤ 449849 := by
  have h1 := hs.1
  have := hs.at (i := t.length - 1) (by omega)
  unfold Q.endL Q.en
  omega
/-- what Entries gave is collected -/
theorem col_ent {t : List T.Trk} {c : Int} (hs : Q.Sess t) (h0 : 0 ≤ c) (h1 : c ≤ 15) : colR (Q.entL t c t.length) = ((List.range t.length).map (fun i => (T.tr t i).st), Q.endL t, 0) := by
  have hn1 := hs.1
  have hn2 := hs.2.1
  have hL : (Q.entL t c t.length).length - 3 = t.length := by rw [Q.entL_length]; omega
  have hst : ∀ i, i < t.length → stL (Q.entL t c t.length) i = (T.tr t i).st ∧ lbB (fr (Q.entL t c t.length) (i + 3)) = true := fun i hi => by
    have h5 := hs.at hi
    unfold stL
    rw [fr_ent t c t.length i hi]
    have := lb_ent (c := c) (pt := (T.tr t i).num) (n := (T.tr t i).st) (by omega) (by omega)
    exact ⟨this.2, this.1⟩
  have hout : outL (Q.entL t c t.length) = Q.endL t := by
    have := endL_bd hs
    unfold outL
    rw [fr_ent2]
    exact (lb_ent (by omega) (by omega)).2
  have hE : ∀ i, i < t.length → tkE (Q.entL t c t.length) t.length i = ⟨(T.tr t i).num, 0, (T.tr t i).st, (if i + 1 < t.length then (T.tr t (i + 1)).st else Q.endL t) - (T.tr t i).st, 0, 0, 0⟩ := fun i hi => by
    unfold tkE lnL
    rw [fr_ent t c t.length i hi, (hst i hi).1, hout]
    by_cases h : i + 1 < t.length
    · rw [if_pos h, if_pos h, (hst (i + 1) h).1]; rfl
    · rw [if_neg h, if_neg h]; rfl
  have htr : ∀ i, i < t.length → T.tr (tkL (Q.entL t c t.length) t.length) i = ⟨(T.tr t i).num, 0, (T.tr t i).st, (if i + 1 < t.length then (T.tr t (i + 1)).st else Q.endL t) - (T.tr t i).st, 0, 0, 0⟩ := fun i hi => by rw [tr_tk _ _ _ hi, hE i hi]
  have hnx : ∀ i, i < t.length → (T.tr t i).st < (if i + 1 < t.length then (T.tr t (i + 1)).st else Q.endL t) ∧ (if i + 1 < t.length then (T.tr t (i + 1)).st else Q.endL t) ≤ 449849 := fun i hi => by
    have h5 := hs.at hi
    have h6 := endL_bd hs
    by_cases h : i + 1 < t.length
    · rw [if_pos h]
      have h7 := (hs.mono i 1 h).2 (by omega)
      have h8 := hs.at h
      unfold Q.en at h7
      omega
    · rw [if_neg h]
      have h7 : Q.endL t = Q.en t i := by unfold Q.endL; rw [show t.length - 1 = i by omega]
      rw [h7]; unfold Q.en; omega
  have hS : Q.Sess (tkL (Q.entL t c t.length) t.length) := by
    refine ⟨by rw [tkL_length]; omega, by rw [tkL_length]; omega, fun i hi => ?_⟩
    rw [tkL_length] at hi
    have h5 := hs.at hi
    have h6 := hnx i hi
    unfold Q.okS
    rw [htr i hi]
    refine ⟨h5.1, h5.2.1, fun h => ?_, ?_, by simp only; omega, by simp only; omega, by simp only; omega⟩
    · rw [htr (i - 1) (by omega)]
      exact (hs.2.2 i hi).2.2.1 h
    · cases i with
      | zero => rw [T.eB_zero]; exact h5.2.2.1
      | succ j =>
        rw [T.eB_succ, htr j (by omega), if_pos hi]
        simp only; omega
  have hEnd : Q.endL (tkL (Q.entL t c t.length) t.length) = Q.endL t := by
    unfold Q.endL Q.en
    rw [tkL_length, htr (t.length - 1) (by omega), if_neg (by omega)]
    unfold Q.endL Q.en
    simp only; omega
  have hEnt : Q.entL (tkL (Q.entL t c t.length) t.length) c t.length = Q.entL t c t.length :=
    entL_congr (tkL_length _ _) (by omega) (fun i hi => by rw [htr i hi]; exact ⟨rfl, rfl⟩) hEnd
  have hcol : colB (Q.entL t c t.length) := by
    refine ⟨by rw [Q.entL_length]; omega, fun i hi => (hst i (by omega)).2, ?_⟩
    rw [hL, fr_ent0]
    unfold Q.entR
    rw [if_neg (by
      simp only [Q.entF, not_or]
      exact ⟨by rw [Q.sessB_true.2 hS]; decide, by omega, by omega⟩)]
    rw [tkL_length]
    show (Q.entL (tkL (Q.entL t c t.length) t.length) c t.length, (0 : Int)) = _
    rw [hEnt]
  rw [colR_yes hcol, hL, hout]
  congr 1
  unfold startsL
  exact List.map_congr_left fun i hi => (hst i (List.mem_range.1 hi)).1
/-- a frame of integers of 64 bits -/
def WfF (q : Q.Fr) : Prop := In64 q.ctl ∧ In64 q.trk ∧ In64 q.pt ∧ In64 q.rm ∧ In64 q.rs ∧ In64 q.rf ∧ In64 q.am ∧ In64 q.as ∧ In64 q.af
theorem wf_entB {c pt n : Int} (hc : 0 ≤ c ∧ c ≤ 15) (hp : 0 ≤ pt ∧ pt ≤ 200) (h0 : -150 ≤ n) (h1 : n ≤ 449849) : WfF (Q.entB c pt n) := by
  have := Q.parts_valid (n := n + 150) (by omega) (by omega)
  unfold WfF In64 Q.entB Q.entF
  simp only
  omega
theorem wf_ent {t : List T.Trk} {c : Int} (hs : Q.Sess t) (h0 : 0 ≤ c) (h1 : c ≤ 15) : ∀ i, i < (Q.entL t c t.length).length → WfF (fr (Q.entL t c t.length) i) := by
  intro i hi
  rw [Q.entL_length] at hi
  have hn := hs.1
  have ha := hs.at (i := 0) (by omega)
  have hb := hs.at (i := t.length - 1) (by omega)
  have he := endL_bd hs
  match i, hi with
  | 0, _ =>
    show WfF (Q.entF c 160 (T.tr t 0).num 0 0)
    unfold WfF In64 Q.entF
    simp only; omega
  | 1, _ =>
    show WfF (Q.entF c 161 (T.tr t (t.length - 1)).num 0 0)
    unfold WfF In64 Q.entF
    simp only; omega
  | 2, _ =>
    show WfF (Q.entB c 162 (Q.endL t))
    exact wf_entB ⟨h0, h1⟩ (by omega) (by omega) (by omega)
  | j + 3, hj =>
    have hd := hs.at (i := j) (by omega)
    rw [fr_ent t c t.length j (by omega)]
    exact wf_entB ⟨h0, h1⟩ (by omega) (by omega) (by omega)
end Go.Proofs.Ytiioojlihapdaaa.W10
