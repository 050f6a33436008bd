/- Tables of contents (chapter 14): the sessions and their tracks (plain). -/
import Derived.Test.YtiioojlihapdaaaTocSess
import Derived.Test.YtiioojlihapdaaaQ
namespace Go.Proofs.Ytiioojlihapdaaa.T
set_option linter.unusedVariables false

/-- the tracks of a session among the first 'n' -/
def of (l : List Trk) (s : Int) : Nat → List Trk
  | 0 => []
  | n + 1 => if (tr l n).ses = s then of l s n ++ [tr l n] else of l s n
theorem of_mem {l : List Trk} {s : Int} {x : Trk} : ∀ n, x ∈ of l s n → ∃ j, j < n ∧ x = tr l j
  | 0, h => by simp [of] at h
  | n + 1, h => by
    unfold of at h
    split at h
    · rcases List.mem_append.1 h with h | h
      · obtain ⟨j, h1, h2⟩ := of_mem n h; exact ⟨j, by omega, h2⟩
      · exact ⟨n, by omega, by simpa using h⟩
    · obtain ⟨j, h1, h2⟩ := of_mem n h; exact ⟨j, by omega, h2⟩
theorem of_len (l : List Trk) (s : Int) : ∀ n, (of l s n).length ≤ n
  | 0 => by simp [of]
  | n + 1 => by have := of_len l s n; unfold of; split <;> simp <;> omega
theorem tr_app_lt {F : List Trk} {x : Trk} {i : Nat} (h : i < F.length) : tr (F ++ [x]) i = tr F i := by simp [tr, List.getElem?_append_left h]
theorem tr_app_eq (F : List Trk) (x : Trk) : tr (F ++ [x]) F.length = x := by simp [tr]
theorem tr_mem {F : List Trk} {i : Nat} (h : i < F.length) : tr F i ∈ F := by simp [tr, h]
/-- where a list of tracks ends -/
def lastE (F : List Trk) : Int := (tr F (F.length - 1)).st + (tr F (F.length - 1)).len
theorem lastE_app (F : List Trk) (x : Trk) : lastE (F ++ [x]) = x.st + x.len := by
  unfold lastE
  rw [show (F ++ [x]).length - 1 = F.length by simp, tr_app_eq]
/-- one track behind the other -/
def Ch (F : List Trk) : Prop := ∀ i, i + 1 < F.length → (tr F (i + 1)).num = (tr F i).num + 1 ∧ (tr F (i + 1)).st = (tr F i).st + (tr F i).len
theorem Ch.one (x : Trk) : Ch [x] := fun i h => by simp at h
theorem Ch.app {F : List Trk} {x : Trk} (h : Ch F) (hn : 0 < F.length → x.num = (tr F (F.length - 1)).num + 1 ∧ x.st = lastE F) : Ch (F ++ [x]) := fun i hi => by
  rw [List.length_append, List.length_singleton] at hi
  by_cases e : i + 1 < F.length
  · rw [tr_app_lt e, tr_app_lt (by omega)]; exact h i e
  · have e2 : i + 1 = F.length := by omega
    rw [e2, tr_app_eq, tr_app_lt (by omega)]
    have := hn (by omega)
    unfold lastE at this
    rwa [show F.length - 1 = i by omega] at this
abbrev S1 (cl : Int) (l : List Trk) (n j : Nat) : Int × Int × Bool := ((sess cl l n)[j]?).getD (0, 0, false)
/-- what holds when 'n' tracks have come -/
structure Inv (cl : Int) (l : List Trk) (n : Nat) : Prop where
  a : ∀ j, j < (sess cl l n).length → 0 < (of l (j + 1) n).length ∧ Ch (of l (j + 1) n) ∧ S1 cl l n j = ((tr (of l (j + 1) n) 0).st, lastE (of l (j + 1) n) - (tr (of l (j + 1) n) 0).st, decide (((j : Nat) : Int) + 1 ≤ cl))
  b : 0 < (sess cl l n).length → (tr (of l 1 n) 0).st = 0
  c : ∀ j, j + 1 < (sess cl l n).length → (tr (of l (j + 2) n) 0).st = lastE (of l (j + 1) n) + 16
  d : ∀ j, (sess cl l n).length ≤ j → of l (j + 1) n = []
  e : 0 < n → 0 < (sess cl l n).length ∧ ((sess cl l n).length : Int) = sB l n ∧ lastE (of l (sess cl l n).length n) = eB l n ∧ (tr (of l (sess cl l n).length n) ((of l (sess cl l n).length n).length - 1)).num = n
  f : n = 0 → (sess cl l n).length = 0
theorem of_new {l : List Trk} {s : Int} {n : Nat} (h : (tr l n).ses = s) : of l s (n + 1) = of l s n ++ [tr l n] := by rw [of, if_pos h]
theorem of_old {l : List Trk} {s : Int} {n : Nat} (h : (tr l n).ses ≠ s) : of l s (n + 1) = of l s n := by rw [of, if_neg h]
theorem inv_zero (cl : Int) (l : List Trk) : Inv cl l 0 :=
  ⟨fun j h => by simp [sess] at h, fun h => by simp [sess] at h, fun j h => by simp [sess] at h, fun j _ => rfl, fun h => by omega, fun _ => rfl⟩
theorem inv_succ {cap cl : Int} {l : List Trk} {n : Nat} (hr : ∀ i, i < n + 1 → okR cap cl l i) (h : Inv cl l n) : Inv cl l (n + 1) := by
  obtain ⟨r1, r2, _, _, r5, _⟩ := hr n (by omega)
  obtain ⟨K, hK⟩ : ∃ K, K = (sess cl l n).length := ⟨_, rfl⟩
  by_cases hn : n = 0 ∨ sB l n ≠ (tr l n).ses
  · have hs := sess_new (cl := cl) hn
    have hL : (sess cl l (n + 1)).length = K + 1 := by rw [hs, List.length_append, List.length_singleton, hK]
    have hses : (tr l n).ses = ((K : Nat) : Int) + 1 := by
      by_cases h0 : n = 0
      · rw [if_neg (by omega)] at r2
        have := h.f h0
        rw [r2, h0, sB_zero]; omega
      · have := (h.e (by omega)).2.1
        split at r2 <;> omega
    have hst : (tr l n).st = if n = 0 then 0 else eB l n + 16 := by
      by_cases h0 : n = 0
      · rw [if_pos h0]; rw [if_neg (by omega)] at r5
        rw [r5, h0, eB_zero]
      · rw [if_neg h0]; rw [if_pos (by
          refine ⟨by omega, ?_⟩
          have := (h.e (by omega)).2.1
          omega)] at r5
        exact r5
    have hold : ∀ j, j < K → of l (((j : Nat) : Int) + 1) (n + 1) = of l (((j : Nat) : Int) + 1) n := fun j hj => of_old (by omega)
    have hnew : of l (((K : Nat) : Int) + 1) (n + 1) = [tr l n] := by rw [of_new hses, h.d K (by omega)]; rfl
    refine ⟨fun j hj => ?_, fun hj => ?_, fun j hj => ?_, fun j hj => ?_, fun _ => ?_, fun h => by omega⟩
    · rw [hL] at hj
      by_cases hjk : j < K
      · rw [hold j hjk]
        have ha := h.a j (by omega)
        refine ⟨ha.1, ha.2.1, ?_⟩
        rw [← ha.2.2]
        unfold S1
        rw [hs, List.getElem?_append_left (by omega)]
      · obtain rfl : j = K := by omega
        rw [hnew]
        refine ⟨by simp, Ch.one _, ?_⟩
        unfold S1
        rw [hs, hK, List.getElem?_append_right (Nat.le_refl _), Nat.sub_self]
        simp only [List.getElem?_cons_zero, Option.getD_some]
        rw [hses, hK]
        rfl
    · by_cases hjk : 0 < K
      · have := hold 0 hjk
        rw [show (((0 : Nat) : Int) + 1) = 1 by rfl] at this
        rw [this]; exact h.b (by omega)
      · have h0 : K = 0 := by omega
        have hn0 : n = 0 := by
          by_cases e : n = 0
          · exact e
          · have := (h.e (by omega)).1; omega
        rw [h0] at hnew
        rw [show (((0 : Nat) : Int) + 1) = 1 by rfl] at hnew
        rw [hnew]
        show (tr l n).st = 0
        rw [hst, if_pos hn0]
    · rw [hL] at hj
      by_cases hjk : j + 1 < K
      · have e1 := hold j (by omega)
        have e2 := hold (j + 1) hjk
        rw [show (((j + 1 : Nat) : Int) + 1) = (j : Int) + 2 by omega] at e2
        rw [e1, e2]; exact h.c j (by omega)
      · have e1 := hold j (by omega)
        have hKj : K = j + 1 := by omega
        rw [hKj, show (((j + 1 : Nat) : Int) + 1) = (j : Int) + 2 by omega] at hnew
        rw [e1, hnew]
        show (tr l n).st = _
        have hn0 : n ≠ 0 := fun e => by have := h.f e; omega
        have he := (h.e (by omega)).2.2.1
        rw [← hK, hKj, show (((j + 1 : Nat) : Int)) = (j : Int) + 1 by omega] at he
        rw [hst, if_neg hn0, he]
    · rw [hL] at hj
      rw [of_old (by omega)]
      exact h.d j (by omega)
    · rw [hL, sB_succ, eB_succ]
      rw [show (((K + 1 : Nat) : Int)) = (K : Int) + 1 by omega, hnew]
      refine ⟨by omega, hses.symm, rfl, ?_⟩
      show (tr l n).num = _
      omega
  · have hn0 : n ≠ 0 := fun e => hn (.inl e)
    have hse : (tr l n).ses = sB l n := by
      by_cases e : sB l n = (tr l n).ses
      · exact e.symm
      · exact (hn (.inr e)).elim
    obtain ⟨e1, e2, e3, e4⟩ := h.e (by omega)
    rw [← hK] at e1 e2 e3 e4
    have hst : (tr l n).st = eB l n := by rw [if_neg (by omega)] at r5; exact r5
    have hsess : sess cl l (n + 1) = (sess cl l n).set (K - 1) ((S1 cl l n (K - 1)).1, (tr l n).st + (tr l n).len - (S1 cl l n (K - 1)).1, (S1 cl l n (K - 1)).2.2) := by rw [sess, if_neg hn, ← hK]
    have hL : (sess cl l (n + 1)).length = K := by rw [hsess, List.length_set, hK]
    have hold : ∀ j, j + 1 < K → of l (((j : Nat) : Int) + 1) (n + 1) = of l (((j : Nat) : Int) + 1) n := fun j hj => of_old (by omega)
    obtain ⟨k, hk⟩ : ∃ k, K = k + 1 := ⟨K - 1, by omega⟩
    have hKs : ((K : Nat) : Int) = (k : Int) + 1 := by omega
    have hnew : of l ((k : Int) + 1) (n + 1) = of l ((k : Int) + 1) n ++ [tr l n] := of_new (by omega)
    have ha := h.a k (by omega)
    rw [hKs] at e3 e4
    have h0 : tr (of l ((k : Int) + 1) n ++ [tr l n]) 0 = tr (of l ((k : Int) + 1) n) 0 := tr_app_lt ha.1
    refine ⟨fun j hj => ?_, fun hj => ?_, fun j hj => ?_, fun j hj => ?_, fun _ => ?_, fun h => by omega⟩
    · rw [hL] at hj
      by_cases hjk : j + 1 < K
      · rw [hold j hjk]
        have hb := h.a j (by omega)
        refine ⟨hb.1, hb.2.1, ?_⟩
        rw [← hb.2.2]
        unfold S1
        rw [hsess, List.getElem?_set_ne (by omega)]
      · obtain rfl : j = k := by omega
        rw [hnew, h0, lastE_app]
        refine ⟨by simp, ha.2.1.app (fun _ => ⟨by rw [e4, r1], by rw [hst, e3]⟩), ?_⟩
        have hS := ha.2.2
        unfold S1 at hS ⊢
        rw [hsess, show K - 1 = j by omega, List.getElem?_set_self (by omega)]
        simp only [Option.getD_some]
        unfold S1
        rw [hS]
    · by_cases hjk : 1 < K
      · have := hold 0 (by omega)
        rw [show (((0 : Nat) : Int) + 1) = 1 by rfl] at this
        rw [this]; exact h.b (by omega)
      · have hk0 : k = 0 := by omega
        subst hk0
        rw [show (((0 : Nat) : Int) + 1) = 1 by rfl] at hnew h0
        rw [hnew, h0]; exact h.b (by omega)
    · rw [hL] at hj
      have e5 := hold j hj
      by_cases hjk : j + 2 < K
      · have e6 := hold (j + 1) hjk
        rw [show (((j + 1 : Nat) : Int) + 1) = (j : Int) + 2 by omega] at e6
        rw [e5, e6]; exact h.c j (by omega)
      · have hkj : k = j + 1 := by omega
        rw [hkj, show (((j + 1 : Nat) : Int) + 1) = (j : Int) + 2 by omega] at hnew h0
        rw [e5, hnew, h0]; exact h.c j (by omega)
    · rw [hL] at hj
      rw [of_old (by omega)]
      exact h.d j (by omega)
    · rw [hL, sB_succ, eB_succ, hKs, hnew, lastE_app]
      refine ⟨by omega, by omega, rfl, ?_⟩
      rw [show (of l ((k : Int) + 1) n ++ [tr l n]).length - 1 = (of l ((k : Int) + 1) n).length by simp, tr_app_eq]
      omega
theorem inv_all {cap cl : Int} {l : List Trk} : ∀ n, (∀ i, i < n → okR cap cl l i) → Inv cl l n
  | 0, _ => inv_zero cl l
  | n + 1, h => inv_succ h (inv_all n (fun i hi => h i (by omega)))
theorem eB_nonneg {cap cl : Int} {l : List Trk} : ∀ n, (∀ i, i < n → okR cap cl l i) → 0 ≤ eB l n
  | 0, _ => by rw [eB_zero]; omega
  | n + 1, h => by
    have h1 := eB_nonneg n (fun i hi => h i (by omega))
    have h2 := (h n (by omega)).next
    omega
/-- what is known of a track of a valid table -/
theorem tr_bd {cap cl : Int} {fin : Bool} {l : List Trk} (hv : validR cap cl fin l) {m : Nat} (hm : m < l.length) : (tr l m).num = m + 1 ∧ 0 ≤ (tr l m).st ∧ 1 ≤ (tr l m).len ∧ (tr l m).st + (tr l m).len ≤ cap := by
  have hr := hv.2.2.2.2.2.1
  obtain ⟨r1, _, _, _, r5, r6, r7, _⟩ := hr m hm
  have h0 := eB_nonneg m (fun i hi => hr i (by omega))
  split at r5 <;> omega
theorem sess_of {cap cl : Int} {fin : Bool} {l : List Trk} (hv : validR cap cl fin l) {j : Nat} (hj : j < (sess cl l l.length).length) : Q.Sess (of l (j + 1) l.length) := by
  have hI := inv_all (cl := cl) l.length hv.2.2.2.2.2.1
  obtain ⟨a1, a2, _⟩ := hI.a j hj
  have hlen := of_len l (j + 1) l.length
  have hcap := hv.2.1
  have h99 := hv.2.2.1
  refine ⟨a1, by omega, fun i hi => ?_⟩
  obtain ⟨m, hm, he⟩ := of_mem _ (tr_mem hi)
  have hb := tr_bd hv hm
  rw [← he] at hb
  unfold Q.okS
  refine ⟨by omega, by omega, fun h => ?_, ?_, by omega, by omega, by omega⟩
  · have := (a2 (i - 1) (by omega)).1
    rwa [show i - 1 + 1 = i by omega] at this
  · cases i with
    | zero => rw [eB_zero]; omega
    | succ i => rw [eB_succ]; have := (a2 i hi).2; omega
/-- the sessions of a valid table -/
theorem lead {cap cl : Int} {fin : Bool} {l : List Trk} (hv : validR cap cl fin l) {j : Nat} (hj : j < (sess cl l l.length).length) :
    (S1 cl l l.length j).1 = (tr (of l (j + 1) l.length) 0).st ∧ (S1 cl l l.length j).1 + (S1 cl l l.length j).2.1 = Q.endL (of l (j + 1) l.length) ∧ (S1 cl l l.length j).2.2 = decide (((j : Nat) : Int) + 1 ≤ cl) ∧
    1 ≤ (S1 cl l l.length j).2.1 ∧ 0 ≤ (S1 cl l l.length j).1 ∧ (S1 cl l l.length j).1 + (S1 cl l l.length j).2.1 ≤ cap ∧ (j = 0 → (S1 cl l l.length j).1 = 0) ∧
    (0 < j → (S1 cl l l.length j).1 = (S1 cl l l.length (j - 1)).1 + (S1 cl l l.length (j - 1)).2.1 + 16) := by
  have hI := inv_all (cl := cl) l.length hv.2.2.2.2.2.1
  obtain ⟨a1, a2, a3⟩ := hI.a j hj
  have hS := sess_of hv hj
  have hen := hS.ends (i := 0) a1
  have hE : Q.endL (of l (j + 1) l.length) = lastE (of l (j + 1) l.length) := rfl
  have hat := hS.at (i := 0) a1
  obtain ⟨m, hm, he⟩ := of_mem _ (tr_mem (show (of l (j + 1) l.length).length - 1 < (of l (j + 1) l.length).length by omega))
  have hb := tr_bd hv hm
  rw [← he] at hb
  rw [a3]
  simp only
  refine ⟨trivial, by rw [hE]; omega, trivial, ?_, by omega, ?_, fun h => ?_, fun h => ?_⟩
  · unfold Q.en at hen; rw [hE] at hen; omega
  · unfold lastE; omega
  · subst h
    have := hI.b (by omega)
    simpa using this
  · obtain ⟨k, rfl⟩ : ∃ k, j = k + 1 := ⟨j - 1, by omega⟩
    rw [show k + 1 - 1 = k by omega, (hI.a k (by omega)).2.2]
    have := hI.c k (by omega)
    rw [show (((k + 1 : Nat) : Int) + 1) = (k : Int) + 2 by omega, this]
    simp only; omega
theorem sess_many {cap cl : Int} {fin : Bool} {l : List Trk} (hv : validR cap cl fin l) : cl ≤ (sess cl l l.length).length := by
  have hI := inv_all (cl := cl) l.length hv.2.2.2.2.2.1
  have h7 := hv.2.2.2.2.2.2.1
  by_cases h0 : 0 < l.length
  · rw [if_pos h0] at h7
    have := (hI.e h0).2.1
    omega
  · rw [if_neg h0] at h7; omega
end Go.Proofs.Ytiioojlihapdaaa.T
