/- The law 'masterdisc/masterdisclaw12.MediumClones' returns true for every input, and leaves its arguments as they were. -/
import Derived.Test.YtpncjadhpnapnaaGm
import Derived.Test.YtpncjadhpnapnaaGk
import Derived.WalkSpells
import Derived.Test.YtpncjadhpnapnaaSeqA
import Derived.Test.YtpncjadhpnapnaaLib
import Derived.WalkKit
import Derived.ProofKit
import Derived.OpenShut
import Derived.ShutString
import Derived.ChangeOld
import Derived.Below
import Derived.Test.YtpncjadhpnapnaaRows
/- Chapter 12: what Clone calls: slices and maps cloned. -/
namespace Go.Proofs.Ytpncjadhpnapnaa.D12
open Go.RowKit Go.Maps C9 Go.Shelf
open D13 (RdI ixI is)
set_option linter.unusedVariables false

set_option maxRecDepth 100000 in
set_option maxHeartbeats 1000000 in
theorem sclone12 (v : Value) (l : List Sc) (w : World) (hr : RdSc w v l) (hn : l.length ≤ 256) :
    Calls Try.prog 60 #[v] w fun e w' => ∃ v', e = .returned v' ∧ w'.ownsRow w.heap.size 36 2 v' l.length (flD scc l) ∧ Below w.heap.size w w' := by
  obtain ⟨a, c, rfl, hac⟩ := RdD.form hr
  have heq := fun W => Lib.run_eql_slice_nil (P := Try.prog) W 22 36 a l.length c 0 0 Try.underlying22
  cases a with
  | none =>
    have hl : l = [] := by
      obtain ⟨a, c, b, off, h1, _, h2⟩ := hr
      cases l with
      | nil => rfl
      | cons x l => have := (h2 0 (by simp)).1; injection h1 with h1; rw [← h1] at this; cases this
    subst hl
    simp only [List.length_nil] at heq
    go_enter Try.func60, Try.ntmps60
    go_wp2
    go_ret
    exact ⟨_, rfl, ⟨rfl, .inl ⟨rfl, rfl⟩⟩, Below.refl _ _⟩
  | some ad =>
    have hown0 : (w.alloc (.cells #[] 36)).ownsRow w.heap.size 36 2 (.slice (some ⟨w.heap.size, 0, none⟩) 0 0) 0 (flD scc []) := World.ownsRow_lit w #[] 0 (Nat.le_refl _) (by simp [maxLen]) (by simp)
    have hr1 : RdSc (w.alloc (.cells #[] 36)) (.slice (some ad) l.length c) l := RdD.keep hr ((Below.refl _ _).alloc (Nat.le_refl _) _)
    go_enter Try.func60, Try.ntmps60
    go_wp2_with (at_builtin; refine wpList_appD (d := scz) (D := scc) (l := []) (m := l) rfl _ _ rfl Try.underlying22 Try.infoSc12 rfl (by omega) scc_len scc_one hown0 rfl hr1 rfl (by unfold maxLen; omega) (by omega) (by simp) ?_; intro v' w' hown' hg')
    go_ret
    rw [Nat.zero_add, List.nil_append] at hown'
    exact ⟨v', rfl, hown', ((Below.refl _ _).alloc (Nat.le_refl _) _).grown hg' (by simp) (fun k hk => by obtain rfl := Option.some.inj hk; exact Nat.le_refl _)⟩
theorem smD_one (x : SM) : ∀ u ∈ smD x, u.oneCell' = true := by
  intro u hu
  simp only [smD, List.mem_cons, List.not_mem_nil, or_false] at hu
  rcases hu with rfl | rfl | rfl | rfl | rfl <;> rfl
set_option maxRecDepth 100000 in
set_option maxHeartbeats 1000000 in
theorem fclone12 (gs n c : Nat) (l : List SM) (w : World) (hn : l.length = n) (h1 : 1 ≤ n) (h2 : n ≤ 4096) (hr : RdD sm0 smD 5 w (.slice (some ⟨gs, 0, none⟩) n c) l) :
    Calls Try.prog 57 #[.slice (some ⟨gs, 0, none⟩) n c] w fun e w' => ∃ v', e = .returned v' ∧ w'.ownsRow w.heap.size 101 5 v' n (flD smD l) ∧ Below w.heap.size w w' := by
  subst hn
  have heq := fun W => Lib.run_eql_slice_nil (P := Try.prog) W 85 101 (some ⟨gs, 0, none⟩) l.length c 0 0 Try.underlying85
  have hown0 : (w.alloc (.cells #[] 101)).ownsRow w.heap.size 101 5 (.slice (some ⟨w.heap.size, 0, none⟩) 0 0) 0 (flD smD []) := World.ownsRow_lit w #[] 0 (Nat.le_refl _) (by simp [maxLen]) (by simp)
  have hr1 : RdD sm0 smD 5 (w.alloc (.cells #[] 101)) (.slice (some ⟨gs, 0, none⟩) l.length c) l := RdD.keep hr ((Below.refl _ _).alloc (Nat.le_refl _) _)
  go_enter Try.func57, Try.ntmps57
  go_wp2_with (at_builtin; refine wpList_appD (d := sm0) (D := smD) (l := []) (m := l) rfl _ _ rfl Try.underlying85 Try.infoSurf rfl (by omega) smD_len smD_one hown0 rfl hr1 rfl (by unfold maxLen; omega) (by omega) (by simp) ?_; intro v' w' hown' hg')
  go_ret
  rw [Nat.zero_add, List.nil_append] at hown'
  exact ⟨v', rfl, hown', ((Below.refl _ _).alloc (Nat.le_refl _) _).grown hg' (by simp) (fun k hk => by obtain rfl := Option.some.inj hk; exact Nat.le_refl _)⟩
/-- 'maps.Clone' of the erased offsets, and of the changed bytes -/
theorem clone_er {w : World} {e : Option Nat} {f : Nat → Bool} (h : ErM w e f) :
    Calls Try.prog 58 #[.map e] w fun en w' => ∃ e', en = .returned (.map e') ∧ ErM w' e' f ∧ (∀ b, e' = some b → b = w.heap.size) ∧ Below w.heap.size w w' := by
  cases e with
  | none =>
    refine Calls.mono (AnyW.maps_Clone_nil Try.cloneB w) ?_
    rintro en w' ⟨rfl, rfl⟩
    exact ⟨none, rfl, h, (fun b hb => by cases hb), Below.refl _ _⟩
  | some b =>
    obtain ⟨D, hown, hf⟩ := h
    refine Calls.mono (AnyW.maps_Clone_owns Try.cloneB 3 (plainElem Try.prog 4) b 2352 D w hown) ?_
    rintro en w' ⟨rfl, h1, _, hb⟩
    exact ⟨some w.heap.size, rfl, ⟨D, h1, hf⟩, fun b hb => (Option.some.inj hb).symm, hb⟩
theorem clone_ch {w : World} {e : Option Nat} {f : Nat → UInt8} (h : ChM w e f) :
    Calls Try.prog 59 #[.map e] w fun en w' => ∃ e', en = .returned (.map e') ∧ ChM w' e' f ∧ (∀ b, e' = some b → b = w.heap.size) ∧ Below w.heap.size w w' := by
  cases e with
  | none =>
    refine Calls.mono (AnyW.maps_Clone_nil Try.cloneU w) ?_
    rintro en w' ⟨rfl, rfl⟩
    exact ⟨none, rfl, h, (fun b hb => by cases hb), Below.refl _ _⟩
  | some b =>
    obtain ⟨D, hown, hf⟩ := h
    refine Calls.mono (AnyW.maps_Clone_owns Try.cloneU 3 (plainElem Try.prog 5) b 2352 D w hown) ?_
    rintro en w' ⟨rfl, h1, _, hb⟩
    exact ⟨some w.heap.size, rfl, ⟨D, h1, hf⟩, fun b hb => (Option.some.inj hb).symm, hb⟩
theorem ownsMap_raw {w : World} {b n : Nat} {D : DataW Value} (h : w.ownsMap Try.prog 3 Mp.rawE b n D) {w2 : World} {b2 n2 : Nat} {D2 : DataW Value} (h2 : w2.ownsMap Try.prog 3 Mp.rawE b2 n2 D2) (hb : w2.heap[b2]? = w.heap[b]?) : D2 = D := by
  obtain ⟨es, clock, e1, F, hs, rfl⟩ := h
  obtain ⟨es2, clock2, e2, F2, hs2, rfl⟩ := h2
  rw [e1, e2] at hb
  simp only [Option.some.injEq, Obj.map.injEq] at hb
  rw [hb.1]
/-- 'maps.Clone' of the lost offsets: 'K' are the blocks of the old map and its rows -/
theorem clone_lo {w : World} {lo : Option Nat} {n : Nat} {scr : List Sc} {K : Nat → Prop} (h : ∀ w' : World, Same K w w' → LoM w' lo n scr) (hK : ∀ b, K b → b < w.heap.size) (hlo : ∀ b, lo = some b → K b) :
    Calls Try.prog 61 #[.map lo] w fun en w' => ∃ lo', en = .returned (.map lo') ∧ (∀ w2 : World, Same (fun b => K b ∨ lo' = some b) w' w2 → LoM w2 lo' n scr) ∧ (∀ b, lo' = some b → b = w.heap.size ∧ b < w'.heap.size) ∧ Below w.heap.size w w' := by
  cases lo with
  | none =>
    refine Calls.mono (AnyW.maps_Clone_nil Try.cloneI w) ?_
    rintro en w' ⟨rfl, rfl⟩
    exact ⟨none, rfl, fun w2 h2 => h w2 fun b hb => h2 b (.inl hb), (fun b hb => by cases hb), Below.refl _ _⟩
  | some b =>
    obtain ⟨N, hN, D, hown, hat⟩ := h w fun _ _ => rfl
    refine Calls.mono (AnyW.maps_Clone_owns Try.cloneI 3 Mp.rawE b N D w hown) ?_
    rintro en w' ⟨rfl, h1, _, hb⟩
    refine ⟨some w.heap.size, rfl, fun w2 h2 => ?_, fun b hb => ?_, hb⟩
    · obtain ⟨N2, hN2, D2, hown2, hat2⟩ := h w2 fun k hk => (h2 k (.inl hk)).trans (hb.block k (hK k hk))
      have e : D2 = D := ownsMap_raw hown hown2 ((h2 b (.inl (hlo b rfl))).trans (hb.block b (hK b (hlo b rfl))))
      subst e
      refine ⟨N, hN, D2, ?_, hat2⟩
      obtain ⟨es, clock, e1, F, hs, hD⟩ := h1
      exact ⟨es, clock, (h2 _ (.inr rfl)).trans e1, F, hs, hD⟩
    · obtain rfl := Option.some.inj hb
      exact ⟨rfl, h1.lt⟩
end Go.Proofs.Ytpncjadhpnapnaa.D12
/- Chapter 12: Clone of a medium walked. -/
namespace Go.Proofs.Ytpncjadhpnapnaa.D12
open Go.RowKit Go.Maps C9
open D13 (RdI ixI is)
set_option linter.unusedVariables false

/-- while the sectors' maps are cloned: 'S2' the sectors of the clone, those below 'j' done -/
structure ClW (w3 wr : World) (g2 : Nat) (S S2 : List SM) (M : Med) (sp : List Value) (j : Nat) : Prop where
  len : S2.length = S.length
  box : Bx wr g2 101 (flD smD S2 ++ sp)
  sec : ∀ i, i < S.length → (atD sm0 S2 i).s = M.sec i
  rest : ∀ i, j ≤ i → i < S.length → atD sm0 S2 i = atD sm0 S i
  maps : ∀ i p, i < j → i < S.length → (atD sm0 S2 i).W wr p ∧ ∀ b, (atD sm0 S2 i).bk p = some b → w3.heap.size ≤ b ∧ b < wr.heap.size
  inj : ∀ i k p q b, i < j → k < j → i < S.length → k < S.length → (atD sm0 S2 i).bk p = some b → (atD sm0 S2 k).bk q = some b → i = k ∧ p = q
  le : w3.grownBy wr (some g2)
  lt : g2 < w3.heap.size
theorem ErM.far {w w' : World} {e : Option Nat} {f : Nat → Bool} {g2 : Nat} {cs : List Value} {t : TypeId} (h : ErM w e f) (hb : Bx w g2 t cs) (hg : w.grownBy w' (some g2)) : ErM w' e f := h.kept fun c hc => by
  subst hc
  obtain ⟨es, clock, hm⟩ := h.map
  exact hg.block c (Array.getElem?_eq_some_iff.1 hm).1 fun e => by
    obtain rfl := Option.some.inj e
    unfold Bx at hb
    rw [hb] at hm; cases hm
theorem ChM.far {w w' : World} {e : Option Nat} {f : Nat → UInt8} {g2 : Nat} {cs : List Value} {t : TypeId} (h : ChM w e f) (hb : Bx w g2 t cs) (hg : w.grownBy w' (some g2)) : ChM w' e f := h.kept fun c hc => by
  subst hc
  obtain ⟨es, clock, hm⟩ := h.map
  exact hg.block c (Array.getElem?_eq_some_iff.1 hm).1 fun e => by
    obtain rfl := Option.some.inj e
    unfold Bx at hb
    rw [hb] at hm; cases hm
theorem ErM.lt {w : World} {e : Option Nat} {f : Nat → Bool} (h : ErM w e f) {b : Nat} (he : e = some b) : b < w.heap.size := by
  subst he
  obtain ⟨es, clock, hm⟩ := h.map
  exact (Array.getElem?_eq_some_iff.1 hm).1
theorem ChM.lt {w : World} {e : Option Nat} {f : Nat → UInt8} (h : ChM w e f) {b : Nat} (he : e = some b) : b < w.heap.size := by
  subst he
  obtain ⟨es, clock, hm⟩ := h.map
  exact (Array.getElem?_eq_some_iff.1 hm).1
theorem ClW.step {w3 wr wn : World} {g2 : Nat} {S S2 : List SM} {M : Med} {sp : List Value} {j : Nat} (h : ClW w3 wr g2 S S2 M sp j) (hj : j < S.length) {e' c' : Option Nat} (hg : wr.grownBy wn (some g2))
    (hb : Bx wn g2 101 (((flD smD S2 ++ sp).set (j * 5 + 3) (.map e')).set (j * 5 + 4) (.map c'))) (he : ErM wn e' (M.sec j).er) (hc : ChM wn c' (M.sec j).ch)
    (he2 : ∀ b, e' = some b → wr.heap.size ≤ b) (hc2 : ∀ b, c' = some b → wr.heap.size ≤ b ∧ e' ≠ some b) : ClW w3 wn g2 S (S2.set j ⟨M.sec j, e', c'⟩) M sp (j + 1) := by
  have hjl : j < S2.length := by rw [h.len]; exact hj
  have hs := h.sec j hj
  have h3s := h.le.size
  have hat : ∀ i, i ≠ j → atD sm0 (S2.set j ⟨M.sec j, e', c'⟩) i = atD sm0 S2 i := fun i hi => atD_set_ne _ _ _ _ hi
  have hatj : atD sm0 (S2.set j ⟨M.sec j, e', c'⟩) j = ⟨M.sec j, e', c'⟩ := atD_set_eq _ _ _ hjl
  have hl5 : (flD smD S2).length = S2.length * 5 := flD_length smD_len S2
  refine ⟨by simpa using h.len, ?_, fun i hi => ?_, fun i hi hl => ?_, fun i p hi hl => ?_, fun i k p q b hi hk hil hkl h1 h2 => ?_, h.le.trans hg, h.lt⟩
  · have e1 := flD_set (d := sm0) smD_len S2 j 3 hjl (by decide) (.map e') ⟨M.sec j, e', (atD sm0 S2 j).c⟩ (by rw [← hs]; rfl)
    have e2 := flD_set (d := sm0) smD_len (S2.set j ⟨M.sec j, e', (atD sm0 S2 j).c⟩) j 4 (by simpa using hjl) (by decide) (.map c') ⟨M.sec j, e', c'⟩ (by rw [atD_set_eq _ _ _ hjl]; rfl)
    rw [List.set_set] at e2
    rw [List.set_append_left _ _ (by omega), e1, List.set_append_left _ _ (by rw [flD_length smD_len, List.length_set]; omega), e2] at hb
    exact hb
  · by_cases e : i = j
    · subst e; rw [hatj]
    · rw [hat i e]; exact h.sec i hi
  · rw [hat i (by omega)]
    exact h.rest i (by omega) hl
  · by_cases e : i = j
    · subst e
      rw [hatj]
      cases p with
      | true => exact ⟨he, fun b hb => ⟨Nat.le_trans h3s (he2 b hb), he.lt hb⟩⟩
      | false => exact ⟨hc, fun b hb => ⟨Nat.le_trans h3s (hc2 b hb).1, hc.lt hb⟩⟩
    · rw [hat i e]
      obtain ⟨h1, h2⟩ := h.maps i p (by omega) hl
      refine ⟨h1.kept fun c hc => hg.block c (h2 c hc).2 fun e => ?_, fun b hb => ⟨(h2 b hb).1, Nat.lt_of_lt_of_le (h2 b hb).2 hg.size⟩⟩
      obtain rfl := Option.some.inj e
      have := (h2 c hc).1
      have := h.lt
      omega
  · have hnew : ∀ p b, (⟨M.sec j, e', c'⟩ : SM).bk p = some b → wr.heap.size ≤ b := fun p b hb => by
      cases p with
      | true => exact he2 b hb
      | false => exact (hc2 b hb).1
    by_cases ei : i = j
    · by_cases ek : k = j
      · subst ei ek
        rw [hatj] at h1 h2
        refine ⟨rfl, ?_⟩
        cases p <;> cases q
        · rfl
        · exact absurd h2 (hc2 b h1).2
        · exact absurd h1 (hc2 b h2).2
        · rfl
      · subst ei
        rw [hatj] at h1
        rw [hat k ek] at h2
        have := hnew p b h1
        have := ((h.maps k q (by omega) hkl).2 b h2).2
        omega
    · by_cases ek : k = j
      · subst ek
        rw [hatj] at h2
        rw [hat i ei] at h1
        have := hnew q b h2
        have := ((h.maps i p (by omega) hil).2 b h1).2
        omega
      · rw [hat i ei] at h1
        rw [hat k ek] at h2
        exact h.inj i k p q b (by omega) (by omega) hil hkl h1 h2
/-- the two maps of a sector cloned: the chain of the region -/
def ClP (wr : World) (fE : Nat → Bool) (fC : Nat → UInt8) (v31 v36 : Value) (W : World) : Prop :=
  ∃ e' c', v31 = .map e' ∧ v36 = .map c' ∧ ErM W e' fE ∧ ChM W c' fC ∧ (∀ b, e' = some b → wr.heap.size ≤ b) ∧ ∀ b, c' = some b → wr.heap.size ≤ b ∧ e' ≠ some b
def ClC (wr : World) (g2 : Nat) (cs : List Value) (k3 : Nat) (fE : Nat → Bool) (fC : Nat → UInt8) (r : Nat) (v31 v36 : Value) (W : World) : Prop :=
  wr.grownBy W (some g2) ∧ match r with
    | 0 => Bx W g2 101 cs
    | 1 => Bx W g2 101 cs ∧ ∃ e', v31 = .map e' ∧ ErM W e' fE ∧ ∀ b, e' = some b → wr.heap.size ≤ b
    | 2 => Bx W g2 101 cs ∧ ClP wr fE fC v31 v36 W
    | 3 => Bx W g2 101 (cs.set k3 v31) ∧ ClP wr fE fC v31 v36 W
    | _ => Bx W g2 101 ((cs.set k3 v31).set (k3 + 1) v36) ∧ ClP wr fE fC v31 v36 W
theorem ClC.bx {wr : World} {g2 : Nat} {cs : List Value} {k3 : Nat} {fE : Nat → Bool} {fC : Nat → UInt8} {r : Nat} {v31 v36 : Value} {W : World} (h : ClC wr g2 cs k3 fE fC r v31 v36 W) (hr : r ≤ 2) : Bx W g2 101 cs := by
  match r, hr with
  | 0, _ => exact h.2
  | 1, _ => exact h.2.1
  | 2, _ => exact h.2.1
theorem grown_set (w : World) (g2 i : Nat) (u : Value) : w.grownBy (w.setCell ⟨g2, i, none⟩ u) (some g2) := ⟨rfl, rfl, rfl, by simp, fun k h1 h2 => Below.heap_setCell _ _ _ k (fun e => h2 (by rw [e]))⟩
theorem ClP.store {wr : World} {g2 : Nat} {fE : Nat → Bool} {fC : Nat → UInt8} {v31 v36 : Value} {W : World} {cs : List Value} {t : TypeId} (h : ClP wr fE fC v31 v36 W) (hb : Bx W g2 t cs) (i : Nat) (u : Value) : ClP wr fE fC v31 v36 (W.setCell ⟨g2, i, none⟩ u) := by
  obtain ⟨e', c', h1, h2, h3, h4, h5, h6⟩ := h
  exact ⟨e', c', h1, h2, h3.far hb (grown_set W g2 i u), h4.far hb (grown_set W g2 i u), h5, h6⟩
def clnV (g2 k5 : Nat) (eo co : Option Nat) (i : Nat) (v : Value) (W : World) : Prop := match i with
  | 0 => v = .pointer (some ⟨g2, k5, none⟩)
  | 1 => v = .pointer (some ⟨g2, k5, none⟩)
  | 2 => v = .pointer (some ⟨g2, k5, none⟩)
  | 3 => v = .pointer (some ⟨g2, k5, none⟩)
  | 4 => v = .pointer (some ⟨g2, k5 + 3, none⟩)
  | 5 => v = .map eo
  | 6 => True
  | 7 => v = .pointer (some ⟨g2, k5, none⟩)
  | 8 => v = .pointer (some ⟨g2, k5, none⟩)
  | 9 => v = .pointer (some ⟨g2, k5 + 4, none⟩)
  | 10 => v = .map co
  | 11 => True
  | 12 => v = .pointer (some ⟨g2, k5, none⟩)
  | 13 => v = .pointer (some ⟨g2, k5 + 3, none⟩)
  | 15 => v = .pointer (some ⟨g2, k5, none⟩)
  | 16 => v = .pointer (some ⟨g2, k5 + 4, none⟩)
  | _ => True
def clnVE : Nat → Option Nat
  | 6 => some 0
  | 11 => some 1
  | 14 => some 2
  | 17 => some 3
  | _ => none
theorem clnV_keep (g2 k5 : Nat) (eo co : Option Nat) (i r : Nat) (v : Value) (W W' : World) (hk : ∀ k, clnVE i = some k → k < r) (hR : (anyR) r W W') (h : clnV g2 k5 eo co i v W) : clnV g2 k5 eo co i v W' := by
  unfold clnV at h ⊢
  split at h <;> first | exact h
theorem put_none (a : Act) (v : Value) : a.put none v = a := rfl
/-- what Clone ends with -/
def CloP (g : Nat) (M : Med) (R : Nat → Prop) (w : World) (e : Ending) (w' : World) : Prop :=
  ∃ g2 X2 R2, e = .returned (.pointer (some ⟨g2, 0, none⟩)) ∧ MedW w' g2 M X2 R2 ∧ Below w.heap.size w w' ∧ (∀ b, X2 b → w.heap.size ≤ b) ∧ ∀ b, R2 b → R b ∨ w.heap.size ≤ b
theorem RdSc.moved {w w' : World} {base n : Nat} {v : Value} {l : List Sc} (h : w.ownsRow base 36 2 v n (flD scc l)) (hn : n = l.length) (hk : ∀ k, base ≤ k → k < w.heap.size → w'.heap[k]? = w.heap[k]?) : RdSc w' v l := by
  subst hn
  exact RdD.ofOwn scc_len (own_moved h hk)
theorem MedC.cloned {w wl w3 wf : World} {g ob g2 : Nat} {L : Lay} {M : Med} {X R : Nat → Prop} {N : Nat} (h : MedC w g L M X R) (ho : M.Ok N) {S2 : List SM} {sp : List Value} {cap2 b1 b2 : Nat} {vs2 : Value} {lo2 : Option Nat}
    (hl : ClW w3 wl g2 L.S S2 M sp L.S.length) (hw : Below w.heap.size w w3) (hg2 : w.heap.size ≤ g2) (hob : w.heap.size ≤ ob ∧ ob < w3.heap.size ∧ ob ≠ g2) (hcap : L.S.length ≤ cap2)
    (hx : Bx wf ob 88 [.int .i64 M.kind, .int .i64 M.endu, .slice (some ⟨g2, 0, none⟩) L.S.length cap2, vs2, .map lo2]) (hf : wl.grownBy wf (some ob))
    (hb : wl.heap.size ≤ b1 ∧ b1 ≤ b2 ∧ b2 ≤ wf.heap.size)
    (hsc : ∀ w2 : World, (∀ k, b1 ≤ k → k < b2 → w2.heap[k]? = wf.heap[k]?) → RdSc w2 vs2 M.scr)
    (hlo : ∀ w2 : World, Same (fun b => R b ∨ lo2 = some b) wf w2 → LoM w2 lo2 M.n M.scr) (hlb : ∀ b, lo2 = some b → wl.heap.size ≤ b ∧ b < wf.heap.size) :
    CloP g M R w (.returned (.pointer (some ⟨ob, 0, none⟩))) wf := by
  have hs3 := hw.size
  have h3l := hl.le.size
  have hlf := hf.size
  have hg2l := hl.lt
  have hk : ∀ k, k < wl.heap.size → k ≠ ob → wf.heap[k]? = wl.heap[k]? := fun k h1 h2 => hf.block k h1 fun e => h2 (Option.some.inj e)
  have hmb : ∀ i p b, i < L.S.length → (atD sm0 S2 i).bk p = some b → w3.heap.size ≤ b ∧ b < wl.heap.size := fun i p b hi hb => (hl.maps i p hi hi).2 b hb
  refine ⟨ob, fun b => b = ob ∨ b = g2 ∨ ∃ i p, i < L.S.length ∧ (atD sm0 S2 i).bk p = some b, fun b => R b ∨ lo2 = some b ∨ (b1 ≤ b ∧ b < b2), rfl, ⟨⟨S2, g2, sp, cap2, vs2, lo2⟩, ?_, by simp only [hl.len]; exact hx, (hk g2 (by omega) (Ne.symm hob.2.2)).trans hl.box, by simp only [hl.len]; exact hcap, ?_, ?_, fun w2 h2 => hsc w2 fun k h3 h4 => h2 k (.inr (.inr ⟨h3, h4⟩)), fun w2 h2 => hlo w2 fun k h3 => h2 k (h3.elim .inl fun h => .inr (.inl h)), .inl rfl, .inr (.inl rfl), ?_, ?_, ?_, h.wf, fun b hb => .inr (.inl hb)⟩, ?_, ?_, ?_⟩
  · apply List.ext_getElem?
    intro i
    have hn := h.n
    have hlen := hl.len
    by_cases hi : i < L.S.length
    · have h1 := hl.sec i hi
      rw [List.getElem?_map]
      unfold atD at h1
      unfold Med.sec atD at h1
      have h3 : i < S2.length := by omega
      have h4 : i < M.secs.length := by have : M.secs.length = M.n := rfl; omega
      rw [List.getElem?_eq_getElem h3, List.getElem?_eq_getElem h4] at h1
      rw [List.getElem?_eq_getElem h3, List.getElem?_eq_getElem h4]
      simpa using h1.symm
    · rw [List.getElem?_eq_none (by have : M.secs.length = M.n := rfl; omega), List.getElem?_eq_none (by simp only [List.length_map]; omega)]
  · intro i p hi
    simp only [hl.len] at hi
    obtain ⟨h1, h2⟩ := hl.maps i p hi hi
    exact h1.kept fun c hc => hk c (h2 c hc).2 fun e => by have := (h2 c hc).1; omega
  · intro i k p q b hi hk' h1 h2
    simp only [hl.len] at hi hk'
    exact hl.inj i k p q b hi hk' hi hk' h1 h2
  · intro i p b hi h1
    simp only [hl.len] at hi
    exact .inr (.inr ⟨i, p, hi, h1⟩)
  · rintro b ((rfl | rfl | ⟨i, p, hi, h1⟩) | h1 | h1 | h1)
    · exact hx.lt
    · omega
    · have := hmb i p b hi h1; omega
    · have := h.lt b (.inr h1); omega
    · exact (hlb b h1).2
    · omega
  · rintro b hb' (h2 | h2 | h2)
    · have h3 := h.lt b (.inr h2)
      rcases hb' with rfl | rfl | ⟨i, p, hi, h1⟩
      · omega
      · omega
      · have := hmb i p b hi h1; omega
    · have h3 := (hlb b h2).1
      rcases hb' with rfl | rfl | ⟨i, p, hi, h1⟩
      · omega
      · omega
      · have := hmb i p b hi h1; omega
    · rcases hb' with rfl | rfl | ⟨i, p, hi, h1⟩
      · omega
      · omega
      · have := hmb i p b hi h1; omega
  · exact ⟨hf.os.trans (hl.le.os.trans hw.os), hf.tape.trans (hl.le.tape.trans hw.tape), hf.output.trans (hl.le.output.trans hw.output), by omega, fun k h1 => (hk k (by omega) (by omega)).trans ((hl.le.block k (by omega) fun e => by have := Option.some.inj e; omega).trans (hw.block k h1))⟩
  · rintro b (rfl | rfl | ⟨i, p, hi, h1⟩)
    · exact hob.1
    · exact hg2
    · have := hmb i p b hi h1; omega
  · rintro b (h1 | h1 | h1)
    · exact .inl h1
    · exact .inr (by have := (hlb b h1).1; omega)
    · exact .inr (by omega)
set_option maxRecDepth 100000 in
set_option maxHeartbeats 8000000 in
theorem clone12 {w : World} {g : Nat} {M : Med} {X R : Nat → Prop} {N : Nat} (h : MedW w g M X R) (ho : M.Ok N) :
    Calls Try.prog 30 #[.pointer (some ⟨g, 0, none⟩)] w (CloP g M R w) := by
  obtain ⟨L, hc⟩ := h
  obtain ⟨c0, c1, c2, c3, c4⟩ := hc.cells
  have HC := Lib.hid hc
  have HO := Lib.hid ho
  have HN := Lib.hid hc.n
  have hn1 := ho.n.1
  have hn2 := ho.n.2
  obtain ⟨n, hn⟩ : ∃ n, n = L.S.length := ⟨_, rfl⟩
  have HNL := Lib.hid hn
  have hnM : n = M.n := by rw [hn]; exact hc.n
  rw [← hnM] at hn1 hn2
  obtain ⟨asc, csc, hvs, _⟩ := RdD.form (hc.scr w fun _ _ => rfl)
  have HVS := Lib.hid hvs
  have hsl := ho.scr
  rw [← hn] at c2
  rw [hvs] at c3
  have hA := (Below.refl w.heap.size w).alloc (Nat.le_refl _) (.cells #[.int .i64 M.kind, .int .i64 M.endu, .slice (some ⟨L.gs, 0, none⟩) n L.cap, .slice asc M.scr.length csc, .map L.lo] 88)
  have hB := Bx.new w 88 [.int .i64 M.kind, .int .i64 M.endu, .slice (some ⟨L.gs, 0, none⟩) n L.cap, .slice asc M.scr.length csc, .map L.lo]
  obtain ⟨w1, hw1⟩ : ∃ w1, w1 = w.alloc (.cells #[.int .i64 M.kind, .int .i64 M.endu, .slice (some ⟨L.gs, 0, none⟩) n L.cap, .slice asc M.scr.length csc, .map L.lo] 88) := ⟨_, rfl⟩
  obtain ⟨ob, hob⟩ : ∃ ob, ob = w.heap.size := ⟨_, rfl⟩
  change Bx (w.alloc (.cells #[.int .i64 M.kind, .int .i64 M.endu, .slice (some ⟨L.gs, 0, none⟩) n L.cap, .slice asc M.scr.length csc, .map L.lo] 88)) _ _ _ at hB
  rw [← hw1] at hA hB
  rw [← hob] at hB
  have HA := Lib.hid hA
  have HB := Lib.hid hB
  have HW1 := Lib.hid hw1
  have HOB := Lib.hid hob
  clear hc ho hA hB hw1 hob hvs hn hnM
  go_enter Try.func30, Try.ntmps30
  go_upto_region 2 with (fail)
  rw [show (w.alloc (.cells #[.int .i64 M.kind, .int .i64 M.endu, .slice (some ⟨L.gs, 0, none⟩) n L.cap, .slice asc M.scr.length csc, .map L.lo] 88)) = w1 from HW1.out.symm, show w.heap.size = ob from HOB.out.symm]
  have d2 := (HC.out.below HA.out).cells.2.2.1
  rw [← HNL.out] at d2
  have HRS : Hid (RdD sm0 smD 5 w1 (.slice (some ⟨L.gs, 0, none⟩) n L.cap) L.S) := Lib.hid ⟨some ⟨L.gs, 0, none⟩, L.cap, L.gs, 0, by rw [HNL.out], HC.out.cap, fun i hi => ⟨rfl, fun j u hu => by
    have hj : j < 5 := by have := (List.getElem?_eq_some_iff.1 hu).1; rwa [smD_len] at this
    rw [Nat.zero_add, (HC.out.below HA.out).surf hi hj]
    exact hu⟩⟩
  clear c0 c1 c2 c3 c4
  go_wp2_with fail
  refine (fclone12 L.gs n L.cap L.S w1 HNL.out.symm hn1 hn2 HRS.out).mono ?_
  rintro e w2 ⟨v2, rfl, ho2, hb2⟩
  obtain ⟨g2, cap2, rfl, hg2a, hg2b⟩ := ownD_addr ho2 (by omega)
  have HB2 := Lib.hid (HB.out.call hb2)
  have HBW2 := Lib.hid (HA.out.trans (hb2.mono HA.out.size))
  have hob1 := HB.out.lt
  obtain ⟨sp, hsp, hcap2⟩ : ∃ sp, Bx w2 g2 101 (flD smD L.S ++ sp) ∧ n ≤ cap2 := by
    rcases ho2.2 with ⟨h', _⟩ | ⟨g', cap', cur, h', hb, hg, hn, hm, hcs, ht⟩
    · simp at h'
    · simp only [Value.slice.injEq, Option.some.injEq, Addr.mk.injEq, and_true, true_and] at h'
      obtain ⟨rfl, rfl⟩ := h'
      refine ⟨cur.toList.drop (n * 5), ?_, hn⟩
      unfold Bx
      rw [hg, ← ht, List.take_append_drop]
  have HSP := Lib.hid hsp
  have HG2 : Hid (w1.heap.size ≤ g2) := Lib.hid hg2a
  have HGO : Hid (ob < w1.heap.size) := Lib.hid hob1
  have HCAP := Lib.hid hcap2
  clear ho2 hb2 hg2a hg2b hsp hob1 hcap2 d2
  have q2 := HB2.out.cell (i := 2) rfl
  have qf := HB2.out.free 2
  go_upto_region 3 with (fail)
  have HB3 : Hid (Bx (w2.setCell ⟨ob, 2, none⟩ (.slice (some ⟨g2, 0, none⟩) n cap2)) ob 88 [.int .i64 M.kind, .int .i64 M.endu, .slice (some ⟨g2, 0, none⟩) n cap2, .slice asc M.scr.length csc, .map L.lo]) := Lib.hid (HB2.out.set 2 (.slice (some ⟨g2, 0, none⟩) n cap2))
  have HSP3 := Lib.hid (HSP.out.far (p := ⟨ob, 2, none⟩) (by have := HG2.out; have := HGO.out; simp only [ne_eq]; omega) (.slice (some ⟨g2, 0, none⟩) n cap2))
  have HBW3 := Lib.hid (HBW2.out.setCell (p := ⟨ob, 2, none⟩) (by rw [HOB.out]; exact Nat.le_refl _) (.slice (some ⟨g2, 0, none⟩) n cap2))
  generalize w2.setCell ⟨ob, 2, none⟩ (.slice (some ⟨g2, 0, none⟩) n cap2) = w3 at *
  clear q2 qf
  have q2 := HB3.out.cell (i := 2) rfl
  have HG23 := Lib.hid HSP3.out.lt
  go_wp2_with fail
  have HST : Hid (ClW w3 w3 g2 L.S L.S M sp 0) := Lib.hid ⟨rfl, HSP3.out, fun i hi => HC.out.at_ i, fun i _ _ => rfl, fun i p h => by omega, fun i k p q b h => by omega, World.grownBy.refl _ _, HG23.out⟩
  go_loopw [18] (fun vk wr => ∃ (j : Nat) (S2 : List SM), j ≤ n ∧ vk = .int .i64 j ∧ ClW w3 wr g2 L.S S2 M sp j) (fun vk _ => n - (RowKit.intOf vk).toNat)
  case atStart => exact ⟨0, L.S, by omega, rfl, HST.out⟩
  case round =>
    obtain ⟨j, S2, hj, rfl, hcw⟩ := hrel
    have HCW := Lib.hid hcw
    have HOBW := Lib.hid (hcw.le.block ob HB3.out.lt (fun e => by have := Option.some.inj e; have := HG2.out; have := HGO.out; omega))
    have HBR : Hid (Bx wr ob 88 [.int .i64 M.kind, .int .i64 M.endu, .slice (some ⟨g2, 0, none⟩) n cap2, .slice asc M.scr.length csc, .map L.lo]) := Lib.hid (HOBW.out.trans HB3.out)
    have HBWR : Hid (Below w.heap.size w wr) := Lib.hid (HBW3.out.grown hcw.le HBW3.out.size fun k hk => by
      obtain rfl := Option.some.inj hk
      have := HG2.out
      have := HA.out.size
      omega)
    clear hcw q2
    by_cases hlt : j < n
    · have q2 := HBR.out.cell (i := 2) rfl
      have hjS : j < L.S.length := by rw [← HNL.out]; exact hlt
      have hix := fun w' => run_idxS Try.underlying85 (by kernel_rfl : (Try.prog.info? 101).map (·.size) = some 5) (a := some ⟨g2, 0, none⟩) (n := n) (cap := cap2) (k := j) (b := g2) (off := 0) rfl hlt (j : Int) rfl w'
      simp only [Nat.zero_add] at hix
      have hre := HCW.out.rest j (Nat.le_refl _) hjS
      obtain ⟨eo, heo⟩ : ∃ eo, eo = (atD sm0 L.S j).e := ⟨_, rfl⟩
      obtain ⟨co, hco⟩ : ∃ co, co = (atD sm0 L.S j).c := ⟨_, rfl⟩
      have HMR := HC.out.below HBWR.out
      have hE0 : ErM wr eo (M.sec j).er := by
        have := HMR.maps j true hjS
        unfold SM.W at this
        rwa [if_pos rfl, HMR.at_, ← heo] at this
      have hC0 : ChM wr co (M.sec j).ch := by
        have := HMR.maps j false hjS
        unfold SM.W at this
        rwa [if_neg (by decide), HMR.at_, ← hco] at this
      have HEO := Lib.hid (fun W (hW : wr.grownBy W (some g2)) => hE0.far HCW.out.box hW)
      have HCO := Lib.hid (fun W (hW : wr.grownBy W (some g2)) => hC0.far HCW.out.box hW)
      obtain ⟨cs, hcs⟩ : ∃ cs, cs = flD smD S2 ++ sp := ⟨_, rfl⟩
      have hlen := HCW.out.len
      have h3 : cs[j * 5 + 3]? = some (.map eo) := by
        rw [hcs, List.getElem?_append_left (by rw [flD_length smD_len]; omega), flD_get (d := sm0) smD_len S2 j 3 (by omega) (by decide), hre, heo]
        rfl
      have h4 : cs[j * 5 + 4]? = some (.map co) := by
        rw [hcs, List.getElem?_append_left (by rw [flD_length smD_len]; omega), flD_get (d := sm0) smD_len S2 j 4 (by omega) (by decide), hre, hco]
        rfl
      obtain ⟨k5, hk5⟩ : ∃ k5, k5 = j * 5 := ⟨_, rfl⟩
      rw [← hk5] at h3 h4 hix
      have HK5 := Lib.hid hk5
      have HQ3 := Lib.hid h3
      have HQ4 := Lib.hid h4
      have HCS := Lib.hid hcs
      have HBX : Hid (Bx wr g2 101 cs) := Lib.hid (by rw [hcs]; exact HCW.out.box)
      have HJS := Lib.hid hjS
      obtain ⟨fE, hfE⟩ : ∃ fE, fE = (M.sec j).er := ⟨_, rfl⟩
      obtain ⟨fC, hfC⟩ : ∃ fC, fC = (M.sec j).ch := ⟨_, rfl⟩
      rw [← hfE] at HEO
      rw [← hfC] at HCO
      have HFE := Lib.hid hfE
      have HFC := Lib.hid hfC
      clear hre heo hco HMR hE0 hC0 hcs hlen h3 h4 hk5 hjS hfE hfC
      go_upto_region 7 with (fail)
      clear q2 hix
      refine wp_region_seqA (by kernel_rfl) (anyR) (fun r a W => ClC wr g2 cs (k5 + 3) fE fC r (a.tmps.getD 31 undef) (a.tmps.getD 36 undef) W) (clnV g2 k5 eo co) (fun _ => false) clnVE 4 (by kernel_rfl) (by kernel_rfl) (.inl (by kernel_rfl)) (keepsA2 31 36 (by kernel_rfl) (by kernel_rfl) (ClC wr g2 cs (k5 + 3) fE fC)) (clnV_keep g2 k5 eo co) (⟨⟨rfl, rfl, rfl, Nat.le_refl _, fun _ _ _ => rfl⟩, HBX.out⟩) ⟨?_, ?_, ?_, ?_, ?_, ?_, ?_, ?_, ?_, ?_, ?_, ?_, ?_, ?_, ?_, ?_, ?_, ?_, trivial⟩ ?_
      · intro r a W hc hsz hold hdep hnot hlo hhi hrk
        have o5 : a.tmps.getD 5 undef = .pointer (some ⟨g2, k5, none⟩) := hold 5 (by kernel_rfl)
        clear hsz hold hdep hnot hlo hhi hrk
        refine stepR_do rfl (wanted_none rfl) ?_
        refine stepA_val (v := .pointer (some ⟨g2, k5, none⟩)) (anyR_mk _ _ _) rfl fun K hK => ?_
        go_simp
        exact hK
      · intro r a W hc hsz hold hdep hnot hlo hhi hrk
        have o5 : a.tmps.getD 5 undef = .pointer (some ⟨g2, k5, none⟩) := hold 5 (by kernel_rfl)
        clear hsz hold hdep hnot hlo hhi hrk
        refine stepR_do rfl (wanted_none rfl) ?_
        refine stepA_val (v := .pointer (some ⟨g2, k5, none⟩)) (anyR_mk _ _ _) rfl fun K hK => ?_
        go_simp
        exact hK
      · intro r a W hc hsz hold hdep hnot hlo hhi hrk
        have o5 : a.tmps.getD 5 undef = .pointer (some ⟨g2, k5, none⟩) := hold 5 (by kernel_rfl)
        clear hsz hold hdep hnot hlo hhi hrk
        refine stepR_do rfl (wanted_none rfl) ?_
        refine stepA_val (v := .pointer (some ⟨g2, k5, none⟩)) (anyR_mk _ _ _) rfl fun K hK => ?_
        go_simp
        exact hK
      · intro r a W hc hsz hold hdep hnot hlo hhi hrk
        have d2 : a.tmps.getD 27 undef = .pointer (some ⟨g2, k5, none⟩) := hdep 2 (by kernel_rfl) rfl _ rfl
        clear hsz hold hdep hnot hlo hhi hrk
        refine stepR_do rfl (wanted_none rfl) ?_
        refine stepA_val (v := .pointer (some ⟨g2, k5, none⟩)) (anyR_mk _ _ _) rfl fun K hK => ?_
        go_simp
        exact hK
      · intro r a W hc hsz hold hdep hnot hlo hhi hrk
        have d3 : a.tmps.getD 28 undef = .pointer (some ⟨g2, k5, none⟩) := hdep 3 (by kernel_rfl) rfl _ rfl
        clear hsz hold hdep hnot hlo hhi hrk
        refine stepR_do rfl (wanted_none rfl) ?_
        refine stepA_val (v := .pointer (some ⟨g2, k5 + 3, none⟩)) (anyR_mk _ _ _) rfl fun K hK => ?_
        go_simp
        exact hK
      · intro r a W hc hsz hold hdep hnot hlo hhi hrk
        have d4 : a.tmps.getD 29 undef = .pointer (some ⟨g2, k5 + 3, none⟩) := hdep 4 (by kernel_rfl) rfl _ rfl
        have hr2 := hhi 14 2 rfl (by kernel_rfl)
        have q3 := (ClC.bx hc hr2).cell HQ3.out
        clear hsz hold hdep hnot hlo hhi hrk
        refine stepR_do rfl (wanted_none rfl) ?_
        refine stepA_val (v := .map eo) (anyR_mk _ _ _) rfl fun K hK => ?_
        go_simp
        exact hK
      · intro r a W hc hsz hold hdep hnot hlo hhi hrk
        have hr := hrk 0 rfl
        subst hr
        have d5 : a.tmps.getD 30 undef = .map eo := hdep 5 (by kernel_rfl) rfl _ rfl
        have e5 : a.tmps[30]?.getD undef = .map eo := by rw [← Array.getD_eq_getD_getElem?]; exact d5
        have hs : 31 < a.tmps.size := by rw [hsz]; exact (by decide : 31 < 54)
        clear hsz hold hdep hnot hlo hhi hrk
        refine stepR_do rfl (wanted_none rfl) ?_
        obtain ⟨hgw, hbx⟩ := hc
        have hbx : Bx W g2 101 cs := hbx
        have HCL := Lib.hid (clone_er (HEO.out W hgw))
        refine stepA_any (C := fun a W => ClC wr g2 cs (k5 + 3) fE fC 1 (a.tmps.getD 31 undef) (a.tmps.getD 36 undef) W) fun K hK => ?_
        go_simp
        refine HCL.out.mono ?_
        rintro e w' ⟨e', rfl, h1, h2, h3⟩
        refine hK _ _ (anyR_mk _ _ _) ⟨⟨h3.os.trans hgw.os, h3.tape.trans hgw.tape, h3.output.trans hgw.output, Nat.le_trans hgw.size h3.size, fun k hk hn => (h3.block k (Nat.lt_of_lt_of_le hk hgw.size)).trans (hgw.block k hk hn)⟩, hbx.call h3, e', ?_, h1, fun b hb => by rw [h2 b hb]; exact hgw.size⟩ trivial
        rw [put_getD_same hs]
      · intro r a W hc hsz hold hdep hnot hlo hhi hrk
        have o5 : a.tmps.getD 5 undef = .pointer (some ⟨g2, k5, none⟩) := hold 5 (by kernel_rfl)
        clear hsz hold hdep hnot hlo hhi hrk
        refine stepR_do rfl (wanted_none rfl) ?_
        refine stepA_val (v := .pointer (some ⟨g2, k5, none⟩)) (anyR_mk _ _ _) rfl fun K hK => ?_
        go_simp
        exact hK
      · intro r a W hc hsz hold hdep hnot hlo hhi hrk
        have d7 : a.tmps.getD 32 undef = .pointer (some ⟨g2, k5, none⟩) := hdep 7 (by kernel_rfl) rfl _ rfl
        clear hsz hold hdep hnot hlo hhi hrk
        refine stepR_do rfl (wanted_none rfl) ?_
        refine stepA_val (v := .pointer (some ⟨g2, k5, none⟩)) (anyR_mk _ _ _) rfl fun K hK => ?_
        go_simp
        exact hK
      · intro r a W hc hsz hold hdep hnot hlo hhi hrk
        have d8 : a.tmps.getD 33 undef = .pointer (some ⟨g2, k5, none⟩) := hdep 8 (by kernel_rfl) rfl _ rfl
        clear hsz hold hdep hnot hlo hhi hrk
        refine stepR_do rfl (wanted_none rfl) ?_
        refine stepA_val (v := .pointer (some ⟨g2, k5 + 4, none⟩)) (anyR_mk _ _ _) rfl fun K hK => ?_
        go_simp
        exact hK
      · intro r a W hc hsz hold hdep hnot hlo hhi hrk
        have d9 : a.tmps.getD 34 undef = .pointer (some ⟨g2, k5 + 4, none⟩) := hdep 9 (by kernel_rfl) rfl _ rfl
        have hr2 := hhi 14 2 rfl (by kernel_rfl)
        have q4 := (ClC.bx hc hr2).cell HQ4.out
        clear hsz hold hdep hnot hlo hhi hrk
        refine stepR_do rfl (wanted_none rfl) ?_
        refine stepA_val (v := .map co) (anyR_mk _ _ _) rfl fun K hK => ?_
        go_simp
        exact hK
      · intro r a W hc hsz hold hdep hnot hlo hhi hrk
        have hr := hrk 1 rfl
        subst hr
        have d10 : a.tmps.getD 35 undef = .map co := hdep 10 (by kernel_rfl) rfl _ rfl
        have e10 : a.tmps[35]?.getD undef = .map co := by rw [← Array.getD_eq_getD_getElem?]; exact d10
        have hs : 36 < a.tmps.size := by rw [hsz]; exact (by decide : 36 < 54)
        clear hsz hold hdep hnot hlo hhi hrk
        refine stepR_do rfl (wanted_none rfl) ?_
        obtain ⟨hgw, hbx, e', hv31, hE, hEb⟩ := hc
        have HCL := Lib.hid (clone_ch (HCO.out W hgw))
        refine stepA_any (C := fun a W => ClC wr g2 cs (k5 + 3) fE fC 2 (a.tmps.getD 31 undef) (a.tmps.getD 36 undef) W) fun K hK => ?_
        go_simp
        refine HCL.out.mono ?_
        rintro e w' ⟨c', rfl, h1, h2, h3⟩
        refine hK _ _ (anyR_mk _ _ _) ⟨⟨h3.os.trans hgw.os, h3.tape.trans hgw.tape, h3.output.trans hgw.output, Nat.le_trans hgw.size h3.size, fun k hk hn => (h3.block k (Nat.lt_of_lt_of_le hk hgw.size)).trans (hgw.block k hk hn)⟩, hbx.call h3, e', c', ?_, ?_, hE.kept fun b hb => h3.block b (hE.lt hb), h1, hEb, fun b hb => ⟨by rw [h2 b hb]; exact hgw.size, fun he => ?_⟩⟩ trivial
        · rw [put_getD_other (by decide)]; exact hv31
        · rw [put_getD_same hs]
        · have := hE.lt he
          have := h2 b hb
          omega
      · intro r a W hc hsz hold hdep hnot hlo hhi hrk
        have d0 : a.tmps.getD 25 undef = .pointer (some ⟨g2, k5, none⟩) := hdep 0 (by kernel_rfl) rfl _ rfl
        clear hsz hold hdep hnot hlo hhi hrk
        refine stepR_do rfl (wanted_none rfl) ?_
        refine stepA_val (v := .pointer (some ⟨g2, k5, none⟩)) (anyR_mk _ _ _) rfl fun K hK => ?_
        go_simp
        exact hK
      · intro r a W hc hsz hold hdep hnot hlo hhi hrk
        have d12 : a.tmps.getD 37 undef = .pointer (some ⟨g2, k5, none⟩) := hdep 12 (by kernel_rfl) rfl _ rfl
        clear hsz hold hdep hnot hlo hhi hrk
        refine stepR_do rfl (wanted_none rfl) ?_
        refine stepA_val (v := .pointer (some ⟨g2, k5 + 3, none⟩)) (anyR_mk _ _ _) rfl fun K hK => ?_
        go_simp
        exact hK
      · intro r a W hc hsz hold hdep hnot hlo hhi hrk
        have hr := hrk 2 rfl
        subst hr
        have d13 : a.tmps.getD 38 undef = .pointer (some ⟨g2, k5 + 3, none⟩) := hdep 13 (by kernel_rfl) rfl _ rfl
        have x6 := hdep 6 (by kernel_rfl) rfl _ rfl
        clear hsz hold hdep hnot hlo hhi hrk
        refine stepR_do rfl (wanted_none rfl) ?_
        obtain ⟨hgw, hbx, hcp⟩ := hc
        obtain ⟨e', c', hv31, hv36, h3, h4, h5, h6⟩ := id hcp
        have q3 := hbx.cell HQ3.out
        have qf := hbx.free (k5 + 3)
        have e31 : a.tmps[31]?.getD undef = .map e' := by rw [← Array.getD_eq_getD_getElem?]; exact hv31
        refine stepA_any (C := fun a W => ClC wr g2 cs (k5 + 3) fE fC 3 (a.tmps.getD 31 undef) (a.tmps.getD 36 undef) W) fun K hK => ?_
        go_simp
        refine hK undef _ (anyR_mk _ _ _) ⟨hgw.trans (grown_set W g2 (k5 + 3) (.map e')), ?_, ?_⟩ trivial
        · rw [put_none, hv31]; exact hbx.set (k5 + 3) (.map e')
        · rw [put_none]; exact hcp.store hbx (k5 + 3) (.map e')
      · intro r a W hc hsz hold hdep hnot hlo hhi hrk
        have d1 : a.tmps.getD 26 undef = .pointer (some ⟨g2, k5, none⟩) := hdep 1 (by kernel_rfl) rfl _ rfl
        clear hsz hold hdep hnot hlo hhi hrk
        refine stepR_do rfl (wanted_none rfl) ?_
        refine stepA_val (v := .pointer (some ⟨g2, k5, none⟩)) (anyR_mk _ _ _) rfl fun K hK => ?_
        go_simp
        exact hK
      · intro r a W hc hsz hold hdep hnot hlo hhi hrk
        have d15 : a.tmps.getD 39 undef = .pointer (some ⟨g2, k5, none⟩) := hdep 15 (by kernel_rfl) rfl _ rfl
        clear hsz hold hdep hnot hlo hhi hrk
        refine stepR_do rfl (wanted_none rfl) ?_
        refine stepA_val (v := .pointer (some ⟨g2, k5 + 4, none⟩)) (anyR_mk _ _ _) rfl fun K hK => ?_
        go_simp
        exact hK
      · intro r a W hc hsz hold hdep hnot hlo hhi hrk
        have hr := hrk 3 rfl
        subst hr
        have d16 : a.tmps.getD 40 undef = .pointer (some ⟨g2, k5 + 4, none⟩) := hdep 16 (by kernel_rfl) rfl _ rfl
        have x11 := hdep 11 (by kernel_rfl) rfl _ rfl
        clear hsz hold hdep hnot hlo hhi hrk
        refine stepR_do rfl (wanted_none rfl) ?_
        obtain ⟨hgw, hbx, hcp⟩ := hc
        obtain ⟨e', c', hv31, hv36, h3, h4, h5, h6⟩ := id hcp
        have q4 := hbx.cell (i := k5 + 4) (u := .map co) (by rw [List.getElem?_set_ne (by omega)]; exact HQ4.out)
        have qf := hbx.free (k5 + 4)
        have e36 : a.tmps[36]?.getD undef = .map c' := by rw [← Array.getD_eq_getD_getElem?]; exact hv36
        refine stepA_any (C := fun a W => ClC wr g2 cs (k5 + 3) fE fC 4 (a.tmps.getD 31 undef) (a.tmps.getD 36 undef) W) fun K hK => ?_
        go_simp
        refine hK undef _ (anyR_mk _ _ _) ⟨hgw.trans (grown_set W g2 (k5 + 4) (.map c')), ?_, ?_⟩ trivial
        · rw [put_none, hv36]; exact hbx.set (k5 + 4) (.map c')
        · rw [put_none]; exact hcp.store hbx (k5 + 4) (.map c')
      · intro a W hC hd hsz hold hval
        have d0 : a.tmps.getD 0 undef = .pointer (some ⟨g, 0, none⟩) := hold 0 (by kernel_rfl)
        have d1 : a.tmps.getD 1 undef = undef := hold 1 (by kernel_rfl)
        have d2 : a.tmps.getD 2 undef = .pointer none := hold 2 (by kernel_rfl)
        have d3 : a.tmps.getD 3 undef = .pointer (some ⟨ob, 0, none⟩) := hold 3 (by kernel_rfl)
        have d4 : a.tmps.getD 4 undef = .int .i64 ↑j := hold 4 (by kernel_rfl)
        have d5 : a.tmps.getD 5 undef = .pointer (some ⟨g2, k5, none⟩) := hold 5 (by kernel_rfl)
        have d6 : a.tmps.getD 6 undef = .pointer (some ⟨g, 0, none⟩) := hold 6 (by kernel_rfl)
        have d7 : a.tmps.getD 7 undef = .pointer (some ⟨g, 0, none⟩) := hold 7 (by kernel_rfl)
        have d8 : a.tmps.getD 8 undef = .agg #[.int .i64 ↑M.kind, .int .i64 ↑M.endu, .slice (some ⟨L.gs, 0, none⟩) n L.cap, .slice asc M.scr.length csc, .map L.lo] := hold 8 (by kernel_rfl)
        have d9 : a.tmps.getD 9 undef = .pointer (some ⟨g, 0, none⟩) := hold 9 (by kernel_rfl)
        have d10 : a.tmps.getD 10 undef = .pointer (some ⟨g, 0, none⟩) := hold 10 (by kernel_rfl)
        have d11 : a.tmps.getD 11 undef = .pointer (some ⟨g, 2, none⟩) := hold 11 (by kernel_rfl)
        have d12 : a.tmps.getD 12 undef = .slice (some ⟨L.gs, 0, none⟩) n L.cap := hold 12 (by kernel_rfl)
        have d13 : a.tmps.getD 13 undef = .slice (some ⟨g2, 0, none⟩) n cap2 := hold 13 (by kernel_rfl)
        have d14 : a.tmps.getD 14 undef = .pointer (some ⟨ob, 2, none⟩) := hold 14 (by kernel_rfl)
        have d15 : a.tmps.getD 15 undef = .pointer (some ⟨ob, 2, none⟩) := hold 15 (by kernel_rfl)
        have d16 : a.tmps.getD 16 undef = .slice (some ⟨g2, 0, none⟩) n cap2 := hold 16 (by kernel_rfl)
        have d17 : a.tmps.getD 17 undef = .int .i64 ↑n := hold 17 (by kernel_rfl)
        have d18 : a.tmps.getD 18 undef = .int .i64 ↑j := hold 18 (by kernel_rfl)
        have d19 : a.tmps.getD 19 undef = .bool true := hold 19 (by kernel_rfl)
        have d20 : a.tmps.getD 20 undef = .int .i64 ↑j := hold 20 (by kernel_rfl)
        have d21 : a.tmps.getD 21 undef = .pointer (some ⟨ob, 2, none⟩) := hold 21 (by kernel_rfl)
        have d22 : a.tmps.getD 22 undef = .slice (some ⟨g2, 0, none⟩) n cap2 := hold 22 (by kernel_rfl)
        have d23 : a.tmps.getD 23 undef = .int .i64 ↑j := hold 23 (by kernel_rfl)
        have d24 : a.tmps.getD 24 undef = .pointer (some ⟨g2, k5, none⟩) := hold 24 (by kernel_rfl)
        have d42 : a.tmps.getD 42 undef = undef := hold 42 (by kernel_rfl)
        have d43 : a.tmps.getD 43 undef = undef := hold 43 (by kernel_rfl)
        have d44 : a.tmps.getD 44 undef = undef := hold 44 (by kernel_rfl)
        have d45 : a.tmps.getD 45 undef = undef := hold 45 (by kernel_rfl)
        have d46 : a.tmps.getD 46 undef = undef := hold 46 (by kernel_rfl)
        have d47 : a.tmps.getD 47 undef = undef := hold 47 (by kernel_rfl)
        have d48 : a.tmps.getD 48 undef = undef := hold 48 (by kernel_rfl)
        have d49 : a.tmps.getD 49 undef = undef := hold 49 (by kernel_rfl)
        have d50 : a.tmps.getD 50 undef = undef := hold 50 (by kernel_rfl)
        have d51 : a.tmps.getD 51 undef = undef := hold 51 (by kernel_rfl)
        have d52 : a.tmps.getD 52 undef = undef := hold 52 (by kernel_rfl)
        have d53 : a.tmps.getD 53 undef = undef := hold 53 (by kernel_rfl)
        clear hold
        obtain ⟨tm, df⟩ := a
        replace hd : df = [] := hd
        replace hsz : tm.size = 54 := hsz
        replace d0 : tm.getD 0 undef = .pointer (some ⟨g, 0, none⟩) := d0
        replace d1 : tm.getD 1 undef = undef := d1
        replace d2 : tm.getD 2 undef = .pointer none := d2
        replace d3 : tm.getD 3 undef = .pointer (some ⟨ob, 0, none⟩) := d3
        replace d4 : tm.getD 4 undef = .int .i64 ↑j := d4
        replace d5 : tm.getD 5 undef = .pointer (some ⟨g2, k5, none⟩) := d5
        replace d6 : tm.getD 6 undef = .pointer (some ⟨g, 0, none⟩) := d6
        replace d7 : tm.getD 7 undef = .pointer (some ⟨g, 0, none⟩) := d7
        replace d8 : tm.getD 8 undef = .agg #[.int .i64 ↑M.kind, .int .i64 ↑M.endu, .slice (some ⟨L.gs, 0, none⟩) n L.cap, .slice asc M.scr.length csc, .map L.lo] := d8
        replace d9 : tm.getD 9 undef = .pointer (some ⟨g, 0, none⟩) := d9
        replace d10 : tm.getD 10 undef = .pointer (some ⟨g, 0, none⟩) := d10
        replace d11 : tm.getD 11 undef = .pointer (some ⟨g, 2, none⟩) := d11
        replace d12 : tm.getD 12 undef = .slice (some ⟨L.gs, 0, none⟩) n L.cap := d12
        replace d13 : tm.getD 13 undef = .slice (some ⟨g2, 0, none⟩) n cap2 := d13
        replace d14 : tm.getD 14 undef = .pointer (some ⟨ob, 2, none⟩) := d14
        replace d15 : tm.getD 15 undef = .pointer (some ⟨ob, 2, none⟩) := d15
        replace d16 : tm.getD 16 undef = .slice (some ⟨g2, 0, none⟩) n cap2 := d16
        replace d17 : tm.getD 17 undef = .int .i64 ↑n := d17
        replace d18 : tm.getD 18 undef = .int .i64 ↑j := d18
        replace d19 : tm.getD 19 undef = .bool true := d19
        replace d20 : tm.getD 20 undef = .int .i64 ↑j := d20
        replace d21 : tm.getD 21 undef = .pointer (some ⟨ob, 2, none⟩) := d21
        replace d22 : tm.getD 22 undef = .slice (some ⟨g2, 0, none⟩) n cap2 := d22
        replace d23 : tm.getD 23 undef = .int .i64 ↑j := d23
        replace d24 : tm.getD 24 undef = .pointer (some ⟨g2, k5, none⟩) := d24
        replace d42 : tm.getD 42 undef = undef := d42
        replace d43 : tm.getD 43 undef = undef := d43
        replace d44 : tm.getD 44 undef = undef := d44
        replace d45 : tm.getD 45 undef = undef := d45
        replace d46 : tm.getD 46 undef = undef := d46
        replace d47 : tm.getD 47 undef = undef := d47
        replace d48 : tm.getD 48 undef = undef := d48
        replace d49 : tm.getD 49 undef = undef := d49
        replace d50 : tm.getD 50 undef = undef := d50
        replace d51 : tm.getD 51 undef = undef := d51
        replace d52 : tm.getD 52 undef = undef := d52
        replace d53 : tm.getD 53 undef = undef := d53
        subst hd
        have e : tm = List.toArray (tm.getD 0 undef :: tm.getD 1 undef :: tm.getD 2 undef :: tm.getD 3 undef :: tm.getD 4 undef :: tm.getD 5 undef :: tm.getD 6 undef :: tm.getD 7 undef :: tm.getD 8 undef :: tm.getD 9 undef :: tm.getD 10 undef :: tm.getD 11 undef :: tm.getD 12 undef :: tm.getD 13 undef :: tm.getD 14 undef :: tm.getD 15 undef :: tm.getD 16 undef :: tm.getD 17 undef :: tm.getD 18 undef :: tm.getD 19 undef :: tm.getD 20 undef :: tm.getD 21 undef :: tm.getD 22 undef :: tm.getD 23 undef :: tm.getD 24 undef :: tm.getD 25 undef :: tm.getD 26 undef :: tm.getD 27 undef :: tm.getD 28 undef :: tm.getD 29 undef :: tm.getD 30 undef :: tm.getD 31 undef :: tm.getD 32 undef :: tm.getD 33 undef :: tm.getD 34 undef :: tm.getD 35 undef :: tm.getD 36 undef :: tm.getD 37 undef :: tm.getD 38 undef :: tm.getD 39 undef :: tm.getD 40 undef :: tm.getD 41 undef :: tm.getD 42 undef :: tm.getD 43 undef :: tm.getD 44 undef :: tm.getD 45 undef :: tm.getD 46 undef :: tm.getD 47 undef :: tm.getD 48 undef :: tm.getD 49 undef :: tm.getD 50 undef :: tm.getD 51 undef :: tm.getD 52 undef :: tm.getD 53 undef :: []) := arr_eq tm 54 hsz
        rw [d0, d1, d2, d3, d4, d5, d6, d7, d8, d9, d10, d11, d12, d13, d14, d15, d16, d17, d18, d19, d20, d21, d22, d23, d24, d42, d43, d44, d45, d46, d47, d48, d49, d50, d51, d52, d53] at e
        clear d0 d1 d2 d3 d4 d5 d6 d7 d8 d9 d10 d11 d12 d13 d14 d15 d16 d17 d18 d19 d20 d21 d22 d23 d24 d42 d43 d44 d45 d46 d47 d48 d49 d50 d51 d52 d53 hsz
        generalize tm.getD 25 undef = v25 at e
        generalize tm.getD 26 undef = v26 at e
        generalize tm.getD 27 undef = v27 at e
        generalize tm.getD 28 undef = v28 at e
        generalize tm.getD 29 undef = v29 at e
        generalize tm.getD 30 undef = v30 at e
        generalize tm.getD 31 undef = v31 at e
        generalize tm.getD 32 undef = v32 at e
        generalize tm.getD 33 undef = v33 at e
        generalize tm.getD 34 undef = v34 at e
        generalize tm.getD 35 undef = v35 at e
        generalize tm.getD 36 undef = v36 at e
        generalize tm.getD 37 undef = v37 at e
        generalize tm.getD 38 undef = v38 at e
        generalize tm.getD 39 undef = v39 at e
        generalize tm.getD 40 undef = v40 at e
        generalize tm.getD 41 undef = v41 at e
        subst e
        obtain ⟨hgw, hbx, e', c', hv31, hv36, hE, hC2, hE2, hC3⟩ : ClC wr g2 cs (k5 + 3) fE fC 4 _ _ W := hC
        rw [hv31, hv36, HCS.out, HK5.out] at hbx
        rw [HFE.out] at hE
        rw [HFC.out] at hC2
        have HNEW := Lib.hid (HCW.out.step HJS.out hgw hbx hE hC2 hE2 hC3)
        clear hgw hbx hv31 hv36 hE hC2 hE2 hC3 hval
        go_wp2_with fail
        refine ⟨⟨j + 1, _, by omega, by go_num, HNEW.out⟩, ?_⟩
        simp [RowKit.intOf]; omega
    · obtain rfl : j = n := by omega
      have HFL : Hid (ClW w3 wr g2 L.S S2 M sp L.S.length) := Lib.hid (by have := HCW.out; rwa [HNL.out] at this)
      have HMR := Lib.hid (HC.out.below HBWR.out)
      have d3 := HMR.out.cells.2.2.2.1
      rw [HVS.out] at d3
      go_wp2_with fail
      refine (sclone12 _ M.scr wr (by have := HMR.out.scr wr fun _ _ => rfl; rwa [HVS.out] at this) hsl).mono ?_
      rintro e w5 ⟨v5, rfl, ho5, hb5⟩
      obtain ⟨a5, c5, rfl⟩ := ownD_form ho5
      have HO5 := Lib.hid ho5
      have HBO5 := Lib.hid (HBR.out.call hb5)
      have HB5 := Lib.hid hb5
      have q3 := HBO5.out.cell (i := 3) rfl
      have qf := HBO5.out.free 3
      clear ho5 hb5 d3
      go_upto_region 10 with (fail)
      have HBO6 : Hid (Bx (w5.setCell ⟨ob, 3, none⟩ (.slice a5 M.scr.length c5)) ob 88 [.int .i64 M.kind, .int .i64 M.endu, .slice (some ⟨g2, 0, none⟩) j cap2, .slice a5 M.scr.length c5, .map L.lo]) := Lib.hid (HBO5.out.set 3 (.slice a5 M.scr.length c5))
      have HG6 : Hid (wr.grownBy (w5.setCell ⟨ob, 3, none⟩ (.slice a5 M.scr.length c5)) (some ob)) := Lib.hid ((show wr.grownBy w5 (some ob) from ⟨HB5.out.os, HB5.out.tape, HB5.out.output, HB5.out.size, fun k hk _ => HB5.out.block k hk⟩).trans (grown_set w5 ob 3 _))
      have HZ5 : Hid ((w5.setCell ⟨ob, 3, none⟩ (.slice a5 M.scr.length c5)).heap.size = w5.heap.size) := Lib.hid (by simp)
      have HK6 : Hid (∀ k, k ≠ ob → (w5.setCell ⟨ob, 3, none⟩ (.slice a5 M.scr.length c5)).heap[k]? = w5.heap[k]?) := Lib.hid fun k hk => Below.heap_setCell _ _ _ k hk
      generalize w5.setCell ⟨ob, 3, none⟩ (.slice a5 M.scr.length c5) = w6 at *
      clear q3 qf
      have HOW : Hid (w.heap.size ≤ ob) := Lib.hid (by rw [HOB.out]; exact Nat.le_refl _)
      have HBW6 := Lib.hid (HBWR.out.grown HG6.out HBWR.out.size fun k hk => by obtain rfl := Option.some.inj hk; exact HOW.out)
      have HM6 := Lib.hid (HC.out.below HBW6.out)
      have d4 := HM6.out.cells.2.2.2.2
      have HLO := Lib.hid (clone_lo (w := w6) (lo := L.lo) (n := M.n) (scr := M.scr) (K := R) (fun w' hw' => HM6.out.lost w' hw') (fun b hb => HM6.out.lt b (.inr hb)) HC.out.lor)
      go_wp2_with fail
      refine HLO.out.mono ?_
      rintro e w7 ⟨lo2, rfl, hl7, hl7b, hb7⟩
      have HBO7 := Lib.hid (HBO6.out.call hb7)
      have q4 := HBO7.out.cell (i := 4) rfl
      have qf := HBO7.out.free 4
      have HL7 := Lib.hid hl7
      have HL7B := Lib.hid hl7b
      have HB7 := Lib.hid hb7
      clear hl7 hl7b hb7 d4 HLO
      have hx8 : Bx (w7.setCell ⟨ob, 4, none⟩ (.map lo2)) ob 88 [.int .i64 M.kind, .int .i64 M.endu, .slice (some ⟨g2, 0, none⟩) L.S.length cap2, .slice a5 M.scr.length c5, .map lo2] := by
        have := HBO7.out.set 4 (.map lo2)
        rw [← HNL.out]
        exact this
      have hg8 : wr.grownBy (w7.setCell ⟨ob, 4, none⟩ (.map lo2)) (some ob) := HG6.out.trans ((show w6.grownBy w7 (some ob) from ⟨HB7.out.os, HB7.out.tape, HB7.out.output, HB7.out.size, fun k hk _ => HB7.out.block k hk⟩).trans (grown_set w7 ob 4 _))
      have hz8 : (w7.setCell ⟨ob, 4, none⟩ (.map lo2)).heap.size = w7.heap.size := by simp
      have hk8 : ∀ k, k ≠ ob → (w7.setCell ⟨ob, 4, none⟩ (.map lo2)).heap[k]? = w7.heap[k]? := fun k hk => Below.heap_setCell _ _ _ k hk
      have HFIN : Hid (CloP g M R w (.returned (.pointer (some ⟨ob, 0, none⟩))) (w7.setCell ⟨ob, 4, none⟩ (.map lo2))) := Lib.hid (by
        have hol : ob < w1.heap.size := HGO.out
        have h1g := HG2.out
        have hwl := HBWR.out.size
        have h3l := HFL.out.le.size
        have hg3 := HFL.out.lt
        have h5 := HB5.out.size
        have h6 := HZ5.out
        have h7 := HB7.out.size
        have hw1 := HA.out.size
        refine MedC.cloned HC.out HO.out HFL.out HBW3.out (by omega) ⟨HOW.out, by omega, by omega⟩ (by rw [← HNL.out]; exact HCAP.out) hx8 hg8 (b1 := wr.heap.size) (b2 := w5.heap.size) ⟨Nat.le_refl _, h5, by omega⟩ (fun wq hq => ?_) (fun wq hq => ?_) (fun b hb => ?_)
        · refine RdSc.moved HO5.out rfl fun k h1 h2 => (hq k h1 h2).trans ((hk8 k (by omega)).trans ((HB7.out.block k (by omega)).trans (HK6.out k (by omega))))
        · refine HL7.out wq fun k hk => (hq k hk).trans (hk8 k fun e => ?_)
          subst e
          rcases hk with h1 | h1
          · have := HC.out.lt k (.inr h1)
            have := HOW.out
            omega
          · have := (HL7B.out k h1).1
            omega
        · have := HL7B.out b hb
          omega)
      clear hx8 hg8 hz8 hk8
      go_wp2_with fail
      go_ret
      exact HFIN.out
end Go.Proofs.Ytpncjadhpnapnaa.D12
/- Chapter 12: several media beside each other. -/
namespace Go.Proofs.Ytpncjadhpnapnaa.D12
open Go.RowKit Go.Maps C9
open D13 (RdI ixI is)
set_option linter.unusedVariables false

/-- a medium and where it lies -/
structure MF where
  g : Nat
  M : Med
  X : Nat → Prop
  R : Nat → Prop
/-- 'n' media of the call's own, and blocks 'Z' that stay as they were in 'wz' -/
structure HaveN (w0 w : World) (n : Nat) (F : Nat → MF) (wz : World) (Z : Nat → Prop) : Prop where
  m : ∀ i, i < n → MedW w (F i).g (F i).M (F i).X (F i).R
  b : Below w0.heap.size w0 w
  x : ∀ i, i < n → ∀ b, (F i).X b ∨ (F i).R b → w0.heap.size ≤ b
  ap : ∀ i k, i < n → k < n → i ≠ k → ∀ b, (F i).X b → ¬ ((F k).X b ∨ (F k).R b)
  xz : ∀ i, i < n → ∀ b, (F i).X b → ¬ Z b
  z : ∀ k, Z k → k < w.heap.size ∧ w.heap[k]? = wz.heap[k]?
def upd (F : Nat → MF) (i : Nat) (a : MF) : Nat → MF := fun k => if k = i then a else F k
theorem upd_same (F : Nat → MF) (i : Nat) (a : MF) : upd F i a i = a := if_pos rfl
theorem upd_other (F : Nat → MF) {i k : Nat} (a : MF) (h : k ≠ i) : upd F i a k = F k := if_neg h
section
variable {w0 w w' wz : World} {n : Nat} {F : Nat → MF} {Z : Nat → Prop} {V : Int × Med} {e : Ending}
theorem HaveN.lt (h : HaveN w0 w n F wz Z) {i : Nat} (hi : i < n) : ∀ b, (F i).X b ∨ (F i).R b → b < w.heap.size := (h.m i hi).lt
theorem HaveN.below (h : HaveN w0 w n F wz Z) (hb : Below w.heap.size w w') : HaveN w0 w' n F wz Z :=
  ⟨fun i hi => (h.m i hi).below hb, h.b.trans (hb.mono h.b.size), h.x, h.ap, h.xz, fun k hk => ⟨Nat.lt_of_lt_of_le (h.z k hk).1 hb.size, (hb.block k (h.z k hk).1).trans (h.z k hk).2⟩⟩
theorem HaveN.step (h : HaveN w0 w n F wz Z) {i : Nat} (hi : i < n) (hw : WrP V (F i).g (F i).X (F i).R w e w') :
    e = .returned (.int .i64 V.1) ∧ ∃ X2 R2, HaveN w0 w' n (upd F i ⟨(F i).g, V.2, X2, R2⟩) wz Z := by
  obtain ⟨he, X2, R2, hm, hc⟩ := hw
  have hs := h.b.size
  refine ⟨he, X2, R2, fun k hk => ?_, h.b.trans (hc.below _ hs fun b hb => h.x i hi b (.inl hb)), fun k hk b hb => ?_, fun k m hk hm2 hne b hb h2 => ?_, fun k hk b hb hz => ?_, fun k hk => ?_⟩
  · by_cases e : k = i
    · subst e; rw [upd_same]; exact hm
    · rw [upd_other _ _ e]
      exact (h.m k hk).apart hc fun b hb => h.ap i k hi hk (Ne.symm e) b hb
  · by_cases e : k = i
    · subst e
      rw [upd_same] at hb
      rcases hb with h1 | h1
      · exact (hc.x b h1).elim (fun h2 => h.x k hk b (.inl h2)) (fun h2 => Nat.le_trans hs h2)
      · exact (hc.r b h1).elim (fun h2 => h.x k hk b (.inr h2)) (fun h2 => Nat.le_trans hs h2)
    · rw [upd_other _ _ e] at hb
      exact h.x k hk b hb
  · by_cases ek : k = i
    · subst ek
      have em : m ≠ k := Ne.symm hne
      rw [upd_same] at hb
      rw [upd_other _ _ em] at h2
      rcases hc.x b hb with h3 | h3
      · exact h.ap k m hk hm2 hne b h3 h2
      · have := h.lt hm2 b h2; omega
    · rw [upd_other _ _ ek] at hb
      have hbl := h.lt hk b (.inl hb)
      by_cases em : m = i
      · subst em
        rw [upd_same] at h2
        rcases h2 with h2 | h2
        · rcases hc.x b h2 with h3 | h3
          · exact h.ap k m hk hm2 hne b hb (.inl h3)
          · omega
        · rcases hc.r b h2 with h3 | h3
          · exact h.ap k m hk hm2 hne b hb (.inr h3)
          · omega
      · rw [upd_other _ _ em] at h2
        exact h.ap k m hk hm2 hne b hb h2
  · by_cases ek : k = i
    · subst ek
      rw [upd_same] at hb
      rcases hc.x b hb with h3 | h3
      · exact h.xz k hk b h3 hz
      · have := (h.z b hz).1; omega
    · rw [upd_other _ _ ek] at hb
      exact h.xz k hk b hb hz
  · obtain ⟨h1, h2⟩ := h.z k hk
    exact ⟨Nat.lt_of_lt_of_le h1 hc.size, (hc.block k h1 fun hx => h.xz i hi k hx hk).trans h2⟩
/-- another set of blocks that stay: those that are new -/
theorem HaveN.fix (h : HaveN w0 w n F wz Z) {w1 : World} (hb : Below w.heap.size w w1) : HaveN w0 w1 n F w1 (fun k => w.heap.size ≤ k ∧ k < w1.heap.size) := by
  have h1 := h.below hb
  exact ⟨h1.m, h1.b, h1.x, h1.ap, fun i hi b hx hz => by have := h.lt hi b (.inl hx); omega, fun k hk => ⟨hk.2, rfl⟩⟩
theorem HaveN.one {g : Nat} {M : Med} {X R : Nat → Prop} (h : Have w0 w g M X R) : HaveN w0 w 1 (fun _ => ⟨g, M, X, R⟩) w (fun _ => False) :=
  ⟨fun _ _ => h.m, h.b, fun _ _ => h.x, fun i k hi hk hne => by omega, fun _ _ _ _ h => h, fun _ h => h.elim⟩
/-- a clone beside them -/
theorem HaveN.clone (h : HaveN w0 w n F wz Z) {i : Nat} (hi : i < n) (hc : CloP (F i).g (F i).M (F i).R w e w') : ∃ g2 X2 R2, e = .returned (.pointer (some ⟨g2, 0, none⟩)) ∧ HaveN w0 w' (n + 1) (upd F n ⟨g2, (F i).M, X2, R2⟩) wz Z := by
  obtain ⟨g2, X2, R2, he, hm, hb, hx2, hr2⟩ := hc
  have h1 := h.below hb
  have hs := h.b.size
  have hlt : ∀ k, k < n → ∀ b, (F k).X b ∨ (F k).R b → b < w.heap.size := fun k hk => h.lt hk
  have hri : ∀ b, R2 b → ∀ k, k < n → ¬ (F k).X b := fun b hb k hk hx => by
    rcases hr2 b hb with h2 | h2
    · by_cases e : k = i
      · subst e
        obtain ⟨L, hL⟩ := h.m k hk
        exact hL.dis b hx h2
      · exact h.ap k i hk hi e b hx (.inr h2)
    · have := hlt k hk b (.inl hx); omega
  refine ⟨g2, X2, R2, he, fun k hk => ?_, h1.b, fun k hk b hb => ?_, fun k m hk hm2 hne b hb' h2 => ?_, fun k hk b hb' hz => ?_, h1.z⟩
  · by_cases e : k = n
    · subst e; rw [upd_same]; exact hm
    · rw [upd_other _ _ e]; exact h1.m k (by omega)
  · by_cases e : k = n
    · subst e
      rw [upd_same] at hb
      rcases hb with h2 | h2
      · exact Nat.le_trans hs (hx2 b h2)
      · exact (hr2 b h2).elim (fun h3 => h.x i hi b (.inr h3)) (fun h3 => Nat.le_trans hs h3)
    · rw [upd_other _ _ e] at hb
      exact h.x k (by omega) b hb
  · by_cases ek : k = n
    · subst ek
      have em : m ≠ k := Ne.symm hne
      rw [upd_same] at hb'
      rw [upd_other _ _ em] at h2
      have := hx2 b hb'
      have := hlt m (by omega) b h2
      omega
    · rw [upd_other _ _ ek] at hb'
      have hbl := hlt k (by omega) b (.inl hb')
      by_cases em : m = n
      · subst em
        rw [upd_same] at h2
        rcases h2 with h2 | h2
        · have := hx2 b h2; omega
        · exact hri b h2 k (by omega) hb'
      · rw [upd_other _ _ em] at h2
        exact h.ap k m (by omega) (by omega) hne b hb' h2
  · by_cases ek : k = n
    · subst ek
      rw [upd_same] at hb'
      have := hx2 b hb'
      have := (h.z b hz).1
      omega
    · rw [upd_other _ _ ek] at hb'
      exact h.xz k (by omega) b hb' hz
end
/-- three media -/
def fam3 (a b c : MF) : Nat → MF := fun k => match k with | 0 => a | 1 => b | _ => c
theorem HaveN.congr {w0 w wz : World} {n : Nat} {F G : Nat → MF} {Z : Nat → Prop} (h : HaveN w0 w n F wz Z) (hG : ∀ i, i < n → G i = F i) : HaveN w0 w n G wz Z :=
  ⟨fun i hi => by rw [hG i hi]; exact h.m i hi, h.b, fun i hi => by rw [hG i hi]; exact h.x i hi, fun i k hi hk => by rw [hG i hi, hG k hk]; exact h.ap i k hi hk, fun i hi => by rw [hG i hi]; exact h.xz i hi, h.z⟩
theorem fam3_upd0 (a b c d : MF) : ∀ i, i < 3 → fam3 d b c i = upd (fam3 a b c) 0 d i := fun i hi => by
  have : i = 0 ∨ i = 1 ∨ i = 2 := by omega
  rcases this with rfl | rfl | rfl <;> rfl
theorem fam3_upd1 (a b c d : MF) : ∀ i, i < 3 → fam3 a d c i = upd (fam3 a b c) 1 d i := fun i hi => by
  have : i = 0 ∨ i = 1 ∨ i = 2 := by omega
  rcases this with rfl | rfl | rfl <;> rfl
theorem fam3_upd2 (a b c d : MF) : ∀ i, i < 3 → fam3 a b d i = upd (fam3 a b c) 2 d i := fun i hi => by
  have : i = 0 ∨ i = 1 ∨ i = 2 := by omega
  rcases this with rfl | rfl | rfl <;> rfl
theorem fam3_make (a b c : MF) (G : Nat → MF) (h : G 0 = a) : ∀ i, i < 3 → fam3 a b c i = upd (upd G 1 b) 2 c i := fun i hi => by
  have : i = 0 ∨ i = 1 ∨ i = 2 := by omega
  rcases this with rfl | rfl | rfl
  · exact h.symm
  · rfl
  · rfl
section
variable {w0 w w' wz : World} {Z : Nat → Prop} {V : Int × Med} {e : Ending} {g : Nat} {A : Med} {X R : Nat → Prop} {a b c : MF}
theorem HaveN.m0 (h : HaveN w0 w 3 (fam3 ⟨g, A, X, R⟩ b c) wz Z) : MedW w g A X R ∧ ∀ b, X b → w0.heap.size ≤ b := ⟨h.m 0 (by omega), fun b hb => h.x 0 (by omega) b (.inl hb)⟩
theorem HaveN.m1 (h : HaveN w0 w 3 (fam3 a ⟨g, A, X, R⟩ c) wz Z) : MedW w g A X R ∧ ∀ b, X b → w0.heap.size ≤ b := ⟨h.m 1 (by omega), fun b hb => h.x 1 (by omega) b (.inl hb)⟩
theorem HaveN.m2 (h : HaveN w0 w 3 (fam3 a b ⟨g, A, X, R⟩) wz Z) : MedW w g A X R ∧ ∀ b, X b → w0.heap.size ≤ b := ⟨h.m 2 (by omega), fun b hb => h.x 2 (by omega) b (.inl hb)⟩
theorem HaveN.s0 (h : HaveN w0 w 3 (fam3 ⟨g, A, X, R⟩ b c) wz Z) (hw : WrP V g X R w e w') : e = .returned (.int .i64 V.1) ∧ ∃ X2 R2, HaveN w0 w' 3 (fam3 ⟨g, V.2, X2, R2⟩ b c) wz Z := by
  obtain ⟨he, X2, R2, h2⟩ := h.step (i := 0) (by omega) hw
  exact ⟨he, X2, R2, h2.congr (fam3_upd0 _ _ _ _)⟩
theorem HaveN.s1 (h : HaveN w0 w 3 (fam3 a ⟨g, A, X, R⟩ c) wz Z) (hw : WrP V g X R w e w') : e = .returned (.int .i64 V.1) ∧ ∃ X2 R2, HaveN w0 w' 3 (fam3 a ⟨g, V.2, X2, R2⟩ c) wz Z := by
  obtain ⟨he, X2, R2, h2⟩ := h.step (i := 1) (by omega) hw
  exact ⟨he, X2, R2, h2.congr (fam3_upd1 _ _ _ _)⟩
theorem HaveN.s2 (h : HaveN w0 w 3 (fam3 a b ⟨g, A, X, R⟩) wz Z) (hw : WrP V g X R w e w') : e = .returned (.int .i64 V.1) ∧ ∃ X2 R2, HaveN w0 w' 3 (fam3 a b ⟨g, V.2, X2, R2⟩) wz Z := by
  obtain ⟨he, X2, R2, h2⟩ := h.step (i := 2) (by omega) hw
  exact ⟨he, X2, R2, h2.congr (fam3_upd2 _ _ _ _)⟩
end
theorem readR_bd (M : Med) (a : Int) : (M.readR a).2.1.length ≤ 2352 ∧ ∀ x ∈ (M.readR a).2.1, -9223372036854775808 ≤ x ∧ x ≤ 9223372036854775807 := by
  have hg : ∀ i, (M.gone i).length ≤ 2352 := fun i => by
    unfold Med.gone
    rw [List.length_map]
    exact Nat.le_trans (List.length_filter_le _ _) (by simp)
  have hn : ∀ c : Int, (([], [], c) : List UInt8 × List Int × Int).2.1.length ≤ 2352 ∧ ∀ x ∈ (([], [], c) : List UInt8 × List Int × Int).2.1, -9223372036854775808 ≤ x ∧ x ≤ 9223372036854775807 := fun c => ⟨Nat.zero_le _, fun x hx => by cases hx⟩
  by_cases hr : 0 ≤ a ∧ a < M.n
  · by_cases h0 : (M.sec a.toNat).st = 0
    · have e : M.readR a = ([], [], 8) := by unfold Med.readR; rw [if_pos hr, if_pos h0]
      rw [e]
      exact hn 8
    · by_cases h1 : (M.sec a.toNat).st = 1
      · have e : M.readR a = (M.out a.toNat, M.gone a.toNat, 0) := by unfold Med.readR; rw [if_pos hr, if_neg h0, if_pos h1]
        rw [e]
        dsimp only
        exact ⟨hg a.toNat, fun x hx => by have := gone_bd M a.toNat x hx; omega⟩
      · have e : M.readR a = ([], [], 9) := by unfold Med.readR; rw [if_pos hr, if_neg h0, if_neg h1]
        rw [e]
        exact hn 9
  · have e : M.readR a = ([], [], 2) := by unfold Med.readR; rw [if_neg hr]
    rw [e]
    exact hn 2
theorem acts_ok {M : Med} {N : Nat} (h : M.Ok N) : ∀ l : List AC, (M.acts l).Ok (N + l.length)
  | [] => h
  | a :: l => by
    have h1 := acts_ok (h.act a) l
    have e : N + (a :: l).length = N + 1 + l.length := by simp only [List.length_cons]; omega
    rw [e]
    exact h1
theorem act_n (M : Med) (a : AC) : (M.act a).2.n = M.n := by
  have hw : ∀ i st raw, (M.write i st raw).2.n = M.n := fun i st raw => by
    unfold Med.write
    split
    · rfl
    · split
      · rfl
      · split
        · exact Med.put_n _ _ _
        · exact Med.put_n _ _ _
  unfold Med.act
  split
  · unfold Med.record
    split
    · split
      · exact hw _ _ _
      · rfl
    · rfl
  · split
    · unfold Med.tear
      split
      · exact hw _ _ _
      · rfl
    · split
      · unfold Med.erase
        split
        · split
          · rfl
          · split
            · rfl
            · exact Med.put_n _ _ _
        · rfl
      · split
        · unfold Med.scratch
          split
          · rfl
          · split <;> rfl
        · unfold Med.damage
          split
          · exact Med.put_n _ _ _
          · rfl
theorem acts_n : ∀ (l : List AC) (M : Med), (M.acts l).n = M.n
  | [], M => rfl
  | a :: l, M => (acts_n l (M.act a).2).trans (act_n M a)
theorem acts_take {M : Med} {l : List AC} {k : Nat} (h : k < l.length) : M.acts (l.take (k + 1)) = ((M.acts (l.take k)).act l[k]).2 := by
  rw [List.take_succ_eq_append_getElem h, Med.acts_snoc]
end Go.Proofs.Ytpncjadhpnapnaa.D12
/- Chapter 12: MediumClones. -/
namespace Go.Proofs.Ytpncjadhpnapnaa.D12
open Go.RowKit Go.Maps C9
open D13 (RdI ixI is)
set_option linter.unusedVariables false

def mSel (r k : Nat) (A B : Med) : Med := if r ≤ k then A else B
/-- while the same call is done to two media -/
def TwoC (w wa : World) (ab g h d : Nat) (A B A' : Med) (r : Nat) (W : World) : Prop :=
  ∃ X0 R0 X1 R1 X2 R2, HaveN w W 3 (fam3 ⟨g, mSel r 0 A A', X0, R0⟩ ⟨h, B, X1, R1⟩ ⟨d, mSel r 1 A A', X2, R2⟩) wa (fun k => k = ab)
theorem TwoC.box {w wa W : World} {ab g h d r : Nat} {A B A' : Med} (hc : TwoC w wa ab g h d A B A' r W) {t : TypeId} {cs : List Value} (hb : Bx wa ab t cs) : Bx W ab t cs := by
  obtain ⟨_, _, _, _, _, _, hn⟩ := hc
  exact (hn.z ab rfl).2.trans hb
def twoV (g d ab : Nat) (xa : AC) (sa aE aC : Option Addr) (sc cE cC : Nat) (z : Int) (i : Nat) (v : Value) (W : World) : Prop := match i with
  | 0 => v = .pointer (some ⟨g, 0, none⟩)
  | 1 => v = .agg #[.int .i64 xa.kind, .int .i64 xa.at_, .int .i64 xa.byte, .bool xa.short, .slice sa xa.scr.length sc, .int .i64 xa.dam.lba, .slice aE xa.dam.er.length cE, .slice aC xa.dam.ch.length cC]
  | 2 => v = .int .i64 z
  | 3 => v = .pointer (some ⟨d, 0, none⟩)
  | 4 => v = .agg #[.int .i64 xa.kind, .int .i64 xa.at_, .int .i64 xa.byte, .bool xa.short, .slice sa xa.scr.length sc, .int .i64 xa.dam.lba, .slice aE xa.dam.er.length cE, .slice aC xa.dam.ch.length cC]
  | 5 => v = .int .i64 z
  | 6 => v = .bool false
  | _ => True
def twoVE : Nat → Option Nat
  | 2 => some 0
  | 5 => some 1
  | _ => none
theorem twoV_keep (g d ab : Nat) (xa : AC) (sa aE aC : Option Addr) (sc cE cC : Nat) (z : Int) (i r : Nat) (v : Value) (W W' : World) (hk : ∀ k, twoVE i = some k → k < r) (hR : (anyR) r W W') (h : twoV g d ab xa sa aE aC sc cE cC z i v W) : twoV g d ab xa sa aE aC sc cE cC z i v W' := by
  unfold twoV at h ⊢
  split at h <;> first | exact h
/-- a call of the laws, its value written out -/
theorem act12x {w : World} {g : Nat} {M : Med} {X R : Nat → Prop} {N : Nat} (h : MedW w g M X R) (ho : M.Ok N) (hN : N ≤ 1000000) (x : AV) {w0 : World} (hx : CameAV w0 x) (h0 : Below w0.heap.size w0 w) (hX : ∀ b, X b → w0.heap.size ≤ b) (hs : smallA x.a = true) :
    Calls Try.prog 23 #[.pointer (some ⟨g, 0, none⟩), .agg #[.int .i64 x.a.kind, .int .i64 x.a.at_, .int .i64 x.a.byte, .bool x.a.short, x.vs, .int .i64 x.a.dam.lba, x.vE, x.vC]] w (WrP (M.act x.a) g X R w) := act12 h ho hN x hx h0 hX hs
theorem acts_snoc2 (M : Med) (l : List AC) (k : Nat) (a : AC) (h : l.take (k + 1) = l.take k ++ [a]) : M.acts (l.take (k + 1)) = ((M.acts (l.take k)).act a).2 := by rw [h, Med.acts_snoc]
set_option maxRecDepth 100000 in
set_option maxHeartbeats 8000000 in
theorem clones_law1 (w : World) (a : Int) (ha : (Lit.int .u8 a).wf = true) (v1 : Value) (l : List AV) (h1 : CameActs w v1 l) (v2 : Value) (m : List AV) (h2 : CameActs w v2 m) :
    Calls Try.prog 7 #[.bool false, .int .u8 a, v1, v2] w fun e w' => e = .returned (.bool true) ∧ Below w.heap.size w w' := by
  obtain ⟨ha0, ha1⟩ := u8_wf ha
  clear ha
  obtain ⟨y, rfl⟩ : ∃ y : Nat, a = y := ⟨a.toNat, by omega⟩
  obtain ⟨al, cl, rfl, _⟩ := RdD.form h1.1
  obtain ⟨am, cm, rfl, _⟩ := RdD.form h2.1
  have HL := Lib.hid h1
  have HM := Lib.hid h2
  have hl63 := h1.2.1
  have hm63 := h2.2.1
  clear h1 h2
  have HAW := Lib.hid (awake12 w)
  obtain ⟨n, hn⟩ : ∃ n : Nat, n = 1 + y % 6 := ⟨_, rfl⟩
  have hn1 : (1 : Int) + (y : Int) % 6 = (n : Int) := by omega
  have hnb : 1 ≤ n ∧ n ≤ 6 := by omega
  have HNEW := Lib.hid (fun W => new12 1 (n : Nat) 4 (by unfold newOk; omega) W)
  rw [show (1 : Int).toNat = 1 from rfl, show (4 : Int).toNat = 4 from rfl, Int.toNat_natCast] at HNEW
  have HFL := Lib.hid (fun W (hW : Below w.heap.size w W) => few12 (HL.out.keep hW))
  have HFM := Lib.hid (fun W (hW : Below w.heap.size w W) => few12 (HM.out.keep hW))
  clear hn
  go_enter Try.func7, Try.ntmps7
  go_wp2_with fail
  refine HAW.out.mono ?_
  rintro e w1 ⟨rfl, hb1⟩
  have HB1 := Lib.hid hb1
  clear hb1
  go_wp2_with fail
  refine (HFL.out _ HB1.out).mono ?_
  rintro e w' ⟨rfl, rfl⟩
  cases hfl : fewR l with
  | false =>
    clear hfl
    go_wp2_with fail
    go_ret
    exact ⟨rfl, HB1.out⟩
  | true =>
  obtain ⟨hs1, hl40⟩ := (fewR_iff l).1 hfl
  have lS := Lib.hid hs1
  clear hs1 hfl
  go_wp2_with fail
  refine (HFM.out _ HB1.out).mono ?_
  rintro e w' ⟨rfl, rfl⟩
  cases hfm : fewR m with
  | false =>
    clear hfm
    go_wp2_with fail
    go_ret
    exact ⟨rfl, HB1.out⟩
  | true =>
  obtain ⟨hs2, hm40⟩ := (fewR_iff m).1 hfm
  have mS := Lib.hid hs2
  clear hs2 hfm HFL HFM
  go_wp2_with fail
  refine (HNEW.out _).mono ?_
  rintro e w2 hw
  obtain ⟨g, X2, R2, rfl, hm2, hb2, hx2⟩ := hw
  obtain ⟨M0, hM0⟩ : ∃ M0, M0 = medNew 1 n 4 := ⟨_, rfl⟩
  rw [← hM0] at hm2
  have HOK0 : Hid (M0.Ok 0) := Lib.hid (by rw [hM0]; exact medNew_ok (by omega) (by omega) (by omega))
  have HN0 : Hid (M0.n = n) := Lib.hid (by rw [hM0]; simp [medNew, Med.n])
  have H2 : Hid (HaveN w w2 1 (fun _ => ⟨g, M0, X2, R2⟩) w2 (fun _ => False)) := Lib.hid (HaveN.one ⟨hm2, HB1.out.trans (hb2.mono HB1.out.size), fun b hb => Nat.le_trans HB1.out.size (hx2 b hb)⟩)
  clear hm2 hb2 hx2 hM0 hn1
  go_wp2_with fail
  go_loopw [68] (fun vk wr => ∃ k X R, k ≤ l.length ∧ vk = .int .i64 (k : Nat) ∧ HaveN w wr 1 (fun _ => ⟨g, M0.acts ((l.map AV.a).take k), X, R⟩) w2 (fun _ => False)) (fun vk _ => l.length - (RowKit.intOf vk).toNat)
  case atStart => exact ⟨0, X2, R2, by omega, rfl, H2.out⟩
  case round =>
    obtain ⟨k, X, R, hk, rfl, hh⟩ := hrel
    have HH := Lib.hid hh
    clear hh
    have HOKK : Hid ((M0.acts ((l.map AV.a).take k)).Ok 100) := Lib.hid ((acts_ok HOK0.out _).mono (by rw [List.length_take]; omega))
    by_cases hlt : k < l.length
    · obtain ⟨bl, off, hcell⟩ := RdD.at (HL.out.keep HH.out.b).1
      obtain ⟨hva, hrange⟩ := hcell k hlt
      have hx := HL.out.2.2 k hlt
      have hsm := lS.out k hlt
      have HTK : Hid ((l.map AV.a).take (k + 1) = (l.map AV.a).take k ++ [(atD avz l k).a]) := Lib.hid (by
        rw [List.take_succ_eq_append_getElem (by rw [List.length_map]; exact hlt)]
        simp [atD, hlt])
      have hix := fun w' => run_idxS Try.underlying54 Try.sizeAct (cap := cl) (n := l.length) (k := k) (b := bl) (off := off) hva hlt _ rfl w'
      generalize atD avz l k = x at *
      obtain ⟨xa, xvs, xvE, xvC⟩ := x
      obtain ⟨sa, sc, rfl, _⟩ := RdD.form (show RdSc _ xvs xa.scr from hx.s.1)
      obtain ⟨aE, cE, rfl, _⟩ := RdS.form (show RdS _ 1 xvE xa.dam.er.length _ from hx.d.er.1)
      obtain ⟨aC, cC, rfl, _⟩ := RdD.form (show RdCh _ xvC xa.dam.ch from hx.d.ch.1)
      have c0 := hrange 0 _ rfl
      have c1 := hrange 1 _ rfl
      have c2 := hrange 2 _ rfl
      have c3 := hrange 3 _ rfl
      have c4 := hrange 4 _ rfl
      have c5 := hrange 5 _ rfl
      have c6 := hrange 6 _ rfl
      have c7 := hrange 7 _ rfl
      simp only [Nat.add_zero] at c0
      have HX := Lib.hid hx
      have HSM := Lib.hid hsm
      have hA := (Below.refl wr.heap.size wr).alloc (Nat.le_refl _) (.cells #[.int .i64 xa.kind, .int .i64 xa.at_, .int .i64 xa.byte, .bool xa.short, .slice sa xa.scr.length sc, .int .i64 xa.dam.lba, .slice aE xa.dam.er.length cE, .slice aC xa.dam.ch.length cC] 46)
      have HA := Lib.hid (HH.out.below hA)
      have HACT := Lib.hid (act12x (HA.out.m 0 (by omega)) HOKK.out (by omega) ⟨xa, .slice sa xa.scr.length sc, .slice aE xa.dam.er.length cE, .slice aC xa.dam.ch.length cC⟩ HX.out HA.out.b (fun b hb => HA.out.x 0 (by omega) b (.inl hb)) HSM.out)
      clear hcell hva hrange hx hsm hA
      go_wp2_with fail
      refine HACT.out.mono ?_
      rintro e w5 hw
      obtain ⟨rfl, X5, R5, h5⟩ := HA.out.step (i := 0) (by omega) hw
      rw [← acts_snoc2 _ _ _ _ HTK.out] at h5
      have H5 : Hid (HaveN w w5 1 (fun _ => ⟨g, M0.acts ((l.map AV.a).take (k + 1)), X5, R5⟩) w2 (fun _ => False)) := Lib.hid (h5.congr fun i hi => by
        obtain rfl : i = 0 := by omega
        exact (upd_same _ _ _).symm)
      clear h5 hw
      go_wp2_with fail
      go_roundw
      case rel => exact ⟨k + 1, X5, R5, by omega, by go_num, H5.out⟩
      case measure => simp [RowKit.intOf]; omega
    · obtain rfl : k = l.length := by omega
      obtain ⟨M1, hM1⟩ : ∃ M1, M1 = M0.acts ((l.map AV.a).take l.length) := ⟨_, rfl⟩
      rw [← hM1] at HH HOKK
      have HOK1 : Hid (M1.Ok 40) := Lib.hid (by rw [hM1]; exact (acts_ok HOK0.out _).mono (by rw [List.length_take]; omega))
      have HN1 : Hid (M1.n = n) := Lib.hid (by rw [hM1, acts_n]; exact HN0.out)
      clear hM1 hlt hk H2
      go_wp2_with fail
      refine (clone12 (HH.out.m 0 (by omega)) HOKK.out).mono ?_
      rintro e w5 hw
      obtain ⟨h, X5, R5, rfl, h5⟩ := HH.out.clone (i := 0) (by omega) hw
      have H5 := Lib.hid h5
      clear h5 hw
      go_wp2_with fail
      refine (clone12 (H5.out.m 0 (by omega)) HOKK.out).mono ?_
      rintro e w6 hw
      obtain ⟨d, X6, R6, rfl, h6⟩ := H5.out.clone (i := 0) (by omega) hw
      have H6 : Hid (HaveN w w6 3 (fam3 ⟨g, M1, X, R⟩ ⟨h, M1, X5, R5⟩ ⟨d, M1, X6, R6⟩) w2 (fun _ => False)) := Lib.hid (h6.congr (fam3_make _ _ _ _ rfl))
      clear h6 hw H5
      go_wp2_with fail
      obtain ⟨wo, rfl⟩ : ∃ wo : World, wo = wr := ⟨_, rfl⟩
      clear HH
      go_loopw [88] (fun vk wr => ∃ k X1 R1, k ≤ m.length ∧ vk = .int .i64 (k : Nat) ∧ HaveN w wr 3 (fam3 ⟨g, M1, X, R⟩ ⟨h, M1.acts ((m.map AV.a).take k), X1, R1⟩ ⟨d, M1, X6, R6⟩) w2 (fun _ => False)) (fun vk _ => m.length - (RowKit.intOf vk).toNat)
      case atStart => exact ⟨0, X5, R5, by omega, rfl, H6.out⟩
      case round =>
        obtain ⟨k, X7, R7, hk, rfl, hh⟩ := hrel
        have HH := Lib.hid hh
        clear hh
        have HOKK : Hid ((M1.acts ((m.map AV.a).take k)).Ok 100) := Lib.hid ((acts_ok HOK1.out _).mono (by rw [List.length_take]; omega))
        by_cases hlt : k < m.length
        · obtain ⟨bl, off, hcell⟩ := RdD.at (HM.out.keep HH.out.b).1
          obtain ⟨hva, hrange⟩ := hcell k hlt
          have hx := HM.out.2.2 k hlt
          have hsm := mS.out k hlt
          have HTK : Hid ((m.map AV.a).take (k + 1) = (m.map AV.a).take k ++ [(atD avz m k).a]) := Lib.hid (by
            rw [List.take_succ_eq_append_getElem (by rw [List.length_map]; exact hlt)]
            simp [atD, hlt])
          have hix := fun w' => run_idxS Try.underlying54 Try.sizeAct (cap := cm) (n := m.length) (k := k) (b := bl) (off := off) hva hlt _ rfl w'
          generalize atD avz m k = x at *
          obtain ⟨xa, xvs, xvE, xvC⟩ := x
          obtain ⟨sa, sc, rfl, _⟩ := RdD.form (show RdSc _ xvs xa.scr from hx.s.1)
          obtain ⟨aE, cE, rfl, _⟩ := RdS.form (show RdS _ 1 xvE xa.dam.er.length _ from hx.d.er.1)
          obtain ⟨aC, cC, rfl, _⟩ := RdD.form (show RdCh _ xvC xa.dam.ch from hx.d.ch.1)
          have c0 := hrange 0 _ rfl
          have c1 := hrange 1 _ rfl
          have c2 := hrange 2 _ rfl
          have c3 := hrange 3 _ rfl
          have c4 := hrange 4 _ rfl
          have c5 := hrange 5 _ rfl
          have c6 := hrange 6 _ rfl
          have c7 := hrange 7 _ rfl
          simp only [Nat.add_zero] at c0
          have HX := Lib.hid hx
          have HSM := Lib.hid hsm
          have hA := (Below.refl wr.heap.size wr).alloc (Nat.le_refl _) (.cells #[.int .i64 xa.kind, .int .i64 xa.at_, .int .i64 xa.byte, .bool xa.short, .slice sa xa.scr.length sc, .int .i64 xa.dam.lba, .slice aE xa.dam.er.length cE, .slice aC xa.dam.ch.length cC] 46)
          have HA := Lib.hid (HH.out.below hA)
          have HACT := Lib.hid (act12x HA.out.m1.1 HOKK.out (by omega) ⟨xa, .slice sa xa.scr.length sc, .slice aE xa.dam.er.length cE, .slice aC xa.dam.ch.length cC⟩ HX.out HA.out.b HA.out.m1.2 HSM.out)
          clear hcell hva hrange hx hsm hA
          go_wp2_with fail
          refine HACT.out.mono ?_
          rintro e w8 hw
          obtain ⟨rfl, X8, R8, h8⟩ := HA.out.s1 hw
          rw [← acts_snoc2 _ _ _ _ HTK.out] at h8
          have H8 := Lib.hid h8
          clear h8 hw
          go_wp2_with fail
          go_roundw
          case rel => exact ⟨k + 1, X8, R8, by omega, by go_num, H8.out⟩
          case measure => simp [RowKit.intOf]; omega
        · obtain rfl : k = m.length := by omega
          obtain ⟨M2, hM2⟩ : ∃ M2, M2 = M1.acts ((m.map AV.a).take m.length) := ⟨_, rfl⟩
          rw [← hM2] at HH HOKK
          have HM2 := Lib.hid hM2
          have HN2 : Hid (M2.n = n) := Lib.hid (by rw [hM2, acts_n]; exact HN1.out)
          clear hM2 hlt hk H6
          go_wp2_with fail
          obtain ⟨wS, rfl⟩ : ∃ wS : World, wS = wr := ⟨_, rfl⟩
          have HOK1' := Lib.hid (HOK1.out.mono (show 40 ≤ 100 by omega))
          go_loopw [97] (fun vk wr => ∃ i : Nat, i ≤ n ∧ vk = .int .i64 i ∧ Below wS.heap.size wS wr) (fun vk _ => n - (RowKit.intOf vk).toNat)
          case atStart => exact ⟨0, by omega, rfl, Below.refl _ _⟩
          case round =>
            obtain ⟨i, hi, rfl, hb⟩ := hrel
            have HB := Lib.hid hb
            obtain ⟨wi, rfl⟩ : ∃ wi : World, wi = wr := ⟨_, rfl⟩
            clear hb
            by_cases hlt : i < n
            · go_wp2_with fail
              refine (read12 (HH.out.below HB.out).m0.1 HOK1'.out i).mono ?_
              rintro e w8 ⟨v8, rfl, ho8, hb8⟩
              obtain ⟨a8, c8, rfl⟩ := ownD_form ho8
              have HB8 := Lib.hid (HB.out.trans (hb8.mono HB.out.size))
              have HO8 := Lib.hid ho8
              clear ho8 hb8
              go_wp2_with fail
              refine (read12 (HH.out.below HB8.out).m2.1 HOK1'.out i).mono ?_
              rintro e w9 ⟨v9, rfl, ho9, hb9⟩
              obtain ⟨a9, c9, rfl⟩ := ownD_form ho9
              have HB9 := Lib.hid (HB8.out.trans (hb9.mono HB8.out.size))
              have HO9 := Lib.hid ho9
              have HO8' := Lib.hid (ownD_keep HO8.out hb9)
              clear ho9 hb9
              go_wp2_with fail
              refine (count12 (HH.out.below HB9.out).m0.1 HOK1'.out.n.2 i).mono ?_
              rintro e w10 ⟨rfl, hb10⟩
              have HB10 := Lib.hid (HB9.out.trans (hb10.mono HB9.out.size))
              have HO9a := Lib.hid (ownD_keep HO9.out hb10)
              have HO8a := Lib.hid (ownD_keep HO8'.out hb10)
              clear hb10
              go_wp2_with fail
              refine (count12 (HH.out.below HB10.out).m2.1 HOK1'.out.n.2 i).mono ?_
              rintro e w11 ⟨rfl, hb11⟩
              have HB11 := Lib.hid (HB10.out.trans (hb11.mono HB10.out.size))
              have hbd := readR_bd M1 (i : Int)
              have HEQ := Lib.hid (equal12 (D13.rdI_own (ownD_keep HO8a.out hb11) rfl (by omega) hbd.2) (D13.rdI_own (ownD_keep HO9a.out hb11) rfl (by omega) hbd.2))
              rw [decide_eq_true rfl] at HEQ
              clear hb11 hbd
              go_wp2_with fail
              refine HEQ.out.mono ?_
              rintro e w12 ⟨rfl, hb12⟩
              have HB12 := Lib.hid (HB11.out.trans (hb12.mono HB11.out.size))
              clear hb12
              go_wp2_with fail
              go_roundw
              case rel => exact ⟨i + 1, by omega, by go_num, HB12.out⟩
              case measure => simp [RowKit.intOf]; omega
            · have HT := Lib.hid (HH.out.below HB.out)
              clear hi HH
              go_wp2_with fail
              clear hlt
              obtain ⟨X9, hX9⟩ : ∃ X9, X9 = X7 := ⟨_, rfl⟩
              clear hX9
              go_loopw [148] (fun vk wr => ∃ k X0 R0 X1 R1 X2 R2, k ≤ m.length ∧ vk = .int .i64 (k : Nat) ∧ HaveN w wr 3 (fam3 ⟨g, M1.acts ((m.map AV.a).take k), X0, R0⟩ ⟨h, M2, X1, R1⟩ ⟨d, M1.acts ((m.map AV.a).take k), X2, R2⟩) w2 (fun _ => False)) (fun vk _ => m.length - (RowKit.intOf vk).toNat)
              case atStart => exact ⟨0, X, R, X7, R7, X6, R6, by omega, rfl, HT.out⟩
              case round =>
                obtain ⟨k, X0, R0, X1, R1, X2, R2, hk, rfl, hh⟩ := hrel
                have HH := Lib.hid hh
                clear hh
                have HOKK : Hid ((M1.acts ((m.map AV.a).take k)).Ok 100) := Lib.hid ((acts_ok HOK1.out _).mono (by rw [List.length_take]; omega))
                by_cases hlt : k < m.length
                · obtain ⟨bl, off, hcell⟩ := RdD.at (HM.out.keep HH.out.b).1
                  obtain ⟨hva, hrange⟩ := hcell k hlt
                  have hx := HM.out.2.2 k hlt
                  have hsm := mS.out k hlt
                  have HTK : Hid ((m.map AV.a).take (k + 1) = (m.map AV.a).take k ++ [(atD avz m k).a]) := Lib.hid (by
                    rw [List.take_succ_eq_append_getElem (by rw [List.length_map]; exact hlt)]
                    simp [atD, hlt])
                  have hix := fun w' => run_idxS Try.underlying54 Try.sizeAct (cap := cm) (n := m.length) (k := k) (b := bl) (off := off) hva hlt _ rfl w'
                  generalize atD avz m k = x at *
                  obtain ⟨xa, xvs, xvE, xvC⟩ := x
                  obtain ⟨sa, sc, rfl, _⟩ := RdD.form (show RdSc _ xvs xa.scr from hx.s.1)
                  obtain ⟨aE, cE, rfl, _⟩ := RdS.form (show RdS _ 1 xvE xa.dam.er.length _ from hx.d.er.1)
                  obtain ⟨aC, cC, rfl, _⟩ := RdD.form (show RdCh _ xvC xa.dam.ch from hx.d.ch.1)
                  have c0 := hrange 0 _ rfl
                  have c1 := hrange 1 _ rfl
                  have c2 := hrange 2 _ rfl
                  have c3 := hrange 3 _ rfl
                  have c4 := hrange 4 _ rfl
                  have c5 := hrange 5 _ rfl
                  have c6 := hrange 6 _ rfl
                  have c7 := hrange 7 _ rfl
                  simp only [Nat.add_zero] at c0
                  have HX := Lib.hid hx
                  have HSM := Lib.hid hsm
                  have hA := (Below.refl wr.heap.size wr).alloc (Nat.le_refl _) (.cells #[.int .i64 xa.kind, .int .i64 xa.at_, .int .i64 xa.byte, .bool xa.short, .slice sa xa.scr.length sc, .int .i64 xa.dam.lba, .slice aE xa.dam.er.length cE, .slice aC xa.dam.ch.length cC] 46)
                  have HA := Lib.hid (HH.out.below hA)
                  obtain ⟨A2, hA2⟩ : ∃ A2, A2 = ((M1.acts ((m.map AV.a).take k)).act xa).2 := ⟨_, rfl⟩
                  obtain ⟨z, hz⟩ : ∃ z, z = ((M1.acts ((m.map AV.a).take k)).act xa).1 := ⟨_, rfl⟩
                  have HTS := Lib.hid (acts_snoc2 M1 _ _ _ HTK.out)
                  rw [← hA2] at HTS
                  generalize hAE : M1.acts ((m.map AV.a).take k) = A at *
                  have HACT := Lib.hid (fun W gq XX RR (hm : MedW W gq A XX RR) (h0 : Below w.heap.size w W) (hX : ∀ b, XX b → w.heap.size ≤ b) => act12x hm HOKK.out (by omega) ⟨xa, .slice sa xa.scr.length sc, .slice aE xa.dam.er.length cE, .slice aC xa.dam.ch.length cC⟩ HX.out h0 hX HSM.out)
                  have HA2 := Lib.hid hA2.symm
                  have HZ := Lib.hid hz
                  have hbx := Bx.new wr 46 [.int .i64 xa.kind, .int .i64 xa.at_, .int .i64 xa.byte, .bool xa.short, .slice sa xa.scr.length sc, .int .i64 xa.dam.lba, .slice aE xa.dam.er.length cE, .slice aC xa.dam.ch.length cC]
                  obtain ⟨ab, hab⟩ : ∃ ab, ab = wr.heap.size := ⟨_, rfl⟩
                  obtain ⟨wa, hwa⟩ : ∃ wa, wa = wr.alloc (.cells #[.int .i64 xa.kind, .int .i64 xa.at_, .int .i64 xa.byte, .bool xa.short, .slice sa xa.scr.length sc, .int .i64 xa.dam.lba, .slice aE xa.dam.er.length cE, .slice aC xa.dam.ch.length cC] 46) := ⟨_, rfl⟩
                  change Bx (wr.alloc (.cells #[.int .i64 xa.kind, .int .i64 xa.at_, .int .i64 xa.byte, .bool xa.short, .slice sa xa.scr.length sc, .int .i64 xa.dam.lba, .slice aE xa.dam.er.length cE, .slice aC xa.dam.ch.length cC] 46)) _ _ _ at hbx
                  rw [← hwa, ← hab] at hbx
                  rw [← hwa] at hA
                  have HBX := Lib.hid hbx
                  have HWA := Lib.hid hwa
                  have HAB := Lib.hid hab
                  have h9 := HH.out.fix hA
                  have HC0 : Hid (TwoC w wa ab g h d A M2 A2 0 wa) := Lib.hid ⟨X0, R0, X1, R1, X2, R2, ⟨h9.m, h9.b, h9.x, h9.ap, fun i hi b hx hz => by
                    have := HH.out.lt hi b (.inl hx)
                    omega, fun k hk => by
                    subst hk
                    exact ⟨hbx.lt, rfl⟩⟩⟩
                  have HW2B : Hid (Below w.heap.size w wa) := Lib.hid h9.b
                  clear hcell hva hrange hx hsm hA hA2 hz hbx hwa hab h9 hAE HA
                  go_upto_region 38 with (fail)
                  rw [show (wr.alloc (.cells #[.int .i64 xa.kind, .int .i64 xa.at_, .int .i64 xa.byte, .bool xa.short, .slice sa xa.scr.length sc, .int .i64 xa.dam.lba, .slice aE xa.dam.er.length cE, .slice aC xa.dam.ch.length cC] 46)) = wa from HWA.out.symm, show wr.heap.size = ab from HAB.out.symm]
                  clear hix c0 c1 c2 c3 c4 c5 c6 c7
                  refine wp_region_seqA (by kernel_rfl) (anyR) (fun r a W => TwoC w wa ab g h d A M2 A2 r W) (twoV g d ab xa sa aE aC sc cE cC z) (fun _ => false) twoVE 2 (by kernel_rfl) (by kernel_rfl) (.inl (by kernel_rfl)) (fun _ _ _ _ _ _ _ _ hc => hc) (twoV_keep g d ab xa sa aE aC sc cE cC z) (by obtain ⟨a0, a1, a2, a3, a4, a5, hn⟩ := HC0.out; exact ⟨a0, a1, a2, a3, a4, a5, hn.below (Below.refl _ _).drew⟩) ⟨?_, ?_, ?_, ?_, ?_, ?_, ?_, trivial⟩ ?_
                  · intro r a W hc hsz hold hdep hnot hlo hhi hrk
                    have o11 : a.tmps.getD 11 undef = .pointer (some ⟨g, 0, none⟩) := hold 11 (by kernel_rfl)
                    clear hsz hold hdep hnot hlo hhi hrk
                    refine stepR_do rfl (wanted_none rfl) ?_
                    refine stepA_val (v := .pointer (some ⟨g, 0, none⟩)) (anyR_mk _ _ _) rfl fun K hK => ?_
                    go_simp
                    exact hK
                  · intro r a W hc hsz hold hdep hnot hlo hhi hrk
                    have o31 : a.tmps.getD 31 undef = .pointer (some ⟨ab, 0, none⟩) := hold 31 (by kernel_rfl)
                    have hbx := hc.box HBX.out
                    have q0 := hbx.cell (i := 0) rfl
                    have q1 := hbx.cell (i := 1) rfl
                    have q2 := hbx.cell (i := 2) rfl
                    have q3 := hbx.cell (i := 3) rfl
                    have q4 := hbx.cell (i := 4) rfl
                    have q5 := hbx.cell (i := 5) rfl
                    have q6 := hbx.cell (i := 6) rfl
                    have q7 := hbx.cell (i := 7) rfl
                    clear hsz hold hdep hnot hlo hhi hrk
                    refine stepR_do rfl (wanted_none rfl) ?_
                    refine stepA_val (v := .agg #[.int .i64 xa.kind, .int .i64 xa.at_, .int .i64 xa.byte, .bool xa.short, .slice sa xa.scr.length sc, .int .i64 xa.dam.lba, .slice aE xa.dam.er.length cE, .slice aC xa.dam.ch.length cC]) (anyR_mk _ _ _) rfl fun K hK => ?_
                    go_simp
                    exact hK
                  · intro r a W hc hsz hold hdep hnot hlo hhi hrk
                    have hr := hrk 0 rfl
                    subst hr
                    have d0 : a.tmps.getD 152 undef = .pointer (some ⟨g, 0, none⟩) := hdep 0 (by kernel_rfl) rfl _ rfl
                    have e0 : a.tmps[152]?.getD undef = .pointer (some ⟨g, 0, none⟩) := by rw [← Array.getD_eq_getD_getElem?]; exact d0
                    have d1 : a.tmps.getD 153 undef = .agg #[.int .i64 xa.kind, .int .i64 xa.at_, .int .i64 xa.byte, .bool xa.short, .slice sa xa.scr.length sc, .int .i64 xa.dam.lba, .slice aE xa.dam.er.length cE, .slice aC xa.dam.ch.length cC] := hdep 1 (by kernel_rfl) rfl _ rfl
                    have e1 : a.tmps[153]?.getD undef = .agg #[.int .i64 xa.kind, .int .i64 xa.at_, .int .i64 xa.byte, .bool xa.short, .slice sa xa.scr.length sc, .int .i64 xa.dam.lba, .slice aE xa.dam.er.length cE, .slice aC xa.dam.ch.length cC] := by rw [← Array.getD_eq_getD_getElem?]; exact d1
                    clear hsz hold hdep hnot hlo hhi hrk
                    refine stepR_do rfl (wanted_none rfl) ?_
                    obtain ⟨X0, R0, X1, R1, X2, R2, hn⟩ := hc
                    have HN0 := Lib.hid hn
                    refine stepA_any (C := fun a W => TwoC w wa ab g h d A M2 A2 1 W) fun K hK => ?_
                    clear hn
                    go_simp
                    refine (HACT.out W g X0 R0 HN0.out.m0.1 HN0.out.b HN0.out.m0.2).mono ?_
                    rintro e w' hw
                    obtain ⟨rfl, X3, R3, h3⟩ := HN0.out.s0 hw
                    refine hK _ _ (anyR_mk _ _ _) ⟨X3, R3, X1, R1, X2, R2, ?_⟩ ?_
                    · rw [HA2.out] at h3; exact h3
                    · rw [HZ.out]; rfl
                  · intro r a W hc hsz hold hdep hnot hlo hhi hrk
                    have o16 : a.tmps.getD 16 undef = .pointer (some ⟨d, 0, none⟩) := hold 16 (by kernel_rfl)
                    clear hsz hold hdep hnot hlo hhi hrk
                    refine stepR_do rfl (wanted_none rfl) ?_
                    refine stepA_val (v := .pointer (some ⟨d, 0, none⟩)) (anyR_mk _ _ _) rfl fun K hK => ?_
                    go_simp
                    exact hK
                  · intro r a W hc hsz hold hdep hnot hlo hhi hrk
                    have o31 : a.tmps.getD 31 undef = .pointer (some ⟨ab, 0, none⟩) := hold 31 (by kernel_rfl)
                    have hbx := hc.box HBX.out
                    have q0 := hbx.cell (i := 0) rfl
                    have q1 := hbx.cell (i := 1) rfl
                    have q2 := hbx.cell (i := 2) rfl
                    have q3 := hbx.cell (i := 3) rfl
                    have q4 := hbx.cell (i := 4) rfl
                    have q5 := hbx.cell (i := 5) rfl
                    have q6 := hbx.cell (i := 6) rfl
                    have q7 := hbx.cell (i := 7) rfl
                    clear hsz hold hdep hnot hlo hhi hrk
                    refine stepR_do rfl (wanted_none rfl) ?_
                    refine stepA_val (v := .agg #[.int .i64 xa.kind, .int .i64 xa.at_, .int .i64 xa.byte, .bool xa.short, .slice sa xa.scr.length sc, .int .i64 xa.dam.lba, .slice aE xa.dam.er.length cE, .slice aC xa.dam.ch.length cC]) (anyR_mk _ _ _) rfl fun K hK => ?_
                    go_simp
                    exact hK
                  · intro r a W hc hsz hold hdep hnot hlo hhi hrk
                    have hr := hrk 1 rfl
                    subst hr
                    have d3 : a.tmps.getD 155 undef = .pointer (some ⟨d, 0, none⟩) := hdep 3 (by kernel_rfl) rfl _ rfl
                    have e3 : a.tmps[155]?.getD undef = .pointer (some ⟨d, 0, none⟩) := by rw [← Array.getD_eq_getD_getElem?]; exact d3
                    have d4 : a.tmps.getD 156 undef = .agg #[.int .i64 xa.kind, .int .i64 xa.at_, .int .i64 xa.byte, .bool xa.short, .slice sa xa.scr.length sc, .int .i64 xa.dam.lba, .slice aE xa.dam.er.length cE, .slice aC xa.dam.ch.length cC] := hdep 4 (by kernel_rfl) rfl _ rfl
                    have e4 : a.tmps[156]?.getD undef = .agg #[.int .i64 xa.kind, .int .i64 xa.at_, .int .i64 xa.byte, .bool xa.short, .slice sa xa.scr.length sc, .int .i64 xa.dam.lba, .slice aE xa.dam.er.length cE, .slice aC xa.dam.ch.length cC] := by rw [← Array.getD_eq_getD_getElem?]; exact d4
                    clear hsz hold hdep hnot hlo hhi hrk
                    refine stepR_do rfl (wanted_none rfl) ?_
                    obtain ⟨X0, R0, X1, R1, X2, R2, hn⟩ := hc
                    have HN0 := Lib.hid hn
                    refine stepA_any (C := fun a W => TwoC w wa ab g h d A M2 A2 2 W) fun K hK => ?_
                    clear hn
                    go_simp
                    refine (HACT.out W d X2 R2 HN0.out.m2.1 HN0.out.b HN0.out.m2.2).mono ?_
                    rintro e w' hw
                    obtain ⟨rfl, X3, R3, h3⟩ := HN0.out.s2 hw
                    refine hK _ _ (anyR_mk _ _ _) ⟨X0, R0, X1, R1, X3, R3, ?_⟩ ?_
                    · rw [HA2.out] at h3; exact h3
                    · rw [HZ.out]; rfl
                  · intro r a W hc hsz hold hdep hnot hlo hhi hrk
                    have d2 : a.tmps.getD 154 undef = .int .i64 z := hdep 2 (by kernel_rfl) rfl _ rfl
                    have d5 : a.tmps.getD 157 undef = .int .i64 z := hdep 5 (by kernel_rfl) rfl _ rfl
                    clear hsz hold hdep hnot hlo hhi hrk
                    refine stepR_do rfl (wanted_none rfl) ?_
                    refine stepA_val (v := .bool false) (anyR_mk _ _ _) rfl fun K hK => ?_
                    go_simp
                    exact hK
                  · intro a W hC hd hsz hold hval
                    have d0 : a.tmps.getD 0 undef = .bool false := hold 0 (by kernel_rfl)
                    have d1 : a.tmps.getD 1 undef = .int .u8 ↑y := hold 1 (by kernel_rfl)
                    have d2 : a.tmps.getD 2 undef = .slice al l.length cl := hold 2 (by kernel_rfl)
                    have d3 : a.tmps.getD 3 undef = .slice am m.length cm := hold 3 (by kernel_rfl)
                    have d4 : a.tmps.getD 4 undef = undef := hold 4 (by kernel_rfl)
                    have d5 : a.tmps.getD 5 undef = undef := hold 5 (by kernel_rfl)
                    have d6 : a.tmps.getD 6 undef = undef := hold 6 (by kernel_rfl)
                    have d7 : a.tmps.getD 7 undef = undef := hold 7 (by kernel_rfl)
                    have d8 : a.tmps.getD 8 undef = u8 := hold 8 (by kernel_rfl)
                    have d9 : a.tmps.getD 9 undef = .int .i64 1 := hold 9 (by kernel_rfl)
                    have d10 : a.tmps.getD 10 undef = .int .i64 ↑n := hold 10 (by kernel_rfl)
                    have d11 : a.tmps.getD 11 undef = .pointer (some ⟨g, 0, none⟩) := hold 11 (by kernel_rfl)
                    have d12 : a.tmps.getD 12 undef = .int .i64 0 := hold 12 (by kernel_rfl)
                    have d13 : a.tmps.getD 13 undef = undef := hold 13 (by kernel_rfl)
                    have d14 : a.tmps.getD 14 undef = u14 := hold 14 (by kernel_rfl)
                    have d15 : a.tmps.getD 15 undef = .pointer (some ⟨h, 0, none⟩) := hold 15 (by kernel_rfl)
                    have d16 : a.tmps.getD 16 undef = .pointer (some ⟨d, 0, none⟩) := hold 16 (by kernel_rfl)
                    have d17 : a.tmps.getD 17 undef = undef := hold 17 (by kernel_rfl)
                    have d18 : a.tmps.getD 18 undef = u18 := hold 18 (by kernel_rfl)
                    have d19 : a.tmps.getD 19 undef = u19 := hold 19 (by kernel_rfl)
                    have d20 : a.tmps.getD 20 undef = u20 := hold 20 (by kernel_rfl)
                    have d21 : a.tmps.getD 21 undef = u21 := hold 21 (by kernel_rfl)
                    have d22 : a.tmps.getD 22 undef = u22 := hold 22 (by kernel_rfl)
                    have d23 : a.tmps.getD 23 undef = u23 := hold 23 (by kernel_rfl)
                    have d24 : a.tmps.getD 24 undef = u24 := hold 24 (by kernel_rfl)
                    have d25 : a.tmps.getD 25 undef = u25 := hold 25 (by kernel_rfl)
                    have d26 : a.tmps.getD 26 undef = u26 := hold 26 (by kernel_rfl)
                    have d27 : a.tmps.getD 27 undef = u27 := hold 27 (by kernel_rfl)
                    have d28 : a.tmps.getD 28 undef = u28 := hold 28 (by kernel_rfl)
                    have d29 : a.tmps.getD 29 undef = u29 := hold 29 (by kernel_rfl)
                    have d30 : a.tmps.getD 30 undef = undef := hold 30 (by kernel_rfl)
                    have d31 : a.tmps.getD 31 undef = .pointer (some ⟨ab, 0, none⟩) := hold 31 (by kernel_rfl)
                    have d32 : a.tmps.getD 32 undef = undef := hold 32 (by kernel_rfl)
                    have d33 : a.tmps.getD 33 undef = undef := hold 33 (by kernel_rfl)
                    have d34 : a.tmps.getD 34 undef = undef := hold 34 (by kernel_rfl)
                    have d35 : a.tmps.getD 35 undef = undef := hold 35 (by kernel_rfl)
                    have d36 : a.tmps.getD 36 undef = undef := hold 36 (by kernel_rfl)
                    have d37 : a.tmps.getD 37 undef = undef := hold 37 (by kernel_rfl)
                    have d38 : a.tmps.getD 38 undef = undef := hold 38 (by kernel_rfl)
                    have d39 : a.tmps.getD 39 undef = .bool true := hold 39 (by kernel_rfl)
                    have d40 : a.tmps.getD 40 undef = .bool false := hold 40 (by kernel_rfl)
                    have d41 : a.tmps.getD 41 undef = .slice al l.length cl := hold 41 (by kernel_rfl)
                    have d42 : a.tmps.getD 42 undef = .bool true := hold 42 (by kernel_rfl)
                    have d43 : a.tmps.getD 43 undef = .bool false := hold 43 (by kernel_rfl)
                    have d44 : a.tmps.getD 44 undef = .bool false := hold 44 (by kernel_rfl)
                    have d45 : a.tmps.getD 45 undef = .slice am m.length cm := hold 45 (by kernel_rfl)
                    have d46 : a.tmps.getD 46 undef = .bool true := hold 46 (by kernel_rfl)
                    have d47 : a.tmps.getD 47 undef = .bool false := hold 47 (by kernel_rfl)
                    have d48 : a.tmps.getD 48 undef = .bool false := hold 48 (by kernel_rfl)
                    have d49 : a.tmps.getD 49 undef = .bool false := hold 49 (by kernel_rfl)
                    have d50 : a.tmps.getD 50 undef = .int .u8 ↑y := hold 50 (by kernel_rfl)
                    have d51 : a.tmps.getD 51 undef = .int .i64 ↑y := hold 51 (by kernel_rfl)
                    have d52 : a.tmps.getD 52 undef = .int .i64 (↑y % 6) := hold 52 (by kernel_rfl)
                    have d53 : a.tmps.getD 53 undef = .int .i64 ↑n := hold 53 (by kernel_rfl)
                    have d54 : a.tmps.getD 54 undef = .tuple #[.pointer (some ⟨g, 0, none⟩), .int .i64 0] := hold 54 (by kernel_rfl)
                    have d55 : a.tmps.getD 55 undef = .int .i64 1 := hold 55 (by kernel_rfl)
                    have d56 : a.tmps.getD 56 undef = .int .i64 ↑n := hold 56 (by kernel_rfl)
                    have d57 : a.tmps.getD 57 undef = .tuple #[.pointer (some ⟨g, 0, none⟩), .int .i64 0] := hold 57 (by kernel_rfl)
                    have d58 : a.tmps.getD 58 undef = .pointer (some ⟨g, 0, none⟩) := hold 58 (by kernel_rfl)
                    have d59 : a.tmps.getD 59 undef = .int .i64 0 := hold 59 (by kernel_rfl)
                    have d60 : a.tmps.getD 60 undef = .int .i64 0 := hold 60 (by kernel_rfl)
                    have d61 : a.tmps.getD 61 undef = .bool false := hold 61 (by kernel_rfl)
                    have d62 : a.tmps.getD 62 undef = .bool false := hold 62 (by kernel_rfl)
                    have d63 : a.tmps.getD 63 undef = .pointer (some ⟨g, 0, none⟩) := hold 63 (by kernel_rfl)
                    have d64 : a.tmps.getD 64 undef = .bool false := hold 64 (by kernel_rfl)
                    have d65 : a.tmps.getD 65 undef = .bool false := hold 65 (by kernel_rfl)
                    have d66 : a.tmps.getD 66 undef = .slice al l.length cl := hold 66 (by kernel_rfl)
                    have d67 : a.tmps.getD 67 undef = .int .i64 ↑l.length := hold 67 (by kernel_rfl)
                    have d68 : a.tmps.getD 68 undef = .int .i64 ↑l.length := hold 68 (by kernel_rfl)
                    have d69 : a.tmps.getD 69 undef = .bool false := hold 69 (by kernel_rfl)
                    have d70 : a.tmps.getD 70 undef = u70 := hold 70 (by kernel_rfl)
                    have d71 : a.tmps.getD 71 undef = u71 := hold 71 (by kernel_rfl)
                    have d72 : a.tmps.getD 72 undef = u72 := hold 72 (by kernel_rfl)
                    have d73 : a.tmps.getD 73 undef = u73 := hold 73 (by kernel_rfl)
                    have d74 : a.tmps.getD 74 undef = u74 := hold 74 (by kernel_rfl)
                    have d75 : a.tmps.getD 75 undef = u75 := hold 75 (by kernel_rfl)
                    have d76 : a.tmps.getD 76 undef = .pointer (some ⟨g, 0, none⟩) := hold 76 (by kernel_rfl)
                    have d77 : a.tmps.getD 77 undef = .pointer (some ⟨h, 0, none⟩) := hold 77 (by kernel_rfl)
                    have d78 : a.tmps.getD 78 undef = .pointer (some ⟨g, 0, none⟩) := hold 78 (by kernel_rfl)
                    have d79 : a.tmps.getD 79 undef = .pointer (some ⟨d, 0, none⟩) := hold 79 (by kernel_rfl)
                    have d80 : a.tmps.getD 80 undef = .pointer (some ⟨h, 0, none⟩) := hold 80 (by kernel_rfl)
                    have d81 : a.tmps.getD 81 undef = .bool false := hold 81 (by kernel_rfl)
                    have d82 : a.tmps.getD 82 undef = .bool false := hold 82 (by kernel_rfl)
                    have d83 : a.tmps.getD 83 undef = .pointer (some ⟨d, 0, none⟩) := hold 83 (by kernel_rfl)
                    have d84 : a.tmps.getD 84 undef = .bool false := hold 84 (by kernel_rfl)
                    have d85 : a.tmps.getD 85 undef = .bool false := hold 85 (by kernel_rfl)
                    have d86 : a.tmps.getD 86 undef = .slice am m.length cm := hold 86 (by kernel_rfl)
                    have d87 : a.tmps.getD 87 undef = .int .i64 ↑m.length := hold 87 (by kernel_rfl)
                    have d88 : a.tmps.getD 88 undef = .int .i64 ↑m.length := hold 88 (by kernel_rfl)
                    have d89 : a.tmps.getD 89 undef = .bool false := hold 89 (by kernel_rfl)
                    have d90 : a.tmps.getD 90 undef = u90 := hold 90 (by kernel_rfl)
                    have d91 : a.tmps.getD 91 undef = u91 := hold 91 (by kernel_rfl)
                    have d92 : a.tmps.getD 92 undef = u92 := hold 92 (by kernel_rfl)
                    have d93 : a.tmps.getD 93 undef = u93 := hold 93 (by kernel_rfl)
                    have d94 : a.tmps.getD 94 undef = u94 := hold 94 (by kernel_rfl)
                    have d95 : a.tmps.getD 95 undef = u95 := hold 95 (by kernel_rfl)
                    have d96 : a.tmps.getD 96 undef = .int .i64 ↑n := hold 96 (by kernel_rfl)
                    have d97 : a.tmps.getD 97 undef = .int .i64 ↑i := hold 97 (by kernel_rfl)
                    have d98 : a.tmps.getD 98 undef = .bool false := hold 98 (by kernel_rfl)
                    have d99 : a.tmps.getD 99 undef = u99 := hold 99 (by kernel_rfl)
                    have d100 : a.tmps.getD 100 undef = u100 := hold 100 (by kernel_rfl)
                    have d101 : a.tmps.getD 101 undef = u101 := hold 101 (by kernel_rfl)
                    have d102 : a.tmps.getD 102 undef = u102 := hold 102 (by kernel_rfl)
                    have d103 : a.tmps.getD 103 undef = u103 := hold 103 (by kernel_rfl)
                    have d104 : a.tmps.getD 104 undef = u104 := hold 104 (by kernel_rfl)
                    have d105 : a.tmps.getD 105 undef = u105 := hold 105 (by kernel_rfl)
                    have d106 : a.tmps.getD 106 undef = u106 := hold 106 (by kernel_rfl)
                    have d107 : a.tmps.getD 107 undef = u107 := hold 107 (by kernel_rfl)
                    have d108 : a.tmps.getD 108 undef = u108 := hold 108 (by kernel_rfl)
                    have d109 : a.tmps.getD 109 undef = u109 := hold 109 (by kernel_rfl)
                    have d110 : a.tmps.getD 110 undef = u110 := hold 110 (by kernel_rfl)
                    have d111 : a.tmps.getD 111 undef = u111 := hold 111 (by kernel_rfl)
                    have d112 : a.tmps.getD 112 undef = u112 := hold 112 (by kernel_rfl)
                    have d113 : a.tmps.getD 113 undef = u113 := hold 113 (by kernel_rfl)
                    have d114 : a.tmps.getD 114 undef = u114 := hold 114 (by kernel_rfl)
                    have d115 : a.tmps.getD 115 undef = u115 := hold 115 (by kernel_rfl)
                    have d116 : a.tmps.getD 116 undef = u116 := hold 116 (by kernel_rfl)
                    have d117 : a.tmps.getD 117 undef = u117 := hold 117 (by kernel_rfl)
                    have d118 : a.tmps.getD 118 undef = u118 := hold 118 (by kernel_rfl)
                    have d119 : a.tmps.getD 119 undef = u119 := hold 119 (by kernel_rfl)
                    have d120 : a.tmps.getD 120 undef = u120 := hold 120 (by kernel_rfl)
                    have d121 : a.tmps.getD 121 undef = u121 := hold 121 (by kernel_rfl)
                    have d122 : a.tmps.getD 122 undef = u122 := hold 122 (by kernel_rfl)
                    have d123 : a.tmps.getD 123 undef = u123 := hold 123 (by kernel_rfl)
                    have d124 : a.tmps.getD 124 undef = u124 := hold 124 (by kernel_rfl)
                    have d125 : a.tmps.getD 125 undef = u125 := hold 125 (by kernel_rfl)
                    have d126 : a.tmps.getD 126 undef = u126 := hold 126 (by kernel_rfl)
                    have d127 : a.tmps.getD 127 undef = u127 := hold 127 (by kernel_rfl)
                    have d128 : a.tmps.getD 128 undef = u128 := hold 128 (by kernel_rfl)
                    have d129 : a.tmps.getD 129 undef = u129 := hold 129 (by kernel_rfl)
                    have d130 : a.tmps.getD 130 undef = u130 := hold 130 (by kernel_rfl)
                    have d131 : a.tmps.getD 131 undef = u131 := hold 131 (by kernel_rfl)
                    have d132 : a.tmps.getD 132 undef = u132 := hold 132 (by kernel_rfl)
                    have d133 : a.tmps.getD 133 undef = u133 := hold 133 (by kernel_rfl)
                    have d134 : a.tmps.getD 134 undef = u134 := hold 134 (by kernel_rfl)
                    have d135 : a.tmps.getD 135 undef = u135 := hold 135 (by kernel_rfl)
                    have d136 : a.tmps.getD 136 undef = u136 := hold 136 (by kernel_rfl)
                    have d137 : a.tmps.getD 137 undef = u137 := hold 137 (by kernel_rfl)
                    have d138 : a.tmps.getD 138 undef = u138 := hold 138 (by kernel_rfl)
                    have d139 : a.tmps.getD 139 undef = u139 := hold 139 (by kernel_rfl)
                    have d140 : a.tmps.getD 140 undef = u140 := hold 140 (by kernel_rfl)
                    have d141 : a.tmps.getD 141 undef = u141 := hold 141 (by kernel_rfl)
                    have d142 : a.tmps.getD 142 undef = u142 := hold 142 (by kernel_rfl)
                    have d143 : a.tmps.getD 143 undef = u143 := hold 143 (by kernel_rfl)
                    have d144 : a.tmps.getD 144 undef = u144 := hold 144 (by kernel_rfl)
                    have d145 : a.tmps.getD 145 undef = u145 := hold 145 (by kernel_rfl)
                    have d146 : a.tmps.getD 146 undef = .slice am m.length cm := hold 146 (by kernel_rfl)
                    have d147 : a.tmps.getD 147 undef = .int .i64 ↑m.length := hold 147 (by kernel_rfl)
                    have d148 : a.tmps.getD 148 undef = .int .i64 ↑k := hold 148 (by kernel_rfl)
                    have d160 : a.tmps.getD 160 undef = undef := hold 160 (by kernel_rfl)
                    have d161 : a.tmps.getD 161 undef = undef := hold 161 (by kernel_rfl)
                    have d162 : a.tmps.getD 162 undef = undef := hold 162 (by kernel_rfl)
                    have d163 : a.tmps.getD 163 undef = undef := hold 163 (by kernel_rfl)
                    have d164 : a.tmps.getD 164 undef = undef := hold 164 (by kernel_rfl)
                    have d165 : a.tmps.getD 165 undef = undef := hold 165 (by kernel_rfl)
                    have d166 : a.tmps.getD 166 undef = undef := hold 166 (by kernel_rfl)
                    have d167 : a.tmps.getD 167 undef = undef := hold 167 (by kernel_rfl)
                    have d168 : a.tmps.getD 168 undef = undef := hold 168 (by kernel_rfl)
                    have d169 : a.tmps.getD 169 undef = undef := hold 169 (by kernel_rfl)
                    have d170 : a.tmps.getD 170 undef = undef := hold 170 (by kernel_rfl)
                    have d171 : a.tmps.getD 171 undef = undef := hold 171 (by kernel_rfl)
                    have d172 : a.tmps.getD 172 undef = undef := hold 172 (by kernel_rfl)
                    have d173 : a.tmps.getD 173 undef = undef := hold 173 (by kernel_rfl)
                    have d174 : a.tmps.getD 174 undef = undef := hold 174 (by kernel_rfl)
                    have d175 : a.tmps.getD 175 undef = undef := hold 175 (by kernel_rfl)
                    have d176 : a.tmps.getD 176 undef = undef := hold 176 (by kernel_rfl)
                    have d177 : a.tmps.getD 177 undef = undef := hold 177 (by kernel_rfl)
                    have d178 : a.tmps.getD 178 undef = undef := hold 178 (by kernel_rfl)
                    have d179 : a.tmps.getD 179 undef = undef := hold 179 (by kernel_rfl)
                    have d180 : a.tmps.getD 180 undef = undef := hold 180 (by kernel_rfl)
                    have d181 : a.tmps.getD 181 undef = undef := hold 181 (by kernel_rfl)
                    have d182 : a.tmps.getD 182 undef = undef := hold 182 (by kernel_rfl)
                    have d183 : a.tmps.getD 183 undef = undef := hold 183 (by kernel_rfl)
                    have d184 : a.tmps.getD 184 undef = undef := hold 184 (by kernel_rfl)
                    have d185 : a.tmps.getD 185 undef = undef := hold 185 (by kernel_rfl)
                    have d186 : a.tmps.getD 186 undef = undef := hold 186 (by kernel_rfl)
                    have d187 : a.tmps.getD 187 undef = undef := hold 187 (by kernel_rfl)
                    have d188 : a.tmps.getD 188 undef = undef := hold 188 (by kernel_rfl)
                    have d189 : a.tmps.getD 189 undef = undef := hold 189 (by kernel_rfl)
                    have d190 : a.tmps.getD 190 undef = undef := hold 190 (by kernel_rfl)
                    have d191 : a.tmps.getD 191 undef = undef := hold 191 (by kernel_rfl)
                    have d192 : a.tmps.getD 192 undef = undef := hold 192 (by kernel_rfl)
                    have d158 : a.tmps.getD 158 undef = .bool false := hval 6 _ rfl rfl
                    clear hold
                    obtain ⟨tm, df⟩ := a
                    replace hd : df = [] := hd
                    replace hsz : tm.size = 193 := hsz
                    replace d0 : tm.getD 0 undef = .bool false := d0
                    replace d1 : tm.getD 1 undef = .int .u8 ↑y := d1
                    replace d2 : tm.getD 2 undef = .slice al l.length cl := d2
                    replace d3 : tm.getD 3 undef = .slice am m.length cm := d3
                    replace d4 : tm.getD 4 undef = undef := d4
                    replace d5 : tm.getD 5 undef = undef := d5
                    replace d6 : tm.getD 6 undef = undef := d6
                    replace d7 : tm.getD 7 undef = undef := d7
                    replace d8 : tm.getD 8 undef = u8 := d8
                    replace d9 : tm.getD 9 undef = .int .i64 1 := d9
                    replace d10 : tm.getD 10 undef = .int .i64 ↑n := d10
                    replace d11 : tm.getD 11 undef = .pointer (some ⟨g, 0, none⟩) := d11
                    replace d12 : tm.getD 12 undef = .int .i64 0 := d12
                    replace d13 : tm.getD 13 undef = undef := d13
                    replace d14 : tm.getD 14 undef = u14 := d14
                    replace d15 : tm.getD 15 undef = .pointer (some ⟨h, 0, none⟩) := d15
                    replace d16 : tm.getD 16 undef = .pointer (some ⟨d, 0, none⟩) := d16
                    replace d17 : tm.getD 17 undef = undef := d17
                    replace d18 : tm.getD 18 undef = u18 := d18
                    replace d19 : tm.getD 19 undef = u19 := d19
                    replace d20 : tm.getD 20 undef = u20 := d20
                    replace d21 : tm.getD 21 undef = u21 := d21
                    replace d22 : tm.getD 22 undef = u22 := d22
                    replace d23 : tm.getD 23 undef = u23 := d23
                    replace d24 : tm.getD 24 undef = u24 := d24
                    replace d25 : tm.getD 25 undef = u25 := d25
                    replace d26 : tm.getD 26 undef = u26 := d26
                    replace d27 : tm.getD 27 undef = u27 := d27
                    replace d28 : tm.getD 28 undef = u28 := d28
                    replace d29 : tm.getD 29 undef = u29 := d29
                    replace d30 : tm.getD 30 undef = undef := d30
                    replace d31 : tm.getD 31 undef = .pointer (some ⟨ab, 0, none⟩) := d31
                    replace d32 : tm.getD 32 undef = undef := d32
                    replace d33 : tm.getD 33 undef = undef := d33
                    replace d34 : tm.getD 34 undef = undef := d34
                    replace d35 : tm.getD 35 undef = undef := d35
                    replace d36 : tm.getD 36 undef = undef := d36
                    replace d37 : tm.getD 37 undef = undef := d37
                    replace d38 : tm.getD 38 undef = undef := d38
                    replace d39 : tm.getD 39 undef = .bool true := d39
                    replace d40 : tm.getD 40 undef = .bool false := d40
                    replace d41 : tm.getD 41 undef = .slice al l.length cl := d41
                    replace d42 : tm.getD 42 undef = .bool true := d42
                    replace d43 : tm.getD 43 undef = .bool false := d43
                    replace d44 : tm.getD 44 undef = .bool false := d44
                    replace d45 : tm.getD 45 undef = .slice am m.length cm := d45
                    replace d46 : tm.getD 46 undef = .bool true := d46
                    replace d47 : tm.getD 47 undef = .bool false := d47
                    replace d48 : tm.getD 48 undef = .bool false := d48
                    replace d49 : tm.getD 49 undef = .bool false := d49
                    replace d50 : tm.getD 50 undef = .int .u8 ↑y := d50
                    replace d51 : tm.getD 51 undef = .int .i64 ↑y := d51
                    replace d52 : tm.getD 52 undef = .int .i64 (↑y % 6) := d52
                    replace d53 : tm.getD 53 undef = .int .i64 ↑n := d53
                    replace d54 : tm.getD 54 undef = .tuple #[.pointer (some ⟨g, 0, none⟩), .int .i64 0] := d54
                    replace d55 : tm.getD 55 undef = .int .i64 1 := d55
                    replace d56 : tm.getD 56 undef = .int .i64 ↑n := d56
                    replace d57 : tm.getD 57 undef = .tuple #[.pointer (some ⟨g, 0, none⟩), .int .i64 0] := d57
                    replace d58 : tm.getD 58 undef = .pointer (some ⟨g, 0, none⟩) := d58
                    replace d59 : tm.getD 59 undef = .int .i64 0 := d59
                    replace d60 : tm.getD 60 undef = .int .i64 0 := d60
                    replace d61 : tm.getD 61 undef = .bool false := d61
                    replace d62 : tm.getD 62 undef = .bool false := d62
                    replace d63 : tm.getD 63 undef = .pointer (some ⟨g, 0, none⟩) := d63
                    replace d64 : tm.getD 64 undef = .bool false := d64
                    replace d65 : tm.getD 65 undef = .bool false := d65
                    replace d66 : tm.getD 66 undef = .slice al l.length cl := d66
                    replace d67 : tm.getD 67 undef = .int .i64 ↑l.length := d67
                    replace d68 : tm.getD 68 undef = .int .i64 ↑l.length := d68
                    replace d69 : tm.getD 69 undef = .bool false := d69
                    replace d70 : tm.getD 70 undef = u70 := d70
                    replace d71 : tm.getD 71 undef = u71 := d71
                    replace d72 : tm.getD 72 undef = u72 := d72
                    replace d73 : tm.getD 73 undef = u73 := d73
                    replace d74 : tm.getD 74 undef = u74 := d74
                    replace d75 : tm.getD 75 undef = u75 := d75
                    replace d76 : tm.getD 76 undef = .pointer (some ⟨g, 0, none⟩) := d76
                    replace d77 : tm.getD 77 undef = .pointer (some ⟨h, 0, none⟩) := d77
                    replace d78 : tm.getD 78 undef = .pointer (some ⟨g, 0, none⟩) := d78
                    replace d79 : tm.getD 79 undef = .pointer (some ⟨d, 0, none⟩) := d79
                    replace d80 : tm.getD 80 undef = .pointer (some ⟨h, 0, none⟩) := d80
                    replace d81 : tm.getD 81 undef = .bool false := d81
                    replace d82 : tm.getD 82 undef = .bool false := d82
                    replace d83 : tm.getD 83 undef = .pointer (some ⟨d, 0, none⟩) := d83
                    replace d84 : tm.getD 84 undef = .bool false := d84
                    replace d85 : tm.getD 85 undef = .bool false := d85
                    replace d86 : tm.getD 86 undef = .slice am m.length cm := d86
                    replace d87 : tm.getD 87 undef = .int .i64 ↑m.length := d87
                    replace d88 : tm.getD 88 undef = .int .i64 ↑m.length := d88
                    replace d89 : tm.getD 89 undef = .bool false := d89
                    replace d90 : tm.getD 90 undef = u90 := d90
                    replace d91 : tm.getD 91 undef = u91 := d91
                    replace d92 : tm.getD 92 undef = u92 := d92
                    replace d93 : tm.getD 93 undef = u93 := d93
                    replace d94 : tm.getD 94 undef = u94 := d94
                    replace d95 : tm.getD 95 undef = u95 := d95
                    replace d96 : tm.getD 96 undef = .int .i64 ↑n := d96
                    replace d97 : tm.getD 97 undef = .int .i64 ↑i := d97
                    replace d98 : tm.getD 98 undef = .bool false := d98
                    replace d99 : tm.getD 99 undef = u99 := d99
                    replace d100 : tm.getD 100 undef = u100 := d100
                    replace d101 : tm.getD 101 undef = u101 := d101
                    replace d102 : tm.getD 102 undef = u102 := d102
                    replace d103 : tm.getD 103 undef = u103 := d103
                    replace d104 : tm.getD 104 undef = u104 := d104
                    replace d105 : tm.getD 105 undef = u105 := d105
                    replace d106 : tm.getD 106 undef = u106 := d106
                    replace d107 : tm.getD 107 undef = u107 := d107
                    replace d108 : tm.getD 108 undef = u108 := d108
                    replace d109 : tm.getD 109 undef = u109 := d109
                    replace d110 : tm.getD 110 undef = u110 := d110
                    replace d111 : tm.getD 111 undef = u111 := d111
                    replace d112 : tm.getD 112 undef = u112 := d112
                    replace d113 : tm.getD 113 undef = u113 := d113
                    replace d114 : tm.getD 114 undef = u114 := d114
                    replace d115 : tm.getD 115 undef = u115 := d115
                    replace d116 : tm.getD 116 undef = u116 := d116
                    replace d117 : tm.getD 117 undef = u117 := d117
                    replace d118 : tm.getD 118 undef = u118 := d118
                    replace d119 : tm.getD 119 undef = u119 := d119
                    replace d120 : tm.getD 120 undef = u120 := d120
                    replace d121 : tm.getD 121 undef = u121 := d121
                    replace d122 : tm.getD 122 undef = u122 := d122
                    replace d123 : tm.getD 123 undef = u123 := d123
                    replace d124 : tm.getD 124 undef = u124 := d124
                    replace d125 : tm.getD 125 undef = u125 := d125
                    replace d126 : tm.getD 126 undef = u126 := d126
                    replace d127 : tm.getD 127 undef = u127 := d127
                    replace d128 : tm.getD 128 undef = u128 := d128
                    replace d129 : tm.getD 129 undef = u129 := d129
                    replace d130 : tm.getD 130 undef = u130 := d130
                    replace d131 : tm.getD 131 undef = u131 := d131
                    replace d132 : tm.getD 132 undef = u132 := d132
                    replace d133 : tm.getD 133 undef = u133 := d133
                    replace d134 : tm.getD 134 undef = u134 := d134
                    replace d135 : tm.getD 135 undef = u135 := d135
                    replace d136 : tm.getD 136 undef = u136 := d136
                    replace d137 : tm.getD 137 undef = u137 := d137
                    replace d138 : tm.getD 138 undef = u138 := d138
                    replace d139 : tm.getD 139 undef = u139 := d139
                    replace d140 : tm.getD 140 undef = u140 := d140
                    replace d141 : tm.getD 141 undef = u141 := d141
                    replace d142 : tm.getD 142 undef = u142 := d142
                    replace d143 : tm.getD 143 undef = u143 := d143
                    replace d144 : tm.getD 144 undef = u144 := d144
                    replace d145 : tm.getD 145 undef = u145 := d145
                    replace d146 : tm.getD 146 undef = .slice am m.length cm := d146
                    replace d147 : tm.getD 147 undef = .int .i64 ↑m.length := d147
                    replace d148 : tm.getD 148 undef = .int .i64 ↑k := d148
                    replace d160 : tm.getD 160 undef = undef := d160
                    replace d161 : tm.getD 161 undef = undef := d161
                    replace d162 : tm.getD 162 undef = undef := d162
                    replace d163 : tm.getD 163 undef = undef := d163
                    replace d164 : tm.getD 164 undef = undef := d164
                    replace d165 : tm.getD 165 undef = undef := d165
                    replace d166 : tm.getD 166 undef = undef := d166
                    replace d167 : tm.getD 167 undef = undef := d167
                    replace d168 : tm.getD 168 undef = undef := d168
                    replace d169 : tm.getD 169 undef = undef := d169
                    replace d170 : tm.getD 170 undef = undef := d170
                    replace d171 : tm.getD 171 undef = undef := d171
                    replace d172 : tm.getD 172 undef = undef := d172
                    replace d173 : tm.getD 173 undef = undef := d173
                    replace d174 : tm.getD 174 undef = undef := d174
                    replace d175 : tm.getD 175 undef = undef := d175
                    replace d176 : tm.getD 176 undef = undef := d176
                    replace d177 : tm.getD 177 undef = undef := d177
                    replace d178 : tm.getD 178 undef = undef := d178
                    replace d179 : tm.getD 179 undef = undef := d179
                    replace d180 : tm.getD 180 undef = undef := d180
                    replace d181 : tm.getD 181 undef = undef := d181
                    replace d182 : tm.getD 182 undef = undef := d182
                    replace d183 : tm.getD 183 undef = undef := d183
                    replace d184 : tm.getD 184 undef = undef := d184
                    replace d185 : tm.getD 185 undef = undef := d185
                    replace d186 : tm.getD 186 undef = undef := d186
                    replace d187 : tm.getD 187 undef = undef := d187
                    replace d188 : tm.getD 188 undef = undef := d188
                    replace d189 : tm.getD 189 undef = undef := d189
                    replace d190 : tm.getD 190 undef = undef := d190
                    replace d191 : tm.getD 191 undef = undef := d191
                    replace d192 : tm.getD 192 undef = undef := d192
                    replace d158 : tm.getD 158 undef = .bool false := d158
                    subst hd
                    have e : tm = List.toArray (tm.getD 0 undef :: tm.getD 1 undef :: tm.getD 2 undef :: tm.getD 3 undef :: tm.getD 4 undef :: tm.getD 5 undef :: tm.getD 6 undef :: tm.getD 7 undef :: tm.getD 8 undef :: tm.getD 9 undef :: tm.getD 10 undef :: tm.getD 11 undef :: tm.getD 12 undef :: tm.getD 13 undef :: tm.getD 14 undef :: tm.getD 15 undef :: tm.getD 16 undef :: tm.getD 17 undef :: tm.getD 18 undef :: tm.getD 19 undef :: tm.getD 20 undef :: tm.getD 21 undef :: tm.getD 22 undef :: tm.getD 23 undef :: tm.getD 24 undef :: tm.getD 25 undef :: tm.getD 26 undef :: tm.getD 27 undef :: tm.getD 28 undef :: tm.getD 29 undef :: tm.getD 30 undef :: tm.getD 31 undef :: tm.getD 32 undef :: tm.getD 33 undef :: tm.getD 34 undef :: tm.getD 35 undef :: tm.getD 36 undef :: tm.getD 37 undef :: tm.getD 38 undef :: tm.getD 39 undef :: tm.getD 40 undef :: tm.getD 41 undef :: tm.getD 42 undef :: tm.getD 43 undef :: tm.getD 44 undef :: tm.getD 45 undef :: tm.getD 46 undef :: tm.getD 47 undef :: tm.getD 48 undef :: tm.getD 49 undef :: tm.getD 50 undef :: tm.getD 51 undef :: tm.getD 52 undef :: tm.getD 53 undef :: tm.getD 54 undef :: tm.getD 55 undef :: tm.getD 56 undef :: tm.getD 57 undef :: tm.getD 58 undef :: tm.getD 59 undef :: tm.getD 60 undef :: tm.getD 61 undef :: tm.getD 62 undef :: tm.getD 63 undef :: tm.getD 64 undef :: tm.getD 65 undef :: tm.getD 66 undef :: tm.getD 67 undef :: tm.getD 68 undef :: tm.getD 69 undef :: tm.getD 70 undef :: tm.getD 71 undef :: tm.getD 72 undef :: tm.getD 73 undef :: tm.getD 74 undef :: tm.getD 75 undef :: tm.getD 76 undef :: tm.getD 77 undef :: tm.getD 78 undef :: tm.getD 79 undef :: tm.getD 80 undef :: tm.getD 81 undef :: tm.getD 82 undef :: tm.getD 83 undef :: tm.getD 84 undef :: tm.getD 85 undef :: tm.getD 86 undef :: tm.getD 87 undef :: tm.getD 88 undef :: tm.getD 89 undef :: tm.getD 90 undef :: tm.getD 91 undef :: tm.getD 92 undef :: tm.getD 93 undef :: tm.getD 94 undef :: tm.getD 95 undef :: tm.getD 96 undef :: tm.getD 97 undef :: tm.getD 98 undef :: tm.getD 99 undef :: tm.getD 100 undef :: tm.getD 101 undef :: tm.getD 102 undef :: tm.getD 103 undef :: tm.getD 104 undef :: tm.getD 105 undef :: tm.getD 106 undef :: tm.getD 107 undef :: tm.getD 108 undef :: tm.getD 109 undef :: tm.getD 110 undef :: tm.getD 111 undef :: tm.getD 112 undef :: tm.getD 113 undef :: tm.getD 114 undef :: tm.getD 115 undef :: tm.getD 116 undef :: tm.getD 117 undef :: tm.getD 118 undef :: tm.getD 119 undef :: tm.getD 120 undef :: tm.getD 121 undef :: tm.getD 122 undef :: tm.getD 123 undef :: tm.getD 124 undef :: tm.getD 125 undef :: tm.getD 126 undef :: tm.getD 127 undef :: tm.getD 128 undef :: tm.getD 129 undef :: tm.getD 130 undef :: tm.getD 131 undef :: tm.getD 132 undef :: tm.getD 133 undef :: tm.getD 134 undef :: tm.getD 135 undef :: tm.getD 136 undef :: tm.getD 137 undef :: tm.getD 138 undef :: tm.getD 139 undef :: tm.getD 140 undef :: tm.getD 141 undef :: tm.getD 142 undef :: tm.getD 143 undef :: tm.getD 144 undef :: tm.getD 145 undef :: tm.getD 146 undef :: tm.getD 147 undef :: tm.getD 148 undef :: tm.getD 149 undef :: tm.getD 150 undef :: tm.getD 151 undef :: tm.getD 152 undef :: tm.getD 153 undef :: tm.getD 154 undef :: tm.getD 155 undef :: tm.getD 156 undef :: tm.getD 157 undef :: tm.getD 158 undef :: tm.getD 159 undef :: tm.getD 160 undef :: tm.getD 161 undef :: tm.getD 162 undef :: tm.getD 163 undef :: tm.getD 164 undef :: tm.getD 165 undef :: tm.getD 166 undef :: tm.getD 167 undef :: tm.getD 168 undef :: tm.getD 169 undef :: tm.getD 170 undef :: tm.getD 171 undef :: tm.getD 172 undef :: tm.getD 173 undef :: tm.getD 174 undef :: tm.getD 175 undef :: tm.getD 176 undef :: tm.getD 177 undef :: tm.getD 178 undef :: tm.getD 179 undef :: tm.getD 180 undef :: tm.getD 181 undef :: tm.getD 182 undef :: tm.getD 183 undef :: tm.getD 184 undef :: tm.getD 185 undef :: tm.getD 186 undef :: tm.getD 187 undef :: tm.getD 188 undef :: tm.getD 189 undef :: tm.getD 190 undef :: tm.getD 191 undef :: tm.getD 192 undef :: []) := arr_eq tm 193 hsz
                    rw [d0, d1, d2, d3, d4, d5, d6, d7, d8, d9, d10, d11, d12, d13, d14, d15, d16, d17, d18, d19, d20, d21, d22, d23, d24, d25, d26, d27, d28, d29, d30, d31, d32, d33, d34, d35, d36, d37, d38, d39, d40, d41, d42, d43, d44, d45, d46, d47, d48, d49, d50, d51, d52, d53, d54, d55, d56, d57, d58, d59, d60, d61, d62, d63, d64, d65, d66, d67, d68, d69, d70, d71, d72, d73, d74, d75, d76, d77, d78, d79, d80, d81, d82, d83, d84, d85, d86, d87, d88, d89, d90, d91, d92, d93, d94, d95, d96, d97, d98, d99, d100, d101, d102, d103, d104, d105, d106, d107, d108, d109, d110, d111, d112, d113, d114, d115, d116, d117, d118, d119, d120, d121, d122, d123, d124, d125, d126, d127, d128, d129, d130, d131, d132, d133, d134, d135, d136, d137, d138, d139, d140, d141, d142, d143, d144, d145, d146, d147, d148, d160, d161, d162, d163, d164, d165, d166, d167, d168, d169, d170, d171, d172, d173, d174, d175, d176, d177, d178, d179, d180, d181, d182, d183, d184, d185, d186, d187, d188, d189, d190, d191, d192, d158] at e
                    clear d0 d1 d2 d3 d4 d5 d6 d7 d8 d9 d10 d11 d12 d13 d14 d15 d16 d17 d18 d19 d20 d21 d22 d23 d24 d25 d26 d27 d28 d29 d30 d31 d32 d33 d34 d35 d36 d37 d38 d39 d40 d41 d42 d43 d44 d45 d46 d47 d48 d49 d50 d51 d52 d53 d54 d55 d56 d57 d58 d59 d60 d61 d62 d63 d64 d65 d66 d67 d68 d69 d70 d71 d72 d73 d74 d75 d76 d77 d78 d79 d80 d81 d82 d83 d84 d85 d86 d87 d88 d89 d90 d91 d92 d93 d94 d95 d96 d97 d98 d99 d100 d101 d102 d103 d104 d105 d106 d107 d108 d109 d110 d111 d112 d113 d114 d115 d116 d117 d118 d119 d120 d121 d122 d123 d124 d125 d126 d127 d128 d129 d130 d131 d132 d133 d134 d135 d136 d137 d138 d139 d140 d141 d142 d143 d144 d145 d146 d147 d148 d160 d161 d162 d163 d164 d165 d166 d167 d168 d169 d170 d171 d172 d173 d174 d175 d176 d177 d178 d179 d180 d181 d182 d183 d184 d185 d186 d187 d188 d189 d190 d191 d192 d158 hsz
                    generalize tm.getD 149 undef = v149 at e
                    generalize tm.getD 150 undef = v150 at e
                    generalize tm.getD 151 undef = v151 at e
                    generalize tm.getD 152 undef = v152 at e
                    generalize tm.getD 153 undef = v153 at e
                    generalize tm.getD 154 undef = v154 at e
                    generalize tm.getD 155 undef = v155 at e
                    generalize tm.getD 156 undef = v156 at e
                    generalize tm.getD 157 undef = v157 at e
                    generalize tm.getD 159 undef = v159 at e
                    subst e
                    obtain ⟨Y0, Q0, Y1, Q1, Y2, Q2, hn⟩ := hC
                    have HN := Lib.hid hn
                    clear hn hval
                    go_wp2_with fail
                    refine ⟨⟨k + 1, Y0, Q0, Y1, Q1, Y2, Q2, by omega, by go_num, ?_⟩, ?_⟩
                    · rw [HTS.out]
                      have h9 := HN.out
                      exact ⟨h9.m, h9.b, h9.x, h9.ap, fun _ _ _ _ h => h, fun _ h => h.elim⟩
                    · simp [RowKit.intOf]; omega
                · have hkm : k = m.length := by omega
                  have HS5 : Hid (HaveN w wr 3 (fam3 ⟨g, M2, X0, R0⟩ ⟨h, M2, X1, R1⟩ ⟨d, M2, X2, R2⟩) w2 (fun _ => False)) := Lib.hid (by
                    have := HH.out
                    rw [hkm, ← HM2.out] at this
                    exact this)
                  have HOK2 : Hid (M2.Ok 100) := Lib.hid (by
                    have := HOKK.out
                    rwa [hkm, ← HM2.out] at this)
                  clear HH HOKK hkm
                  go_wp2_with fail
                  obtain ⟨wT, rfl⟩ : ∃ wT : World, wT = wr := ⟨_, rfl⟩
                  go_loopw [161] (fun vk wr => ∃ i : Nat, i ≤ n ∧ vk = .int .i64 i ∧ Below wT.heap.size wT wr) (fun vk _ => n - (RowKit.intOf vk).toNat)
                  case atStart => exact ⟨0, by omega, rfl, Below.refl _ _⟩
                  case round =>
                    obtain ⟨t, ht, rfl, hb⟩ := hrel
                    have HB := Lib.hid hb
                    obtain ⟨wi, rfl⟩ : ∃ wi : World, wi = wr := ⟨_, rfl⟩
                    clear hb
                    by_cases hlt : t < n
                    · go_wp2_with fail
                      refine (read12 (HS5.out.below HB.out).m0.1 HOK2.out t).mono ?_
                      rintro e w8 ⟨v8, rfl, ho8, hb8⟩
                      obtain ⟨a8, c8, rfl⟩ := ownD_form ho8
                      have HB8 := Lib.hid (HB.out.trans (hb8.mono HB.out.size))
                      have HO8 := Lib.hid ho8
                      clear ho8 hb8
                      go_wp2_with fail
                      refine (read12 (HS5.out.below HB8.out).m1.1 HOK2.out t).mono ?_
                      rintro e w9 ⟨v9, rfl, ho9, hb9⟩
                      obtain ⟨a9, c9, rfl⟩ := ownD_form ho9
                      have HB9 := Lib.hid (HB8.out.trans (hb9.mono HB8.out.size))
                      have hbd := readR_bd M2 (t : Int)
                      have HEQ := Lib.hid (equal12 (D13.rdI_own (ownD_keep HO8.out hb9) rfl (by omega) hbd.2) (D13.rdI_own ho9 rfl (by omega) hbd.2))
                      rw [decide_eq_true rfl] at HEQ
                      clear ho9 hb9 hbd
                      go_wp2_with fail
                      refine HEQ.out.mono ?_
                      rintro e w12 ⟨rfl, hb12⟩
                      have HB12 := Lib.hid (HB9.out.trans (hb12.mono HB9.out.size))
                      clear hb12
                      go_wp2_with fail
                      go_roundw
                      case rel => exact ⟨t + 1, by omega, by go_num, HB12.out⟩
                      case measure => simp [RowKit.intOf]; omega
                    · have HF := Lib.hid (HS5.out.below HB.out).b
                      go_wp2_with fail
                      go_ret
                      exact ⟨rfl, HF.out⟩
set_option maxRecDepth 100000 in
set_option maxHeartbeats 8000000 in
theorem clones_law2 (w : World) (a : Int) (ha : (Lit.int .u8 a).wf = true) (v1 : Value) (l : List AV) (h1 : CameActs w v1 l) (v2 : Value) (m : List AV) (h2 : CameActs w v2 m) :
    Calls Try.prog 7 #[.bool true, .int .u8 a, v1, v2] w fun e w' => e = .returned (.bool true) ∧ Below w.heap.size w w' := by
  obtain ⟨ha0, ha1⟩ := u8_wf ha
  clear ha
  obtain ⟨y, rfl⟩ : ∃ y : Nat, a = y := ⟨a.toNat, by omega⟩
  obtain ⟨al, cl, rfl, _⟩ := RdD.form h1.1
  obtain ⟨am, cm, rfl, _⟩ := RdD.form h2.1
  have HL := Lib.hid h1
  have HM := Lib.hid h2
  have hl63 := h1.2.1
  have hm63 := h2.2.1
  clear h1 h2
  have HAW := Lib.hid (awake12 w)
  obtain ⟨n, hn⟩ : ∃ n : Nat, n = 1 + y % 6 := ⟨_, rfl⟩
  have hn1 : (1 : Int) + (y : Int) % 6 = (n : Int) := by omega
  have hnb : 1 ≤ n ∧ n ≤ 6 := by omega
  have HNEW := Lib.hid (fun W => new12 2 (n : Nat) 4 (by unfold newOk; omega) W)
  rw [show (2 : Int).toNat = 2 from rfl, show (4 : Int).toNat = 4 from rfl, Int.toNat_natCast] at HNEW
  have HFL := Lib.hid (fun W (hW : Below w.heap.size w W) => few12 (HL.out.keep hW))
  have HFM := Lib.hid (fun W (hW : Below w.heap.size w W) => few12 (HM.out.keep hW))
  clear hn
  go_enter Try.func7, Try.ntmps7
  go_wp2_with fail
  refine HAW.out.mono ?_
  rintro e w1 ⟨rfl, hb1⟩
  have HB1 := Lib.hid hb1
  clear hb1
  go_wp2_with fail
  refine (HFL.out _ HB1.out).mono ?_
  rintro e w' ⟨rfl, rfl⟩
  cases hfl : fewR l with
  | false =>
    clear hfl
    go_wp2_with fail
    go_ret
    exact ⟨rfl, HB1.out⟩
  | true =>
  obtain ⟨hs1, hl40⟩ := (fewR_iff l).1 hfl
  have lS := Lib.hid hs1
  clear hs1 hfl
  go_wp2_with fail
  refine (HFM.out _ HB1.out).mono ?_
  rintro e w' ⟨rfl, rfl⟩
  cases hfm : fewR m with
  | false =>
    clear hfm
    go_wp2_with fail
    go_ret
    exact ⟨rfl, HB1.out⟩
  | true =>
  obtain ⟨hs2, hm40⟩ := (fewR_iff m).1 hfm
  have mS := Lib.hid hs2
  clear hs2 hfm HFL HFM
  go_wp2_with fail
  refine (HNEW.out _).mono ?_
  rintro e w2 hw
  obtain ⟨g, X2, R2, rfl, hm2, hb2, hx2⟩ := hw
  obtain ⟨M0, hM0⟩ : ∃ M0, M0 = medNew 2 n 4 := ⟨_, rfl⟩
  rw [← hM0] at hm2
  have HOK0 : Hid (M0.Ok 0) := Lib.hid (by rw [hM0]; exact medNew_ok (by omega) (by omega) (by omega))
  have HN0 : Hid (M0.n = n) := Lib.hid (by rw [hM0]; simp [medNew, Med.n])
  have H2 : Hid (HaveN w w2 1 (fun _ => ⟨g, M0, X2, R2⟩) w2 (fun _ => False)) := Lib.hid (HaveN.one ⟨hm2, HB1.out.trans (hb2.mono HB1.out.size), fun b hb => Nat.le_trans HB1.out.size (hx2 b hb)⟩)
  clear hm2 hb2 hx2 hM0 hn1
  go_wp2_with fail
  go_loopw [68] (fun vk wr => ∃ k X R, k ≤ l.length ∧ vk = .int .i64 (k : Nat) ∧ HaveN w wr 1 (fun _ => ⟨g, M0.acts ((l.map AV.a).take k), X, R⟩) w2 (fun _ => False)) (fun vk _ => l.length - (RowKit.intOf vk).toNat)
  case atStart => exact ⟨0, X2, R2, by omega, rfl, H2.out⟩
  case round =>
    obtain ⟨k, X, R, hk, rfl, hh⟩ := hrel
    have HH := Lib.hid hh
    clear hh
    have HOKK : Hid ((M0.acts ((l.map AV.a).take k)).Ok 100) := Lib.hid ((acts_ok HOK0.out _).mono (by rw [List.length_take]; omega))
    by_cases hlt : k < l.length
    · obtain ⟨bl, off, hcell⟩ := RdD.at (HL.out.keep HH.out.b).1
      obtain ⟨hva, hrange⟩ := hcell k hlt
      have hx := HL.out.2.2 k hlt
      have hsm := lS.out k hlt
      have HTK : Hid ((l.map AV.a).take (k + 1) = (l.map AV.a).take k ++ [(atD avz l k).a]) := Lib.hid (by
        rw [List.take_succ_eq_append_getElem (by rw [List.length_map]; exact hlt)]
        simp [atD, hlt])
      have hix := fun w' => run_idxS Try.underlying54 Try.sizeAct (cap := cl) (n := l.length) (k := k) (b := bl) (off := off) hva hlt _ rfl w'
      generalize atD avz l k = x at *
      obtain ⟨xa, xvs, xvE, xvC⟩ := x
      obtain ⟨sa, sc, rfl, _⟩ := RdD.form (show RdSc _ xvs xa.scr from hx.s.1)
      obtain ⟨aE, cE, rfl, _⟩ := RdS.form (show RdS _ 1 xvE xa.dam.er.length _ from hx.d.er.1)
      obtain ⟨aC, cC, rfl, _⟩ := RdD.form (show RdCh _ xvC xa.dam.ch from hx.d.ch.1)
      have c0 := hrange 0 _ rfl
      have c1 := hrange 1 _ rfl
      have c2 := hrange 2 _ rfl
      have c3 := hrange 3 _ rfl
      have c4 := hrange 4 _ rfl
      have c5 := hrange 5 _ rfl
      have c6 := hrange 6 _ rfl
      have c7 := hrange 7 _ rfl
      simp only [Nat.add_zero] at c0
      have HX := Lib.hid hx
      have HSM := Lib.hid hsm
      have hA := (Below.refl wr.heap.size wr).alloc (Nat.le_refl _) (.cells #[.int .i64 xa.kind, .int .i64 xa.at_, .int .i64 xa.byte, .bool xa.short, .slice sa xa.scr.length sc, .int .i64 xa.dam.lba, .slice aE xa.dam.er.length cE, .slice aC xa.dam.ch.length cC] 46)
      have HA := Lib.hid (HH.out.below hA)
      have HACT := Lib.hid (act12x (HA.out.m 0 (by omega)) HOKK.out (by omega) ⟨xa, .slice sa xa.scr.length sc, .slice aE xa.dam.er.length cE, .slice aC xa.dam.ch.length cC⟩ HX.out HA.out.b (fun b hb => HA.out.x 0 (by omega) b (.inl hb)) HSM.out)
      clear hcell hva hrange hx hsm hA
      go_wp2_with fail
      refine HACT.out.mono ?_
      rintro e w5 hw
      obtain ⟨rfl, X5, R5, h5⟩ := HA.out.step (i := 0) (by omega) hw
      rw [← acts_snoc2 _ _ _ _ HTK.out] at h5
      have H5 : Hid (HaveN w w5 1 (fun _ => ⟨g, M0.acts ((l.map AV.a).take (k + 1)), X5, R5⟩) w2 (fun _ => False)) := Lib.hid (h5.congr fun i hi => by
        obtain rfl : i = 0 := by omega
        exact (upd_same _ _ _).symm)
      clear h5 hw
      go_wp2_with fail
      go_roundw
      case rel => exact ⟨k + 1, X5, R5, by omega, by go_num, H5.out⟩
      case measure => simp [RowKit.intOf]; omega
    · obtain rfl : k = l.length := by omega
      obtain ⟨M1, hM1⟩ : ∃ M1, M1 = M0.acts ((l.map AV.a).take l.length) := ⟨_, rfl⟩
      rw [← hM1] at HH HOKK
      have HOK1 : Hid (M1.Ok 40) := Lib.hid (by rw [hM1]; exact (acts_ok HOK0.out _).mono (by rw [List.length_take]; omega))
      have HN1 : Hid (M1.n = n) := Lib.hid (by rw [hM1, acts_n]; exact HN0.out)
      clear hM1 hlt hk H2
      go_wp2_with fail
      refine (clone12 (HH.out.m 0 (by omega)) HOKK.out).mono ?_
      rintro e w5 hw
      obtain ⟨h, X5, R5, rfl, h5⟩ := HH.out.clone (i := 0) (by omega) hw
      have H5 := Lib.hid h5
      clear h5 hw
      go_wp2_with fail
      refine (clone12 (H5.out.m 0 (by omega)) HOKK.out).mono ?_
      rintro e w6 hw
      obtain ⟨d, X6, R6, rfl, h6⟩ := H5.out.clone (i := 0) (by omega) hw
      have H6 : Hid (HaveN w w6 3 (fam3 ⟨g, M1, X, R⟩ ⟨h, M1, X5, R5⟩ ⟨d, M1, X6, R6⟩) w2 (fun _ => False)) := Lib.hid (h6.congr (fam3_make _ _ _ _ rfl))
      clear h6 hw H5
      go_wp2_with fail
      obtain ⟨wo, rfl⟩ : ∃ wo : World, wo = wr := ⟨_, rfl⟩
      clear HH
      go_loopw [88] (fun vk wr => ∃ k X1 R1, k ≤ m.length ∧ vk = .int .i64 (k : Nat) ∧ HaveN w wr 3 (fam3 ⟨g, M1, X, R⟩ ⟨h, M1.acts ((m.map AV.a).take k), X1, R1⟩ ⟨d, M1, X6, R6⟩) w2 (fun _ => False)) (fun vk _ => m.length - (RowKit.intOf vk).toNat)
      case atStart => exact ⟨0, X5, R5, by omega, rfl, H6.out⟩
      case round =>
        obtain ⟨k, X7, R7, hk, rfl, hh⟩ := hrel
        have HH := Lib.hid hh
        clear hh
        have HOKK : Hid ((M1.acts ((m.map AV.a).take k)).Ok 100) := Lib.hid ((acts_ok HOK1.out _).mono (by rw [List.length_take]; omega))
        by_cases hlt : k < m.length
        · obtain ⟨bl, off, hcell⟩ := RdD.at (HM.out.keep HH.out.b).1
          obtain ⟨hva, hrange⟩ := hcell k hlt
          have hx := HM.out.2.2 k hlt
          have hsm := mS.out k hlt
          have HTK : Hid ((m.map AV.a).take (k + 1) = (m.map AV.a).take k ++ [(atD avz m k).a]) := Lib.hid (by
            rw [List.take_succ_eq_append_getElem (by rw [List.length_map]; exact hlt)]
            simp [atD, hlt])
          have hix := fun w' => run_idxS Try.underlying54 Try.sizeAct (cap := cm) (n := m.length) (k := k) (b := bl) (off := off) hva hlt _ rfl w'
          generalize atD avz m k = x at *
          obtain ⟨xa, xvs, xvE, xvC⟩ := x
          obtain ⟨sa, sc, rfl, _⟩ := RdD.form (show RdSc _ xvs xa.scr from hx.s.1)
          obtain ⟨aE, cE, rfl, _⟩ := RdS.form (show RdS _ 1 xvE xa.dam.er.length _ from hx.d.er.1)
          obtain ⟨aC, cC, rfl, _⟩ := RdD.form (show RdCh _ xvC xa.dam.ch from hx.d.ch.1)
          have c0 := hrange 0 _ rfl
          have c1 := hrange 1 _ rfl
          have c2 := hrange 2 _ rfl
          have c3 := hrange 3 _ rfl
          have c4 := hrange 4 _ rfl
          have c5 := hrange 5 _ rfl
          have c6 := hrange 6 _ rfl
          have c7 := hrange 7 _ rfl
          simp only [Nat.add_zero] at c0
          have HX := Lib.hid hx
          have HSM := Lib.hid hsm
          have hA := (Below.refl wr.heap.size wr).alloc (Nat.le_refl _) (.cells #[.int .i64 xa.kind, .int .i64 xa.at_, .int .i64 xa.byte, .bool xa.short, .slice sa xa.scr.length sc, .int .i64 xa.dam.lba, .slice aE xa.dam.er.length cE, .slice aC xa.dam.ch.length cC] 46)
          have HA := Lib.hid (HH.out.below hA)
          have HACT := Lib.hid (act12x HA.out.m1.1 HOKK.out (by omega) ⟨xa, .slice sa xa.scr.length sc, .slice aE xa.dam.er.length cE, .slice aC xa.dam.ch.length cC⟩ HX.out HA.out.b HA.out.m1.2 HSM.out)
          clear hcell hva hrange hx hsm hA
          go_wp2_with fail
          refine HACT.out.mono ?_
          rintro e w8 hw
          obtain ⟨rfl, X8, R8, h8⟩ := HA.out.s1 hw
          rw [← acts_snoc2 _ _ _ _ HTK.out] at h8
          have H8 := Lib.hid h8
          clear h8 hw
          go_wp2_with fail
          go_roundw
          case rel => exact ⟨k + 1, X8, R8, by omega, by go_num, H8.out⟩
          case measure => simp [RowKit.intOf]; omega
        · obtain rfl : k = m.length := by omega
          obtain ⟨M2, hM2⟩ : ∃ M2, M2 = M1.acts ((m.map AV.a).take m.length) := ⟨_, rfl⟩
          rw [← hM2] at HH HOKK
          have HM2 := Lib.hid hM2
          have HN2 : Hid (M2.n = n) := Lib.hid (by rw [hM2, acts_n]; exact HN1.out)
          clear hM2 hlt hk H6
          go_wp2_with fail
          obtain ⟨wS, rfl⟩ : ∃ wS : World, wS = wr := ⟨_, rfl⟩
          have HOK1' := Lib.hid (HOK1.out.mono (show 40 ≤ 100 by omega))
          go_loopw [97] (fun vk wr => ∃ i : Nat, i ≤ n ∧ vk = .int .i64 i ∧ Below wS.heap.size wS wr) (fun vk _ => n - (RowKit.intOf vk).toNat)
          case atStart => exact ⟨0, by omega, rfl, Below.refl _ _⟩
          case round =>
            obtain ⟨i, hi, rfl, hb⟩ := hrel
            have HB := Lib.hid hb
            obtain ⟨wi, rfl⟩ : ∃ wi : World, wi = wr := ⟨_, rfl⟩
            clear hb
            by_cases hlt : i < n
            · go_wp2_with fail
              refine (read12 (HH.out.below HB.out).m0.1 HOK1'.out i).mono ?_
              rintro e w8 ⟨v8, rfl, ho8, hb8⟩
              obtain ⟨a8, c8, rfl⟩ := ownD_form ho8
              have HB8 := Lib.hid (HB.out.trans (hb8.mono HB.out.size))
              have HO8 := Lib.hid ho8
              clear ho8 hb8
              go_wp2_with fail
              refine (read12 (HH.out.below HB8.out).m2.1 HOK1'.out i).mono ?_
              rintro e w9 ⟨v9, rfl, ho9, hb9⟩
              obtain ⟨a9, c9, rfl⟩ := ownD_form ho9
              have HB9 := Lib.hid (HB8.out.trans (hb9.mono HB8.out.size))
              have HO9 := Lib.hid ho9
              have HO8' := Lib.hid (ownD_keep HO8.out hb9)
              clear ho9 hb9
              go_wp2_with fail
              refine (count12 (HH.out.below HB9.out).m0.1 HOK1'.out.n.2 i).mono ?_
              rintro e w10 ⟨rfl, hb10⟩
              have HB10 := Lib.hid (HB9.out.trans (hb10.mono HB9.out.size))
              have HO9a := Lib.hid (ownD_keep HO9.out hb10)
              have HO8a := Lib.hid (ownD_keep HO8'.out hb10)
              clear hb10
              go_wp2_with fail
              refine (count12 (HH.out.below HB10.out).m2.1 HOK1'.out.n.2 i).mono ?_
              rintro e w11 ⟨rfl, hb11⟩
              have HB11 := Lib.hid (HB10.out.trans (hb11.mono HB10.out.size))
              have hbd := readR_bd M1 (i : Int)
              have HEQ := Lib.hid (equal12 (D13.rdI_own (ownD_keep HO8a.out hb11) rfl (by omega) hbd.2) (D13.rdI_own (ownD_keep HO9a.out hb11) rfl (by omega) hbd.2))
              rw [decide_eq_true rfl] at HEQ
              clear hb11 hbd
              go_wp2_with fail
              refine HEQ.out.mono ?_
              rintro e w12 ⟨rfl, hb12⟩
              have HB12 := Lib.hid (HB11.out.trans (hb12.mono HB11.out.size))
              clear hb12
              go_wp2_with fail
              go_roundw
              case rel => exact ⟨i + 1, by omega, by go_num, HB12.out⟩
              case measure => simp [RowKit.intOf]; omega
            · have HT := Lib.hid (HH.out.below HB.out)
              clear hi HH
              go_wp2_with fail
              clear hlt
              obtain ⟨X9, hX9⟩ : ∃ X9, X9 = X7 := ⟨_, rfl⟩
              clear hX9
              go_loopw [148] (fun vk wr => ∃ k X0 R0 X1 R1 X2 R2, k ≤ m.length ∧ vk = .int .i64 (k : Nat) ∧ HaveN w wr 3 (fam3 ⟨g, M1.acts ((m.map AV.a).take k), X0, R0⟩ ⟨h, M2, X1, R1⟩ ⟨d, M1.acts ((m.map AV.a).take k), X2, R2⟩) w2 (fun _ => False)) (fun vk _ => m.length - (RowKit.intOf vk).toNat)
              case atStart => exact ⟨0, X, R, X7, R7, X6, R6, by omega, rfl, HT.out⟩
              case round =>
                obtain ⟨k, X0, R0, X1, R1, X2, R2, hk, rfl, hh⟩ := hrel
                have HH := Lib.hid hh
                clear hh
                have HOKK : Hid ((M1.acts ((m.map AV.a).take k)).Ok 100) := Lib.hid ((acts_ok HOK1.out _).mono (by rw [List.length_take]; omega))
                by_cases hlt : k < m.length
                · obtain ⟨bl, off, hcell⟩ := RdD.at (HM.out.keep HH.out.b).1
                  obtain ⟨hva, hrange⟩ := hcell k hlt
                  have hx := HM.out.2.2 k hlt
                  have hsm := mS.out k hlt
                  have HTK : Hid ((m.map AV.a).take (k + 1) = (m.map AV.a).take k ++ [(atD avz m k).a]) := Lib.hid (by
                    rw [List.take_succ_eq_append_getElem (by rw [List.length_map]; exact hlt)]
                    simp [atD, hlt])
                  have hix := fun w' => run_idxS Try.underlying54 Try.sizeAct (cap := cm) (n := m.length) (k := k) (b := bl) (off := off) hva hlt _ rfl w'
                  generalize atD avz m k = x at *
                  obtain ⟨xa, xvs, xvE, xvC⟩ := x
                  obtain ⟨sa, sc, rfl, _⟩ := RdD.form (show RdSc _ xvs xa.scr from hx.s.1)
                  obtain ⟨aE, cE, rfl, _⟩ := RdS.form (show RdS _ 1 xvE xa.dam.er.length _ from hx.d.er.1)
                  obtain ⟨aC, cC, rfl, _⟩ := RdD.form (show RdCh _ xvC xa.dam.ch from hx.d.ch.1)
                  have c0 := hrange 0 _ rfl
                  have c1 := hrange 1 _ rfl
                  have c2 := hrange 2 _ rfl
                  have c3 := hrange 3 _ rfl
                  have c4 := hrange 4 _ rfl
                  have c5 := hrange 5 _ rfl
                  have c6 := hrange 6 _ rfl
                  have c7 := hrange 7 _ rfl
                  simp only [Nat.add_zero] at c0
                  have HX := Lib.hid hx
                  have HSM := Lib.hid hsm
                  have hA := (Below.refl wr.heap.size wr).alloc (Nat.le_refl _) (.cells #[.int .i64 xa.kind, .int .i64 xa.at_, .int .i64 xa.byte, .bool xa.short, .slice sa xa.scr.length sc, .int .i64 xa.dam.lba, .slice aE xa.dam.er.length cE, .slice aC xa.dam.ch.length cC] 46)
                  have HA := Lib.hid (HH.out.below hA)
                  obtain ⟨A2, hA2⟩ : ∃ A2, A2 = ((M1.acts ((m.map AV.a).take k)).act xa).2 := ⟨_, rfl⟩
                  obtain ⟨z, hz⟩ : ∃ z, z = ((M1.acts ((m.map AV.a).take k)).act xa).1 := ⟨_, rfl⟩
                  have HTS := Lib.hid (acts_snoc2 M1 _ _ _ HTK.out)
                  rw [← hA2] at HTS
                  generalize hAE : M1.acts ((m.map AV.a).take k) = A at *
                  have HACT := Lib.hid (fun W gq XX RR (hm : MedW W gq A XX RR) (h0 : Below w.heap.size w W) (hX : ∀ b, XX b → w.heap.size ≤ b) => act12x hm HOKK.out (by omega) ⟨xa, .slice sa xa.scr.length sc, .slice aE xa.dam.er.length cE, .slice aC xa.dam.ch.length cC⟩ HX.out h0 hX HSM.out)
                  have HA2 := Lib.hid hA2.symm
                  have HZ := Lib.hid hz
                  have hbx := Bx.new wr 46 [.int .i64 xa.kind, .int .i64 xa.at_, .int .i64 xa.byte, .bool xa.short, .slice sa xa.scr.length sc, .int .i64 xa.dam.lba, .slice aE xa.dam.er.length cE, .slice aC xa.dam.ch.length cC]
                  obtain ⟨ab, hab⟩ : ∃ ab, ab = wr.heap.size := ⟨_, rfl⟩
                  obtain ⟨wa, hwa⟩ : ∃ wa, wa = wr.alloc (.cells #[.int .i64 xa.kind, .int .i64 xa.at_, .int .i64 xa.byte, .bool xa.short, .slice sa xa.scr.length sc, .int .i64 xa.dam.lba, .slice aE xa.dam.er.length cE, .slice aC xa.dam.ch.length cC] 46) := ⟨_, rfl⟩
                  change Bx (wr.alloc (.cells #[.int .i64 xa.kind, .int .i64 xa.at_, .int .i64 xa.byte, .bool xa.short, .slice sa xa.scr.length sc, .int .i64 xa.dam.lba, .slice aE xa.dam.er.length cE, .slice aC xa.dam.ch.length cC] 46)) _ _ _ at hbx
                  rw [← hwa, ← hab] at hbx
                  rw [← hwa] at hA
                  have HBX := Lib.hid hbx
                  have HWA := Lib.hid hwa
                  have HAB := Lib.hid hab
                  have h9 := HH.out.fix hA
                  have HC0 : Hid (TwoC w wa ab g h d A M2 A2 0 wa) := Lib.hid ⟨X0, R0, X1, R1, X2, R2, ⟨h9.m, h9.b, h9.x, h9.ap, fun i hi b hx hz => by
                    have := HH.out.lt hi b (.inl hx)
                    omega, fun k hk => by
                    subst hk
                    exact ⟨hbx.lt, rfl⟩⟩⟩
                  have HW2B : Hid (Below w.heap.size w wa) := Lib.hid h9.b
                  clear hcell hva hrange hx hsm hA hA2 hz hbx hwa hab h9 hAE HA
                  go_upto_region 38 with (fail)
                  rw [show (wr.alloc (.cells #[.int .i64 xa.kind, .int .i64 xa.at_, .int .i64 xa.byte, .bool xa.short, .slice sa xa.scr.length sc, .int .i64 xa.dam.lba, .slice aE xa.dam.er.length cE, .slice aC xa.dam.ch.length cC] 46)) = wa from HWA.out.symm, show wr.heap.size = ab from HAB.out.symm]
                  clear hix c0 c1 c2 c3 c4 c5 c6 c7
                  refine wp_region_seqA (by kernel_rfl) (anyR) (fun r a W => TwoC w wa ab g h d A M2 A2 r W) (twoV g d ab xa sa aE aC sc cE cC z) (fun _ => false) twoVE 2 (by kernel_rfl) (by kernel_rfl) (.inl (by kernel_rfl)) (fun _ _ _ _ _ _ _ _ hc => hc) (twoV_keep g d ab xa sa aE aC sc cE cC z) (by obtain ⟨a0, a1, a2, a3, a4, a5, hn⟩ := HC0.out; exact ⟨a0, a1, a2, a3, a4, a5, hn.below (Below.refl _ _).drew⟩) ⟨?_, ?_, ?_, ?_, ?_, ?_, ?_, trivial⟩ ?_
                  · intro r a W hc hsz hold hdep hnot hlo hhi hrk
                    have o11 : a.tmps.getD 11 undef = .pointer (some ⟨g, 0, none⟩) := hold 11 (by kernel_rfl)
                    clear hsz hold hdep hnot hlo hhi hrk
                    refine stepR_do rfl (wanted_none rfl) ?_
                    refine stepA_val (v := .pointer (some ⟨g, 0, none⟩)) (anyR_mk _ _ _) rfl fun K hK => ?_
                    go_simp
                    exact hK
                  · intro r a W hc hsz hold hdep hnot hlo hhi hrk
                    have o31 : a.tmps.getD 31 undef = .pointer (some ⟨ab, 0, none⟩) := hold 31 (by kernel_rfl)
                    have hbx := hc.box HBX.out
                    have q0 := hbx.cell (i := 0) rfl
                    have q1 := hbx.cell (i := 1) rfl
                    have q2 := hbx.cell (i := 2) rfl
                    have q3 := hbx.cell (i := 3) rfl
                    have q4 := hbx.cell (i := 4) rfl
                    have q5 := hbx.cell (i := 5) rfl
                    have q6 := hbx.cell (i := 6) rfl
                    have q7 := hbx.cell (i := 7) rfl
                    clear hsz hold hdep hnot hlo hhi hrk
                    refine stepR_do rfl (wanted_none rfl) ?_
                    refine stepA_val (v := .agg #[.int .i64 xa.kind, .int .i64 xa.at_, .int .i64 xa.byte, .bool xa.short, .slice sa xa.scr.length sc, .int .i64 xa.dam.lba, .slice aE xa.dam.er.length cE, .slice aC xa.dam.ch.length cC]) (anyR_mk _ _ _) rfl fun K hK => ?_
                    go_simp
                    exact hK
                  · intro r a W hc hsz hold hdep hnot hlo hhi hrk
                    have hr := hrk 0 rfl
                    subst hr
                    have d0 : a.tmps.getD 152 undef = .pointer (some ⟨g, 0, none⟩) := hdep 0 (by kernel_rfl) rfl _ rfl
                    have e0 : a.tmps[152]?.getD undef = .pointer (some ⟨g, 0, none⟩) := by rw [← Array.getD_eq_getD_getElem?]; exact d0
                    have d1 : a.tmps.getD 153 undef = .agg #[.int .i64 xa.kind, .int .i64 xa.at_, .int .i64 xa.byte, .bool xa.short, .slice sa xa.scr.length sc, .int .i64 xa.dam.lba, .slice aE xa.dam.er.length cE, .slice aC xa.dam.ch.length cC] := hdep 1 (by kernel_rfl) rfl _ rfl
                    have e1 : a.tmps[153]?.getD undef = .agg #[.int .i64 xa.kind, .int .i64 xa.at_, .int .i64 xa.byte, .bool xa.short, .slice sa xa.scr.length sc, .int .i64 xa.dam.lba, .slice aE xa.dam.er.length cE, .slice aC xa.dam.ch.length cC] := by rw [← Array.getD_eq_getD_getElem?]; exact d1
                    clear hsz hold hdep hnot hlo hhi hrk
                    refine stepR_do rfl (wanted_none rfl) ?_
                    obtain ⟨X0, R0, X1, R1, X2, R2, hn⟩ := hc
                    have HN0 := Lib.hid hn
                    refine stepA_any (C := fun a W => TwoC w wa ab g h d A M2 A2 1 W) fun K hK => ?_
                    clear hn
                    go_simp
                    refine (HACT.out W g X0 R0 HN0.out.m0.1 HN0.out.b HN0.out.m0.2).mono ?_
                    rintro e w' hw
                    obtain ⟨rfl, X3, R3, h3⟩ := HN0.out.s0 hw
                    refine hK _ _ (anyR_mk _ _ _) ⟨X3, R3, X1, R1, X2, R2, ?_⟩ ?_
                    · rw [HA2.out] at h3; exact h3
                    · rw [HZ.out]; rfl
                  · intro r a W hc hsz hold hdep hnot hlo hhi hrk
                    have o16 : a.tmps.getD 16 undef = .pointer (some ⟨d, 0, none⟩) := hold 16 (by kernel_rfl)
                    clear hsz hold hdep hnot hlo hhi hrk
                    refine stepR_do rfl (wanted_none rfl) ?_
                    refine stepA_val (v := .pointer (some ⟨d, 0, none⟩)) (anyR_mk _ _ _) rfl fun K hK => ?_
                    go_simp
                    exact hK
                  · intro r a W hc hsz hold hdep hnot hlo hhi hrk
                    have o31 : a.tmps.getD 31 undef = .pointer (some ⟨ab, 0, none⟩) := hold 31 (by kernel_rfl)
                    have hbx := hc.box HBX.out
                    have q0 := hbx.cell (i := 0) rfl
                    have q1 := hbx.cell (i := 1) rfl
                    have q2 := hbx.cell (i := 2) rfl
                    have q3 := hbx.cell (i := 3) rfl
                    have q4 := hbx.cell (i := 4) rfl
                    have q5 := hbx.cell (i := 5) rfl
                    have q6 := hbx.cell (i := 6) rfl
                    have q7 := hbx.cell (i := 7) rfl
                    clear hsz hold hdep hnot hlo hhi hrk
                    refine stepR_do rfl (wanted_none rfl) ?_
                    refine stepA_val (v := .agg #[.int .i64 xa.kind, .int .i64 xa.at_, .int .i64 xa.byte, .bool xa.short, .slice sa xa.scr.length sc, .int .i64 xa.dam.lba, .slice aE xa.dam.er.length cE, .slice aC xa.dam.ch.length cC]) (anyR_mk _ _ _) rfl fun K hK => ?_
                    go_simp
                    exact hK
                  · intro r a W hc hsz hold hdep hnot hlo hhi hrk
                    have hr := hrk 1 rfl
                    subst hr
                    have d3 : a.tmps.getD 155 undef = .pointer (some ⟨d, 0, none⟩) := hdep 3 (by kernel_rfl) rfl _ rfl
                    have e3 : a.tmps[155]?.getD undef = .pointer (some ⟨d, 0, none⟩) := by rw [← Array.getD_eq_getD_getElem?]; exact d3
                    have d4 : a.tmps.getD 156 undef = .agg #[.int .i64 xa.kind, .int .i64 xa.at_, .int .i64 xa.byte, .bool xa.short, .slice sa xa.scr.length sc, .int .i64 xa.dam.lba, .slice aE xa.dam.er.length cE, .slice aC xa.dam.ch.length cC] := hdep 4 (by kernel_rfl) rfl _ rfl
                    have e4 : a.tmps[156]?.getD undef = .agg #[.int .i64 xa.kind, .int .i64 xa.at_, .int .i64 xa.byte, .bool xa.short, .slice sa xa.scr.length sc, .int .i64 xa.dam.lba, .slice aE xa.dam.er.length cE, .slice aC xa.dam.ch.length cC] := by rw [← Array.getD_eq_getD_getElem?]; exact d4
                    clear hsz hold hdep hnot hlo hhi hrk
                    refine stepR_do rfl (wanted_none rfl) ?_
                    obtain ⟨X0, R0, X1, R1, X2, R2, hn⟩ := hc
                    have HN0 := Lib.hid hn
                    refine stepA_any (C := fun a W => TwoC w wa ab g h d A M2 A2 2 W) fun K hK => ?_
                    clear hn
                    go_simp
                    refine (HACT.out W d X2 R2 HN0.out.m2.1 HN0.out.b HN0.out.m2.2).mono ?_
                    rintro e w' hw
                    obtain ⟨rfl, X3, R3, h3⟩ := HN0.out.s2 hw
                    refine hK _ _ (anyR_mk _ _ _) ⟨X0, R0, X1, R1, X3, R3, ?_⟩ ?_
                    · rw [HA2.out] at h3; exact h3
                    · rw [HZ.out]; rfl
                  · intro r a W hc hsz hold hdep hnot hlo hhi hrk
                    have d2 : a.tmps.getD 154 undef = .int .i64 z := hdep 2 (by kernel_rfl) rfl _ rfl
                    have d5 : a.tmps.getD 157 undef = .int .i64 z := hdep 5 (by kernel_rfl) rfl _ rfl
                    clear hsz hold hdep hnot hlo hhi hrk
                    refine stepR_do rfl (wanted_none rfl) ?_
                    refine stepA_val (v := .bool false) (anyR_mk _ _ _) rfl fun K hK => ?_
                    go_simp
                    exact hK
                  · intro a W hC hd hsz hold hval
                    have d0 : a.tmps.getD 0 undef = .bool true := hold 0 (by kernel_rfl)
                    have d1 : a.tmps.getD 1 undef = .int .u8 ↑y := hold 1 (by kernel_rfl)
                    have d2 : a.tmps.getD 2 undef = .slice al l.length cl := hold 2 (by kernel_rfl)
                    have d3 : a.tmps.getD 3 undef = .slice am m.length cm := hold 3 (by kernel_rfl)
                    have d4 : a.tmps.getD 4 undef = undef := hold 4 (by kernel_rfl)
                    have d5 : a.tmps.getD 5 undef = undef := hold 5 (by kernel_rfl)
                    have d6 : a.tmps.getD 6 undef = undef := hold 6 (by kernel_rfl)
                    have d7 : a.tmps.getD 7 undef = undef := hold 7 (by kernel_rfl)
                    have d8 : a.tmps.getD 8 undef = u8 := hold 8 (by kernel_rfl)
                    have d9 : a.tmps.getD 9 undef = .int .i64 2 := hold 9 (by kernel_rfl)
                    have d10 : a.tmps.getD 10 undef = .int .i64 ↑n := hold 10 (by kernel_rfl)
                    have d11 : a.tmps.getD 11 undef = .pointer (some ⟨g, 0, none⟩) := hold 11 (by kernel_rfl)
                    have d12 : a.tmps.getD 12 undef = .int .i64 0 := hold 12 (by kernel_rfl)
                    have d13 : a.tmps.getD 13 undef = undef := hold 13 (by kernel_rfl)
                    have d14 : a.tmps.getD 14 undef = u14 := hold 14 (by kernel_rfl)
                    have d15 : a.tmps.getD 15 undef = .pointer (some ⟨h, 0, none⟩) := hold 15 (by kernel_rfl)
                    have d16 : a.tmps.getD 16 undef = .pointer (some ⟨d, 0, none⟩) := hold 16 (by kernel_rfl)
                    have d17 : a.tmps.getD 17 undef = undef := hold 17 (by kernel_rfl)
                    have d18 : a.tmps.getD 18 undef = u18 := hold 18 (by kernel_rfl)
                    have d19 : a.tmps.getD 19 undef = u19 := hold 19 (by kernel_rfl)
                    have d20 : a.tmps.getD 20 undef = u20 := hold 20 (by kernel_rfl)
                    have d21 : a.tmps.getD 21 undef = u21 := hold 21 (by kernel_rfl)
                    have d22 : a.tmps.getD 22 undef = u22 := hold 22 (by kernel_rfl)
                    have d23 : a.tmps.getD 23 undef = u23 := hold 23 (by kernel_rfl)
                    have d24 : a.tmps.getD 24 undef = u24 := hold 24 (by kernel_rfl)
                    have d25 : a.tmps.getD 25 undef = u25 := hold 25 (by kernel_rfl)
                    have d26 : a.tmps.getD 26 undef = u26 := hold 26 (by kernel_rfl)
                    have d27 : a.tmps.getD 27 undef = u27 := hold 27 (by kernel_rfl)
                    have d28 : a.tmps.getD 28 undef = u28 := hold 28 (by kernel_rfl)
                    have d29 : a.tmps.getD 29 undef = u29 := hold 29 (by kernel_rfl)
                    have d30 : a.tmps.getD 30 undef = undef := hold 30 (by kernel_rfl)
                    have d31 : a.tmps.getD 31 undef = .pointer (some ⟨ab, 0, none⟩) := hold 31 (by kernel_rfl)
                    have d32 : a.tmps.getD 32 undef = undef := hold 32 (by kernel_rfl)
                    have d33 : a.tmps.getD 33 undef = undef := hold 33 (by kernel_rfl)
                    have d34 : a.tmps.getD 34 undef = undef := hold 34 (by kernel_rfl)
                    have d35 : a.tmps.getD 35 undef = undef := hold 35 (by kernel_rfl)
                    have d36 : a.tmps.getD 36 undef = undef := hold 36 (by kernel_rfl)
                    have d37 : a.tmps.getD 37 undef = undef := hold 37 (by kernel_rfl)
                    have d38 : a.tmps.getD 38 undef = undef := hold 38 (by kernel_rfl)
                    have d39 : a.tmps.getD 39 undef = .bool true := hold 39 (by kernel_rfl)
                    have d40 : a.tmps.getD 40 undef = .bool false := hold 40 (by kernel_rfl)
                    have d41 : a.tmps.getD 41 undef = .slice al l.length cl := hold 41 (by kernel_rfl)
                    have d42 : a.tmps.getD 42 undef = .bool true := hold 42 (by kernel_rfl)
                    have d43 : a.tmps.getD 43 undef = .bool false := hold 43 (by kernel_rfl)
                    have d44 : a.tmps.getD 44 undef = .bool false := hold 44 (by kernel_rfl)
                    have d45 : a.tmps.getD 45 undef = .slice am m.length cm := hold 45 (by kernel_rfl)
                    have d46 : a.tmps.getD 46 undef = .bool true := hold 46 (by kernel_rfl)
                    have d47 : a.tmps.getD 47 undef = .bool false := hold 47 (by kernel_rfl)
                    have d48 : a.tmps.getD 48 undef = .bool false := hold 48 (by kernel_rfl)
                    have d49 : a.tmps.getD 49 undef = .bool true := hold 49 (by kernel_rfl)
                    have d50 : a.tmps.getD 50 undef = .int .u8 ↑y := hold 50 (by kernel_rfl)
                    have d51 : a.tmps.getD 51 undef = .int .i64 ↑y := hold 51 (by kernel_rfl)
                    have d52 : a.tmps.getD 52 undef = .int .i64 (↑y % 6) := hold 52 (by kernel_rfl)
                    have d53 : a.tmps.getD 53 undef = .int .i64 ↑n := hold 53 (by kernel_rfl)
                    have d54 : a.tmps.getD 54 undef = .tuple #[.pointer (some ⟨g, 0, none⟩), .int .i64 0] := hold 54 (by kernel_rfl)
                    have d55 : a.tmps.getD 55 undef = .int .i64 2 := hold 55 (by kernel_rfl)
                    have d56 : a.tmps.getD 56 undef = .int .i64 ↑n := hold 56 (by kernel_rfl)
                    have d57 : a.tmps.getD 57 undef = .tuple #[.pointer (some ⟨g, 0, none⟩), .int .i64 0] := hold 57 (by kernel_rfl)
                    have d58 : a.tmps.getD 58 undef = .pointer (some ⟨g, 0, none⟩) := hold 58 (by kernel_rfl)
                    have d59 : a.tmps.getD 59 undef = .int .i64 0 := hold 59 (by kernel_rfl)
                    have d60 : a.tmps.getD 60 undef = .int .i64 0 := hold 60 (by kernel_rfl)
                    have d61 : a.tmps.getD 61 undef = .bool false := hold 61 (by kernel_rfl)
                    have d62 : a.tmps.getD 62 undef = .bool false := hold 62 (by kernel_rfl)
                    have d63 : a.tmps.getD 63 undef = .pointer (some ⟨g, 0, none⟩) := hold 63 (by kernel_rfl)
                    have d64 : a.tmps.getD 64 undef = .bool false := hold 64 (by kernel_rfl)
                    have d65 : a.tmps.getD 65 undef = .bool false := hold 65 (by kernel_rfl)
                    have d66 : a.tmps.getD 66 undef = .slice al l.length cl := hold 66 (by kernel_rfl)
                    have d67 : a.tmps.getD 67 undef = .int .i64 ↑l.length := hold 67 (by kernel_rfl)
                    have d68 : a.tmps.getD 68 undef = .int .i64 ↑l.length := hold 68 (by kernel_rfl)
                    have d69 : a.tmps.getD 69 undef = .bool false := hold 69 (by kernel_rfl)
                    have d70 : a.tmps.getD 70 undef = u70 := hold 70 (by kernel_rfl)
                    have d71 : a.tmps.getD 71 undef = u71 := hold 71 (by kernel_rfl)
                    have d72 : a.tmps.getD 72 undef = u72 := hold 72 (by kernel_rfl)
                    have d73 : a.tmps.getD 73 undef = u73 := hold 73 (by kernel_rfl)
                    have d74 : a.tmps.getD 74 undef = u74 := hold 74 (by kernel_rfl)
                    have d75 : a.tmps.getD 75 undef = u75 := hold 75 (by kernel_rfl)
                    have d76 : a.tmps.getD 76 undef = .pointer (some ⟨g, 0, none⟩) := hold 76 (by kernel_rfl)
                    have d77 : a.tmps.getD 77 undef = .pointer (some ⟨h, 0, none⟩) := hold 77 (by kernel_rfl)
                    have d78 : a.tmps.getD 78 undef = .pointer (some ⟨g, 0, none⟩) := hold 78 (by kernel_rfl)
                    have d79 : a.tmps.getD 79 undef = .pointer (some ⟨d, 0, none⟩) := hold 79 (by kernel_rfl)
                    have d80 : a.tmps.getD 80 undef = .pointer (some ⟨h, 0, none⟩) := hold 80 (by kernel_rfl)
                    have d81 : a.tmps.getD 81 undef = .bool false := hold 81 (by kernel_rfl)
                    have d82 : a.tmps.getD 82 undef = .bool false := hold 82 (by kernel_rfl)
                    have d83 : a.tmps.getD 83 undef = .pointer (some ⟨d, 0, none⟩) := hold 83 (by kernel_rfl)
                    have d84 : a.tmps.getD 84 undef = .bool false := hold 84 (by kernel_rfl)
                    have d85 : a.tmps.getD 85 undef = .bool false := hold 85 (by kernel_rfl)
                    have d86 : a.tmps.getD 86 undef = .slice am m.length cm := hold 86 (by kernel_rfl)
                    have d87 : a.tmps.getD 87 undef = .int .i64 ↑m.length := hold 87 (by kernel_rfl)
                    have d88 : a.tmps.getD 88 undef = .int .i64 ↑m.length := hold 88 (by kernel_rfl)
                    have d89 : a.tmps.getD 89 undef = .bool false := hold 89 (by kernel_rfl)
                    have d90 : a.tmps.getD 90 undef = u90 := hold 90 (by kernel_rfl)
                    have d91 : a.tmps.getD 91 undef = u91 := hold 91 (by kernel_rfl)
                    have d92 : a.tmps.getD 92 undef = u92 := hold 92 (by kernel_rfl)
                    have d93 : a.tmps.getD 93 undef = u93 := hold 93 (by kernel_rfl)
                    have d94 : a.tmps.getD 94 undef = u94 := hold 94 (by kernel_rfl)
                    have d95 : a.tmps.getD 95 undef = u95 := hold 95 (by kernel_rfl)
                    have d96 : a.tmps.getD 96 undef = .int .i64 ↑n := hold 96 (by kernel_rfl)
                    have d97 : a.tmps.getD 97 undef = .int .i64 ↑i := hold 97 (by kernel_rfl)
                    have d98 : a.tmps.getD 98 undef = .bool false := hold 98 (by kernel_rfl)
                    have d99 : a.tmps.getD 99 undef = u99 := hold 99 (by kernel_rfl)
                    have d100 : a.tmps.getD 100 undef = u100 := hold 100 (by kernel_rfl)
                    have d101 : a.tmps.getD 101 undef = u101 := hold 101 (by kernel_rfl)
                    have d102 : a.tmps.getD 102 undef = u102 := hold 102 (by kernel_rfl)
                    have d103 : a.tmps.getD 103 undef = u103 := hold 103 (by kernel_rfl)
                    have d104 : a.tmps.getD 104 undef = u104 := hold 104 (by kernel_rfl)
                    have d105 : a.tmps.getD 105 undef = u105 := hold 105 (by kernel_rfl)
                    have d106 : a.tmps.getD 106 undef = u106 := hold 106 (by kernel_rfl)
                    have d107 : a.tmps.getD 107 undef = u107 := hold 107 (by kernel_rfl)
                    have d108 : a.tmps.getD 108 undef = u108 := hold 108 (by kernel_rfl)
                    have d109 : a.tmps.getD 109 undef = u109 := hold 109 (by kernel_rfl)
                    have d110 : a.tmps.getD 110 undef = u110 := hold 110 (by kernel_rfl)
                    have d111 : a.tmps.getD 111 undef = u111 := hold 111 (by kernel_rfl)
                    have d112 : a.tmps.getD 112 undef = u112 := hold 112 (by kernel_rfl)
                    have d113 : a.tmps.getD 113 undef = u113 := hold 113 (by kernel_rfl)
                    have d114 : a.tmps.getD 114 undef = u114 := hold 114 (by kernel_rfl)
                    have d115 : a.tmps.getD 115 undef = u115 := hold 115 (by kernel_rfl)
                    have d116 : a.tmps.getD 116 undef = u116 := hold 116 (by kernel_rfl)
                    have d117 : a.tmps.getD 117 undef = u117 := hold 117 (by kernel_rfl)
                    have d118 : a.tmps.getD 118 undef = u118 := hold 118 (by kernel_rfl)
                    have d119 : a.tmps.getD 119 undef = u119 := hold 119 (by kernel_rfl)
                    have d120 : a.tmps.getD 120 undef = u120 := hold 120 (by kernel_rfl)
                    have d121 : a.tmps.getD 121 undef = u121 := hold 121 (by kernel_rfl)
                    have d122 : a.tmps.getD 122 undef = u122 := hold 122 (by kernel_rfl)
                    have d123 : a.tmps.getD 123 undef = u123 := hold 123 (by kernel_rfl)
                    have d124 : a.tmps.getD 124 undef = u124 := hold 124 (by kernel_rfl)
                    have d125 : a.tmps.getD 125 undef = u125 := hold 125 (by kernel_rfl)
                    have d126 : a.tmps.getD 126 undef = u126 := hold 126 (by kernel_rfl)
                    have d127 : a.tmps.getD 127 undef = u127 := hold 127 (by kernel_rfl)
                    have d128 : a.tmps.getD 128 undef = u128 := hold 128 (by kernel_rfl)
                    have d129 : a.tmps.getD 129 undef = u129 := hold 129 (by kernel_rfl)
                    have d130 : a.tmps.getD 130 undef = u130 := hold 130 (by kernel_rfl)
                    have d131 : a.tmps.getD 131 undef = u131 := hold 131 (by kernel_rfl)
                    have d132 : a.tmps.getD 132 undef = u132 := hold 132 (by kernel_rfl)
                    have d133 : a.tmps.getD 133 undef = u133 := hold 133 (by kernel_rfl)
                    have d134 : a.tmps.getD 134 undef = u134 := hold 134 (by kernel_rfl)
                    have d135 : a.tmps.getD 135 undef = u135 := hold 135 (by kernel_rfl)
                    have d136 : a.tmps.getD 136 undef = u136 := hold 136 (by kernel_rfl)
                    have d137 : a.tmps.getD 137 undef = u137 := hold 137 (by kernel_rfl)
                    have d138 : a.tmps.getD 138 undef = u138 := hold 138 (by kernel_rfl)
                    have d139 : a.tmps.getD 139 undef = u139 := hold 139 (by kernel_rfl)
                    have d140 : a.tmps.getD 140 undef = u140 := hold 140 (by kernel_rfl)
                    have d141 : a.tmps.getD 141 undef = u141 := hold 141 (by kernel_rfl)
                    have d142 : a.tmps.getD 142 undef = u142 := hold 142 (by kernel_rfl)
                    have d143 : a.tmps.getD 143 undef = u143 := hold 143 (by kernel_rfl)
                    have d144 : a.tmps.getD 144 undef = u144 := hold 144 (by kernel_rfl)
                    have d145 : a.tmps.getD 145 undef = u145 := hold 145 (by kernel_rfl)
                    have d146 : a.tmps.getD 146 undef = .slice am m.length cm := hold 146 (by kernel_rfl)
                    have d147 : a.tmps.getD 147 undef = .int .i64 ↑m.length := hold 147 (by kernel_rfl)
                    have d148 : a.tmps.getD 148 undef = .int .i64 ↑k := hold 148 (by kernel_rfl)
                    have d160 : a.tmps.getD 160 undef = undef := hold 160 (by kernel_rfl)
                    have d161 : a.tmps.getD 161 undef = undef := hold 161 (by kernel_rfl)
                    have d162 : a.tmps.getD 162 undef = undef := hold 162 (by kernel_rfl)
                    have d163 : a.tmps.getD 163 undef = undef := hold 163 (by kernel_rfl)
                    have d164 : a.tmps.getD 164 undef = undef := hold 164 (by kernel_rfl)
                    have d165 : a.tmps.getD 165 undef = undef := hold 165 (by kernel_rfl)
                    have d166 : a.tmps.getD 166 undef = undef := hold 166 (by kernel_rfl)
                    have d167 : a.tmps.getD 167 undef = undef := hold 167 (by kernel_rfl)
                    have d168 : a.tmps.getD 168 undef = undef := hold 168 (by kernel_rfl)
                    have d169 : a.tmps.getD 169 undef = undef := hold 169 (by kernel_rfl)
                    have d170 : a.tmps.getD 170 undef = undef := hold 170 (by kernel_rfl)
                    have d171 : a.tmps.getD 171 undef = undef := hold 171 (by kernel_rfl)
                    have d172 : a.tmps.getD 172 undef = undef := hold 172 (by kernel_rfl)
                    have d173 : a.tmps.getD 173 undef = undef := hold 173 (by kernel_rfl)
                    have d174 : a.tmps.getD 174 undef = undef := hold 174 (by kernel_rfl)
                    have d175 : a.tmps.getD 175 undef = undef := hold 175 (by kernel_rfl)
                    have d176 : a.tmps.getD 176 undef = undef := hold 176 (by kernel_rfl)
                    have d177 : a.tmps.getD 177 undef = undef := hold 177 (by kernel_rfl)
                    have d178 : a.tmps.getD 178 undef = undef := hold 178 (by kernel_rfl)
                    have d179 : a.tmps.getD 179 undef = undef := hold 179 (by kernel_rfl)
                    have d180 : a.tmps.getD 180 undef = undef := hold 180 (by kernel_rfl)
                    have d181 : a.tmps.getD 181 undef = undef := hold 181 (by kernel_rfl)
                    have d182 : a.tmps.getD 182 undef = undef := hold 182 (by kernel_rfl)
                    have d183 : a.tmps.getD 183 undef = undef := hold 183 (by kernel_rfl)
                    have d184 : a.tmps.getD 184 undef = undef := hold 184 (by kernel_rfl)
                    have d185 : a.tmps.getD 185 undef = undef := hold 185 (by kernel_rfl)
                    have d186 : a.tmps.getD 186 undef = undef := hold 186 (by kernel_rfl)
                    have d187 : a.tmps.getD 187 undef = undef := hold 187 (by kernel_rfl)
                    have d188 : a.tmps.getD 188 undef = undef := hold 188 (by kernel_rfl)
                    have d189 : a.tmps.getD 189 undef = undef := hold 189 (by kernel_rfl)
                    have d190 : a.tmps.getD 190 undef = undef := hold 190 (by kernel_rfl)
                    have d191 : a.tmps.getD 191 undef = undef := hold 191 (by kernel_rfl)
                    have d192 : a.tmps.getD 192 undef = undef := hold 192 (by kernel_rfl)
                    have d158 : a.tmps.getD 158 undef = .bool false := hval 6 _ rfl rfl
                    clear hold
                    obtain ⟨tm, df⟩ := a
                    replace hd : df = [] := hd
                    replace hsz : tm.size = 193 := hsz
                    replace d0 : tm.getD 0 undef = .bool true := d0
                    replace d1 : tm.getD 1 undef = .int .u8 ↑y := d1
                    replace d2 : tm.getD 2 undef = .slice al l.length cl := d2
                    replace d3 : tm.getD 3 undef = .slice am m.length cm := d3
                    replace d4 : tm.getD 4 undef = undef := d4
                    replace d5 : tm.getD 5 undef = undef := d5
                    replace d6 : tm.getD 6 undef = undef := d6
                    replace d7 : tm.getD 7 undef = undef := d7
                    replace d8 : tm.getD 8 undef = u8 := d8
                    replace d9 : tm.getD 9 undef = .int .i64 2 := d9
                    replace d10 : tm.getD 10 undef = .int .i64 ↑n := d10
                    replace d11 : tm.getD 11 undef = .pointer (some ⟨g, 0, none⟩) := d11
                    replace d12 : tm.getD 12 undef = .int .i64 0 := d12
                    replace d13 : tm.getD 13 undef = undef := d13
                    replace d14 : tm.getD 14 undef = u14 := d14
                    replace d15 : tm.getD 15 undef = .pointer (some ⟨h, 0, none⟩) := d15
                    replace d16 : tm.getD 16 undef = .pointer (some ⟨d, 0, none⟩) := d16
                    replace d17 : tm.getD 17 undef = undef := d17
                    replace d18 : tm.getD 18 undef = u18 := d18
                    replace d19 : tm.getD 19 undef = u19 := d19
                    replace d20 : tm.getD 20 undef = u20 := d20
                    replace d21 : tm.getD 21 undef = u21 := d21
                    replace d22 : tm.getD 22 undef = u22 := d22
                    replace d23 : tm.getD 23 undef = u23 := d23
                    replace d24 : tm.getD 24 undef = u24 := d24
                    replace d25 : tm.getD 25 undef = u25 := d25
                    replace d26 : tm.getD 26 undef = u26 := d26
                    replace d27 : tm.getD 27 undef = u27 := d27
                    replace d28 : tm.getD 28 undef = u28 := d28
                    replace d29 : tm.getD 29 undef = u29 := d29
                    replace d30 : tm.getD 30 undef = undef := d30
                    replace d31 : tm.getD 31 undef = .pointer (some ⟨ab, 0, none⟩) := d31
                    replace d32 : tm.getD 32 undef = undef := d32
                    replace d33 : tm.getD 33 undef = undef := d33
                    replace d34 : tm.getD 34 undef = undef := d34
                    replace d35 : tm.getD 35 undef = undef := d35
                    replace d36 : tm.getD 36 undef = undef := d36
                    replace d37 : tm.getD 37 undef = undef := d37
                    replace d38 : tm.getD 38 undef = undef := d38
                    replace d39 : tm.getD 39 undef = .bool true := d39
                    replace d40 : tm.getD 40 undef = .bool false := d40
                    replace d41 : tm.getD 41 undef = .slice al l.length cl := d41
                    replace d42 : tm.getD 42 undef = .bool true := d42
                    replace d43 : tm.getD 43 undef = .bool false := d43
                    replace d44 : tm.getD 44 undef = .bool false := d44
                    replace d45 : tm.getD 45 undef = .slice am m.length cm := d45
                    replace d46 : tm.getD 46 undef = .bool true := d46
                    replace d47 : tm.getD 47 undef = .bool false := d47
                    replace d48 : tm.getD 48 undef = .bool false := d48
                    replace d49 : tm.getD 49 undef = .bool true := d49
                    replace d50 : tm.getD 50 undef = .int .u8 ↑y := d50
                    replace d51 : tm.getD 51 undef = .int .i64 ↑y := d51
                    replace d52 : tm.getD 52 undef = .int .i64 (↑y % 6) := d52
                    replace d53 : tm.getD 53 undef = .int .i64 ↑n := d53
                    replace d54 : tm.getD 54 undef = .tuple #[.pointer (some ⟨g, 0, none⟩), .int .i64 0] := d54
                    replace d55 : tm.getD 55 undef = .int .i64 2 := d55
                    replace d56 : tm.getD 56 undef = .int .i64 ↑n := d56
                    replace d57 : tm.getD 57 undef = .tuple #[.pointer (some ⟨g, 0, none⟩), .int .i64 0] := d57
                    replace d58 : tm.getD 58 undef = .pointer (some ⟨g, 0, none⟩) := d58
                    replace d59 : tm.getD 59 undef = .int .i64 0 := d59
                    replace d60 : tm.getD 60 undef = .int .i64 0 := d60
                    replace d61 : tm.getD 61 undef = .bool false := d61
                    replace d62 : tm.getD 62 undef = .bool false := d62
                    replace d63 : tm.getD 63 undef = .pointer (some ⟨g, 0, none⟩) := d63
                    replace d64 : tm.getD 64 undef = .bool false := d64
                    replace d65 : tm.getD 65 undef = .bool false := d65
                    replace d66 : tm.getD 66 undef = .slice al l.length cl := d66
                    replace d67 : tm.getD 67 undef = .int .i64 ↑l.length := d67
                    replace d68 : tm.getD 68 undef = .int .i64 ↑l.length := d68
                    replace d69 : tm.getD 69 undef = .bool false := d69
                    replace d70 : tm.getD 70 undef = u70 := d70
                    replace d71 : tm.getD 71 undef = u71 := d71
                    replace d72 : tm.getD 72 undef = u72 := d72
                    replace d73 : tm.getD 73 undef = u73 := d73
                    replace d74 : tm.getD 74 undef = u74 := d74
                    replace d75 : tm.getD 75 undef = u75 := d75
                    replace d76 : tm.getD 76 undef = .pointer (some ⟨g, 0, none⟩) := d76
                    replace d77 : tm.getD 77 undef = .pointer (some ⟨h, 0, none⟩) := d77
                    replace d78 : tm.getD 78 undef = .pointer (some ⟨g, 0, none⟩) := d78
                    replace d79 : tm.getD 79 undef = .pointer (some ⟨d, 0, none⟩) := d79
                    replace d80 : tm.getD 80 undef = .pointer (some ⟨h, 0, none⟩) := d80
                    replace d81 : tm.getD 81 undef = .bool false := d81
                    replace d82 : tm.getD 82 undef = .bool false := d82
                    replace d83 : tm.getD 83 undef = .pointer (some ⟨d, 0, none⟩) := d83
                    replace d84 : tm.getD 84 undef = .bool false := d84
                    replace d85 : tm.getD 85 undef = .bool false := d85
                    replace d86 : tm.getD 86 undef = .slice am m.length cm := d86
                    replace d87 : tm.getD 87 undef = .int .i64 ↑m.length := d87
                    replace d88 : tm.getD 88 undef = .int .i64 ↑m.length := d88
                    replace d89 : tm.getD 89 undef = .bool false := d89
                    replace d90 : tm.getD 90 undef = u90 := d90
                    replace d91 : tm.getD 91 undef = u91 := d91
                    replace d92 : tm.getD 92 undef = u92 := d92
                    replace d93 : tm.getD 93 undef = u93 := d93
                    replace d94 : tm.getD 94 undef = u94 := d94
                    replace d95 : tm.getD 95 undef = u95 := d95
                    replace d96 : tm.getD 96 undef = .int .i64 ↑n := d96
                    replace d97 : tm.getD 97 undef = .int .i64 ↑i := d97
                    replace d98 : tm.getD 98 undef = .bool false := d98
                    replace d99 : tm.getD 99 undef = u99 := d99
                    replace d100 : tm.getD 100 undef = u100 := d100
                    replace d101 : tm.getD 101 undef = u101 := d101
                    replace d102 : tm.getD 102 undef = u102 := d102
                    replace d103 : tm.getD 103 undef = u103 := d103
                    replace d104 : tm.getD 104 undef = u104 := d104
                    replace d105 : tm.getD 105 undef = u105 := d105
                    replace d106 : tm.getD 106 undef = u106 := d106
                    replace d107 : tm.getD 107 undef = u107 := d107
                    replace d108 : tm.getD 108 undef = u108 := d108
                    replace d109 : tm.getD 109 undef = u109 := d109
                    replace d110 : tm.getD 110 undef = u110 := d110
                    replace d111 : tm.getD 111 undef = u111 := d111
                    replace d112 : tm.getD 112 undef = u112 := d112
                    replace d113 : tm.getD 113 undef = u113 := d113
                    replace d114 : tm.getD 114 undef = u114 := d114
                    replace d115 : tm.getD 115 undef = u115 := d115
                    replace d116 : tm.getD 116 undef = u116 := d116
                    replace d117 : tm.getD 117 undef = u117 := d117
                    replace d118 : tm.getD 118 undef = u118 := d118
                    replace d119 : tm.getD 119 undef = u119 := d119
                    replace d120 : tm.getD 120 undef = u120 := d120
                    replace d121 : tm.getD 121 undef = u121 := d121
                    replace d122 : tm.getD 122 undef = u122 := d122
                    replace d123 : tm.getD 123 undef = u123 := d123
                    replace d124 : tm.getD 124 undef = u124 := d124
                    replace d125 : tm.getD 125 undef = u125 := d125
                    replace d126 : tm.getD 126 undef = u126 := d126
                    replace d127 : tm.getD 127 undef = u127 := d127
                    replace d128 : tm.getD 128 undef = u128 := d128
                    replace d129 : tm.getD 129 undef = u129 := d129
                    replace d130 : tm.getD 130 undef = u130 := d130
                    replace d131 : tm.getD 131 undef = u131 := d131
                    replace d132 : tm.getD 132 undef = u132 := d132
                    replace d133 : tm.getD 133 undef = u133 := d133
                    replace d134 : tm.getD 134 undef = u134 := d134
                    replace d135 : tm.getD 135 undef = u135 := d135
                    replace d136 : tm.getD 136 undef = u136 := d136
                    replace d137 : tm.getD 137 undef = u137 := d137
                    replace d138 : tm.getD 138 undef = u138 := d138
                    replace d139 : tm.getD 139 undef = u139 := d139
                    replace d140 : tm.getD 140 undef = u140 := d140
                    replace d141 : tm.getD 141 undef = u141 := d141
                    replace d142 : tm.getD 142 undef = u142 := d142
                    replace d143 : tm.getD 143 undef = u143 := d143
                    replace d144 : tm.getD 144 undef = u144 := d144
                    replace d145 : tm.getD 145 undef = u145 := d145
                    replace d146 : tm.getD 146 undef = .slice am m.length cm := d146
                    replace d147 : tm.getD 147 undef = .int .i64 ↑m.length := d147
                    replace d148 : tm.getD 148 undef = .int .i64 ↑k := d148
                    replace d160 : tm.getD 160 undef = undef := d160
                    replace d161 : tm.getD 161 undef = undef := d161
                    replace d162 : tm.getD 162 undef = undef := d162
                    replace d163 : tm.getD 163 undef = undef := d163
                    replace d164 : tm.getD 164 undef = undef := d164
                    replace d165 : tm.getD 165 undef = undef := d165
                    replace d166 : tm.getD 166 undef = undef := d166
                    replace d167 : tm.getD 167 undef = undef := d167
                    replace d168 : tm.getD 168 undef = undef := d168
                    replace d169 : tm.getD 169 undef = undef := d169
                    replace d170 : tm.getD 170 undef = undef := d170
                    replace d171 : tm.getD 171 undef = undef := d171
                    replace d172 : tm.getD 172 undef = undef := d172
                    replace d173 : tm.getD 173 undef = undef := d173
                    replace d174 : tm.getD 174 undef = undef := d174
                    replace d175 : tm.getD 175 undef = undef := d175
                    replace d176 : tm.getD 176 undef = undef := d176
                    replace d177 : tm.getD 177 undef = undef := d177
                    replace d178 : tm.getD 178 undef = undef := d178
                    replace d179 : tm.getD 179 undef = undef := d179
                    replace d180 : tm.getD 180 undef = undef := d180
                    replace d181 : tm.getD 181 undef = undef := d181
                    replace d182 : tm.getD 182 undef = undef := d182
                    replace d183 : tm.getD 183 undef = undef := d183
                    replace d184 : tm.getD 184 undef = undef := d184
                    replace d185 : tm.getD 185 undef = undef := d185
                    replace d186 : tm.getD 186 undef = undef := d186
                    replace d187 : tm.getD 187 undef = undef := d187
                    replace d188 : tm.getD 188 undef = undef := d188
                    replace d189 : tm.getD 189 undef = undef := d189
                    replace d190 : tm.getD 190 undef = undef := d190
                    replace d191 : tm.getD 191 undef = undef := d191
                    replace d192 : tm.getD 192 undef = undef := d192
                    replace d158 : tm.getD 158 undef = .bool false := d158
                    subst hd
                    have e : tm = List.toArray (tm.getD 0 undef :: tm.getD 1 undef :: tm.getD 2 undef :: tm.getD 3 undef :: tm.getD 4 undef :: tm.getD 5 undef :: tm.getD 6 undef :: tm.getD 7 undef :: tm.getD 8 undef :: tm.getD 9 undef :: tm.getD 10 undef :: tm.getD 11 undef :: tm.getD 12 undef :: tm.getD 13 undef :: tm.getD 14 undef :: tm.getD 15 undef :: tm.getD 16 undef :: tm.getD 17 undef :: tm.getD 18 undef :: tm.getD 19 undef :: tm.getD 20 undef :: tm.getD 21 undef :: tm.getD 22 undef :: tm.getD 23 undef :: tm.getD 24 undef :: tm.getD 25 undef :: tm.getD 26 undef :: tm.getD 27 undef :: tm.getD 28 undef :: tm.getD 29 undef :: tm.getD 30 undef :: tm.getD 31 undef :: tm.getD 32 undef :: tm.getD 33 undef :: tm.getD 34 undef :: tm.getD 35 undef :: tm.getD 36 undef :: tm.getD 37 undef :: tm.getD 38 undef :: tm.getD 39 undef :: tm.getD 40 undef :: tm.getD 41 undef :: tm.getD 42 undef :: tm.getD 43 undef :: tm.getD 44 undef :: tm.getD 45 undef :: tm.getD 46 undef :: tm.getD 47 undef :: tm.getD 48 undef :: tm.getD 49 undef :: tm.getD 50 undef :: tm.getD 51 undef :: tm.getD 52 undef :: tm.getD 53 undef :: tm.getD 54 undef :: tm.getD 55 undef :: tm.getD 56 undef :: tm.getD 57 undef :: tm.getD 58 undef :: tm.getD 59 undef :: tm.getD 60 undef :: tm.getD 61 undef :: tm.getD 62 undef :: tm.getD 63 undef :: tm.getD 64 undef :: tm.getD 65 undef :: tm.getD 66 undef :: tm.getD 67 undef :: tm.getD 68 undef :: tm.getD 69 undef :: tm.getD 70 undef :: tm.getD 71 undef :: tm.getD 72 undef :: tm.getD 73 undef :: tm.getD 74 undef :: tm.getD 75 undef :: tm.getD 76 undef :: tm.getD 77 undef :: tm.getD 78 undef :: tm.getD 79 undef :: tm.getD 80 undef :: tm.getD 81 undef :: tm.getD 82 undef :: tm.getD 83 undef :: tm.getD 84 undef :: tm.getD 85 undef :: tm.getD 86 undef :: tm.getD 87 undef :: tm.getD 88 undef :: tm.getD 89 undef :: tm.getD 90 undef :: tm.getD 91 undef :: tm.getD 92 undef :: tm.getD 93 undef :: tm.getD 94 undef :: tm.getD 95 undef :: tm.getD 96 undef :: tm.getD 97 undef :: tm.getD 98 undef :: tm.getD 99 undef :: tm.getD 100 undef :: tm.getD 101 undef :: tm.getD 102 undef :: tm.getD 103 undef :: tm.getD 104 undef :: tm.getD 105 undef :: tm.getD 106 undef :: tm.getD 107 undef :: tm.getD 108 undef :: tm.getD 109 undef :: tm.getD 110 undef :: tm.getD 111 undef :: tm.getD 112 undef :: tm.getD 113 undef :: tm.getD 114 undef :: tm.getD 115 undef :: tm.getD 116 undef :: tm.getD 117 undef :: tm.getD 118 undef :: tm.getD 119 undef :: tm.getD 120 undef :: tm.getD 121 undef :: tm.getD 122 undef :: tm.getD 123 undef :: tm.getD 124 undef :: tm.getD 125 undef :: tm.getD 126 undef :: tm.getD 127 undef :: tm.getD 128 undef :: tm.getD 129 undef :: tm.getD 130 undef :: tm.getD 131 undef :: tm.getD 132 undef :: tm.getD 133 undef :: tm.getD 134 undef :: tm.getD 135 undef :: tm.getD 136 undef :: tm.getD 137 undef :: tm.getD 138 undef :: tm.getD 139 undef :: tm.getD 140 undef :: tm.getD 141 undef :: tm.getD 142 undef :: tm.getD 143 undef :: tm.getD 144 undef :: tm.getD 145 undef :: tm.getD 146 undef :: tm.getD 147 undef :: tm.getD 148 undef :: tm.getD 149 undef :: tm.getD 150 undef :: tm.getD 151 undef :: tm.getD 152 undef :: tm.getD 153 undef :: tm.getD 154 undef :: tm.getD 155 undef :: tm.getD 156 undef :: tm.getD 157 undef :: tm.getD 158 undef :: tm.getD 159 undef :: tm.getD 160 undef :: tm.getD 161 undef :: tm.getD 162 undef :: tm.getD 163 undef :: tm.getD 164 undef :: tm.getD 165 undef :: tm.getD 166 undef :: tm.getD 167 undef :: tm.getD 168 undef :: tm.getD 169 undef :: tm.getD 170 undef :: tm.getD 171 undef :: tm.getD 172 undef :: tm.getD 173 undef :: tm.getD 174 undef :: tm.getD 175 undef :: tm.getD 176 undef :: tm.getD 177 undef :: tm.getD 178 undef :: tm.getD 179 undef :: tm.getD 180 undef :: tm.getD 181 undef :: tm.getD 182 undef :: tm.getD 183 undef :: tm.getD 184 undef :: tm.getD 185 undef :: tm.getD 186 undef :: tm.getD 187 undef :: tm.getD 188 undef :: tm.getD 189 undef :: tm.getD 190 undef :: tm.getD 191 undef :: tm.getD 192 undef :: []) := arr_eq tm 193 hsz
                    rw [d0, d1, d2, d3, d4, d5, d6, d7, d8, d9, d10, d11, d12, d13, d14, d15, d16, d17, d18, d19, d20, d21, d22, d23, d24, d25, d26, d27, d28, d29, d30, d31, d32, d33, d34, d35, d36, d37, d38, d39, d40, d41, d42, d43, d44, d45, d46, d47, d48, d49, d50, d51, d52, d53, d54, d55, d56, d57, d58, d59, d60, d61, d62, d63, d64, d65, d66, d67, d68, d69, d70, d71, d72, d73, d74, d75, d76, d77, d78, d79, d80, d81, d82, d83, d84, d85, d86, d87, d88, d89, d90, d91, d92, d93, d94, d95, d96, d97, d98, d99, d100, d101, d102, d103, d104, d105, d106, d107, d108, d109, d110, d111, d112, d113, d114, d115, d116, d117, d118, d119, d120, d121, d122, d123, d124, d125, d126, d127, d128, d129, d130, d131, d132, d133, d134, d135, d136, d137, d138, d139, d140, d141, d142, d143, d144, d145, d146, d147, d148, d160, d161, d162, d163, d164, d165, d166, d167, d168, d169, d170, d171, d172, d173, d174, d175, d176, d177, d178, d179, d180, d181, d182, d183, d184, d185, d186, d187, d188, d189, d190, d191, d192, d158] at e
                    clear d0 d1 d2 d3 d4 d5 d6 d7 d8 d9 d10 d11 d12 d13 d14 d15 d16 d17 d18 d19 d20 d21 d22 d23 d24 d25 d26 d27 d28 d29 d30 d31 d32 d33 d34 d35 d36 d37 d38 d39 d40 d41 d42 d43 d44 d45 d46 d47 d48 d49 d50 d51 d52 d53 d54 d55 d56 d57 d58 d59 d60 d61 d62 d63 d64 d65 d66 d67 d68 d69 d70 d71 d72 d73 d74 d75 d76 d77 d78 d79 d80 d81 d82 d83 d84 d85 d86 d87 d88 d89 d90 d91 d92 d93 d94 d95 d96 d97 d98 d99 d100 d101 d102 d103 d104 d105 d106 d107 d108 d109 d110 d111 d112 d113 d114 d115 d116 d117 d118 d119 d120 d121 d122 d123 d124 d125 d126 d127 d128 d129 d130 d131 d132 d133 d134 d135 d136 d137 d138 d139 d140 d141 d142 d143 d144 d145 d146 d147 d148 d160 d161 d162 d163 d164 d165 d166 d167 d168 d169 d170 d171 d172 d173 d174 d175 d176 d177 d178 d179 d180 d181 d182 d183 d184 d185 d186 d187 d188 d189 d190 d191 d192 d158 hsz
                    generalize tm.getD 149 undef = v149 at e
                    generalize tm.getD 150 undef = v150 at e
                    generalize tm.getD 151 undef = v151 at e
                    generalize tm.getD 152 undef = v152 at e
                    generalize tm.getD 153 undef = v153 at e
                    generalize tm.getD 154 undef = v154 at e
                    generalize tm.getD 155 undef = v155 at e
                    generalize tm.getD 156 undef = v156 at e
                    generalize tm.getD 157 undef = v157 at e
                    generalize tm.getD 159 undef = v159 at e
                    subst e
                    obtain ⟨Y0, Q0, Y1, Q1, Y2, Q2, hn⟩ := hC
                    have HN := Lib.hid hn
                    clear hn hval
                    go_wp2_with fail
                    refine ⟨⟨k + 1, Y0, Q0, Y1, Q1, Y2, Q2, by omega, by go_num, ?_⟩, ?_⟩
                    · rw [HTS.out]
                      have h9 := HN.out
                      exact ⟨h9.m, h9.b, h9.x, h9.ap, fun _ _ _ _ h => h, fun _ h => h.elim⟩
                    · simp [RowKit.intOf]; omega
                · have hkm : k = m.length := by omega
                  have HS5 : Hid (HaveN w wr 3 (fam3 ⟨g, M2, X0, R0⟩ ⟨h, M2, X1, R1⟩ ⟨d, M2, X2, R2⟩) w2 (fun _ => False)) := Lib.hid (by
                    have := HH.out
                    rw [hkm, ← HM2.out] at this
                    exact this)
                  have HOK2 : Hid (M2.Ok 100) := Lib.hid (by
                    have := HOKK.out
                    rwa [hkm, ← HM2.out] at this)
                  clear HH HOKK hkm
                  go_wp2_with fail
                  obtain ⟨wT, rfl⟩ : ∃ wT : World, wT = wr := ⟨_, rfl⟩
                  go_loopw [161] (fun vk wr => ∃ i : Nat, i ≤ n ∧ vk = .int .i64 i ∧ Below wT.heap.size wT wr) (fun vk _ => n - (RowKit.intOf vk).toNat)
                  case atStart => exact ⟨0, by omega, rfl, Below.refl _ _⟩
                  case round =>
                    obtain ⟨t, ht, rfl, hb⟩ := hrel
                    have HB := Lib.hid hb
                    obtain ⟨wi, rfl⟩ : ∃ wi : World, wi = wr := ⟨_, rfl⟩
                    clear hb
                    by_cases hlt : t < n
                    · go_wp2_with fail
                      refine (read12 (HS5.out.below HB.out).m0.1 HOK2.out t).mono ?_
                      rintro e w8 ⟨v8, rfl, ho8, hb8⟩
                      obtain ⟨a8, c8, rfl⟩ := ownD_form ho8
                      have HB8 := Lib.hid (HB.out.trans (hb8.mono HB.out.size))
                      have HO8 := Lib.hid ho8
                      clear ho8 hb8
                      go_wp2_with fail
                      refine (read12 (HS5.out.below HB8.out).m1.1 HOK2.out t).mono ?_
                      rintro e w9 ⟨v9, rfl, ho9, hb9⟩
                      obtain ⟨a9, c9, rfl⟩ := ownD_form ho9
                      have HB9 := Lib.hid (HB8.out.trans (hb9.mono HB8.out.size))
                      have hbd := readR_bd M2 (t : Int)
                      have HEQ := Lib.hid (equal12 (D13.rdI_own (ownD_keep HO8.out hb9) rfl (by omega) hbd.2) (D13.rdI_own ho9 rfl (by omega) hbd.2))
                      rw [decide_eq_true rfl] at HEQ
                      clear ho9 hb9 hbd
                      go_wp2_with fail
                      refine HEQ.out.mono ?_
                      rintro e w12 ⟨rfl, hb12⟩
                      have HB12 := Lib.hid (HB9.out.trans (hb12.mono HB9.out.size))
                      clear hb12
                      go_wp2_with fail
                      go_roundw
                      case rel => exact ⟨t + 1, by omega, by go_num, HB12.out⟩
                      case measure => simp [RowKit.intOf]; omega
                    · have HF := Lib.hid (HS5.out.below HB.out).b
                      go_wp2_with fail
                      go_ret
                      exact ⟨rfl, HF.out⟩
theorem clones_law (w : World) (re : Bool) (a : Int) (ha : (Lit.int .u8 a).wf = true) (v1 : Value) (l : List AV) (h1 : CameActs w v1 l) (v2 : Value) (m : List AV) (h2 : CameActs w v2 m) :
    Calls Try.prog 7 #[.bool re, .int .u8 a, v1, v2] w fun e w' => e = .returned (.bool true) ∧ Below w.heap.size w w' := by
  cases re with
  | false => exact clones_law1 w a ha v1 l h1 v2 m h2
  | true => exact clones_law2 w a ha v1 l h1 v2 m h2
end Go.Proofs.Ytpncjadhpnapnaa.D12
/- Arguments as they come in: opened. -/
namespace Go.Proofs.Ytpncjadhpnapnaa
open Go.ChangeShapes Go.WideShapes Go.ChangeAt Go.RowKit
set_option linter.unusedVariables false

/-- a slice of bytes that came in -/
def Came (w : World) (v : Value) (l : List UInt8) : Prop :=
  (l.length ≤ 140737488351232 → Rd w v l) ∧ l.length ≤ 9223372036854775807 ∧ ∃ a c, v = .slice a l.length c

section
variable {H : Type} {enc : TypeId × Value → H} {P : Program} {w : World} {base b0 : Nat} {held : Bool}
theorem open_bytes {t e : TypeId} {v : Value} {d : DataW H} {ps : List MemPlace} {r : Reach} (ht : P.underlying t = some (.slice e)) (he : P.underlying e = some (.int .u8)) (hc : P.cellsOf e = 1)
    (hval : Value.okWide P w r b0 t v) (hd : DataW.Trod enc P w base (fun _ => true) held t v d ps) : ∃ l : List UInt8, Came w v l := by
  obtain ⟨a, len, cap, rfl⟩ := okWide_slice ht hval
  obtain ⟨fuel, hf⟩ := hd
  rcases open_ints ht he hc hf with ⟨hcs, _⟩ | ⟨x, l, c, zs, hcs, _, hl, hm, hz, _, hcell, hwz⟩
  · simp [Value.cells] at hcs
    obtain ⟨rfl, rfl, rfl⟩ := hcs
    exact ⟨[], fun _ => Rd.nil w, by simp, none, 0, rfl⟩
  · simp [Value.cells] at hcs
    obtain ⟨rfl, rfl, rfl⟩ := hcs
    have hz' : zs.length = cap := by simpa using hz
    have hL : ((zs.take len).map fun n => UInt8.ofNat n.toNat).length = len := by simp; omega
    unfold maxLen at hm
    refine ⟨(zs.take len).map fun n => UInt8.ofNat n.toNat, fun hb => ?_, by rw [hL]; omega, some x, cap, by rw [hL]⟩
    refine ⟨hb, ?_⟩
    rw [hL]
    by_cases h0 : len = 0
    · subst h0
      exact ⟨_, cap, 0, 0, rfl, hl, fun i hi => by omega⟩
    · obtain ⟨b, off, rfl, hcc⟩ := ints_at hcell (by omega)
      refine ⟨_, cap, b, off, rfl, hl, fun i hi => ⟨rfl, ?_⟩⟩
      rw [hcc i (by omega)]
      have hi' : i < zs.length := by omega
      have hw := hwz (zs[i]) (List.getElem_mem hi')
      have hbd : 0 ≤ zs[i] ∧ zs[i] ≤ 255 := by simpa [Lit.wf, IntKind.min, IntKind.max, IntKind.signed, IntKind.bits] using hw
      have e1 : zs.getD i 0 = zs[i] := by simp [hi']
      have e2 : G.ix ((zs.take len).map fun n => UInt8.ofNat n.toNat) i = UInt8.ofNat zs[i].toNat := by
        simp [G.ix, hi, hi']
      rw [e1, e2, B, G.toNat_of (by omega)]
      congr 2
      omega
end
theorem bd_u8 {a : Int} (h : (Lit.int .u8 a).wf = true) : 0 ≤ a ∧ a ≤ 255 := by simpa [Lit.wf, IntKind.min, IntKind.max, IntKind.signed, IntKind.bits] using h
theorem bd_i64 {a : Int} (h : (Lit.int .i64 a).wf = true) : -9223372036854775808 ≤ a ∧ a ≤ 9223372036854775807 := by simpa [Lit.wf, IntKind.min, IntKind.max, IntKind.signed, IntKind.bits] using h
theorem nat_u8 {a : Int} (h : (Lit.int .u8 a).wf = true) : ∃ n : Nat, a = n ∧ n < 256 := by
  have := bd_u8 h
  exact ⟨a.toNat, by omega, by omega⟩
theorem byte_u8 {a : Int} (h : (Lit.int .u8 a).wf = true) : ∃ c : UInt8, a = c.toNat := by
  obtain ⟨n, rfl, hn⟩ := nat_u8 h
  exact ⟨UInt8.ofNat n, by rw [G.toNat_of hn]⟩
end Go.Proofs.Ytpncjadhpnapnaa
namespace Go.Proofs.Ytpncjadhpnapnaa.mediumClones
open Go.ChangeShapes Go.WideShapes Go.ChangeAt Go.RowKit
open Go.ChangeMaps (open_string shut_string)
open C9 D12
set_option linter.unusedVariables false
theorem own : ownKnob Try.prog.godebug = none := by kernel_rfl
theorem laidOut : laidOutB Try.prog = true := by kernel_rfl

set_option maxRecDepth 100000 in
set_option maxHeartbeats 1000000 in
theorem lifted (os : Os) (started : os.Started) (H : Type) (enc : TypeId × Value → H) :
    ReturnsInHanded {} Try.checked os 7 .any (Rows.mediumClonesSpec.pre6 enc Try.prog Try.f7 Rows.mediumClonesRow.domain false) (Rows.mediumClonesSpec.post enc Try.prog Try.f7 false true false false) := by
  refine returnsInHanded_of_change (C := Try.checked) own started (by kernel_rfl) Try.func7
    (ChangeSpec.witness6 (enc := enc) (C := Try.checked) false ⟨#[], #[.bool false, .int .u8 0, .slice none 0 0, .slice none 0 0], []⟩ 8 (by kernel_rfl) (by kernel_rfl) (by kernel_rfl) (by kernel_rfl)) ?_
  intro W base args ds gs before hval0 hW hcnd _
  have hval : ∀ (j : Nat) t v, Try.f7.params[j]? = some t → args[j]? = some v → Value.okWide Try.prog W .any base t v := hval0
  have hW' := hW
  obtain ⟨p, q, hA0, hV, rfl, hfz, hnd⟩ := hW
  have hA : DataW.TrodAll enc Try.prog W 0 (fun _ => true) true Try.f7.params.toList args.toList ds p := hA0
  rw [Try.params7] at hA hval
  obtain ⟨v0, vs0, d0, ds0, p0, q0, hargs, rfl, rfl, h0, r0⟩ := trodAll_cons hA
  obtain ⟨v1, vs1, d1, ds1, p1, q1, rfl, rfl, rfl, h1, r1⟩ := trodAll_cons r0
  obtain ⟨v2, vs2, d2, ds2, p2, q2, rfl, rfl, rfl, h2, r2⟩ := trodAll_cons r1
  obtain ⟨v3, vs3, d3, ds3, p3, q3, rfl, rfl, rfl, h3, r3⟩ := trodAll_cons r2
  obtain ⟨rfl, rfl, rfl⟩ := trodAll_nil r3
  obtain rfl : args = #[v0, v1, v2, v3] := by cases args; simp_all
  obtain ⟨rfl, rfl⟩ := trodVars_none hV
  have k0 := h0
  have lt0 : ∀ x ∈ p0, x.block < W.heap.size := by obtain ⟨m, hm⟩ := k0; exact DataW.trod_lt m _ _ _ hm
  obtain ⟨a0, rfl, _, _⟩ := open_bool Try.underlying4 (hval 0 4 v0 rfl rfl) h0
  have k1 := h1
  have lt1 : ∀ x ∈ p1, x.block < W.heap.size := by obtain ⟨m, hm⟩ := k1; exact DataW.trod_lt m _ _ _ hm
  obtain ⟨a1, rfl, _, _, w1⟩ := open_int Try.underlying5 (hval 1 5 v1 rfl rfl) h1
  have k2 := h2
  have lt2 : ∀ x ∈ p2, x.block < W.heap.size := by obtain ⟨m, hm⟩ := k2; exact DataW.trod_lt m _ _ _ hm
  obtain ⟨a2, w2⟩ := open_cacts (hval 2 54 v2 rfl rfl) h2
  have k3 := h3
  have lt3 : ∀ x ∈ p3, x.block < W.heap.size := by obtain ⟨m, hm⟩ := k3; exact DataW.trod_lt m _ _ _ hm
  obtain ⟨a3, w3⟩ := open_cacts (hval 3 54 v3 rfl rfl) h3
  refine (clones_law W a0 a1 w1 v2 a2 w2 v3 a3 w3).mono fun e W' ⟨he, bel⟩ => ?_
  subst he
  exact ⟨_, rfl, _, _, _, [], _, [], hW', trodAll_mk1 (shut_bool Try.underlying4 _), (trodAll_cons_mk (Below.trod laidOut (by kernel_rfl) (of_decide_eq_true (by kernel_rfl)) k0 bel lt0) (trodAll_cons_mk (Below.trod laidOut (by kernel_rfl) (of_decide_eq_true (by kernel_rfl)) k1 bel lt1) (trodAll_cons_mk (Below.trod laidOut (by kernel_rfl) (of_decide_eq_true (by kernel_rfl)) k2 bel lt2) (trodAll_cons_mk (Below.trod laidOut (by kernel_rfl) (of_decide_eq_true (by kernel_rfl)) k3 bel lt3) trodAll_mk0)))), rfl, bel.frame _, fun h => by cases h⟩

theorem over : Rows.mediumClonesRow.holds Try.pinned (OpenSpec.ofChange Rows.mediumClonesSpec) :=
  OpenClaim.holds_of_wide 7 Try.f7 rfl rfl rfl rfl rfl rfl rfl ⟨rfl, rfl, rfl, rfl, rfl⟩ rfl rfl rfl rfl rfl (by kernel_rfl) Try.func7 (by kernel_rfl)
    (of_decide_eq_true (by kernel_rfl)) (by unfold Func.isWrapper; first | (rw [if_pos (by decide +kernel)]; kernel_rfl) | (rw [if_neg (by decide +kernel)]; exact ⟨rfl, rfl⟩))
    (fun os started H enc _ => lifted os started H enc)

/-- The statement. -/
theorem proved : Rows.MediumClonesSaid := over
end Go.Proofs.Ytpncjadhpnapnaa.mediumClones
