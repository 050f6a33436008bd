/- Chapter 12: Clone of a medium walked. -/
import Derived.Test.YtpncjadhpnapnaaMq26
import Derived.Test.YtpncjadhpnapnaaSeqA
namespace Go.Proofs.Ytpncjadhpnapnaa.D12
open Go.RowKit Go.Maps C9
open D13 (RdI ixI is)
set_option linter.unusedVariables false

/-- while the sectors' maps are cloned: 'S2' the sectors of the clone, those below 'j' done -/
structure ClW (w3 wr : World) (g2 : Nat) (S S2 : List SM) (M : Med) (sp : List Value) (j : Nat) : Prop where
  len : S2.length = S.length
  box : Bx wr g2 101 (flD smD S2 ++ sp)
  sec : ∀ i, i < S.length → (atD sm0 S2 i).s = M.sec i
  rest : ∀ i, j ≤ i → i < S.length → atD sm0 S2 i = atD sm0 S i
  maps : ∀ i p, i < j → i < S.length → (atD sm0 S2 i).W wr p ∧ ∀ b, (atD sm0 S2 i).bk p = some b → w3.heap.size ≤ b ∧ b < wr.heap.size
  inj : ∀ i k p q b, i < j → k < j → i < S.length → k < S.length → (atD sm0 S2 i).bk p = some b → (atD sm0 S2 k).bk q = some b → i = k ∧ p = q
  le : w3.grownBy wr (some g2)
  lt : g2 < w3.heap.size
theorem ErM.far {w w' : World} {e : Option Nat} {f : Nat → Bool} {g2 : Nat} {cs : List Value} {t : TypeId} (h : ErM w e f) (hb : Bx w g2 t cs) (hg : w.grownBy w' (some g2)) : ErM w' e f := h.kept fun c hc => by
  subst hc
  obtain ⟨es, clock, hm⟩ := h.map
  exact hg.block c (Array.getElem?_eq_some_iff.1 hm).1 fun e => by
    obtain rfl := Option.some.inj e
    unfold Bx at hb
    rw [hb] at hm; cases hm
theorem ChM.far {w w' : World} {e : Option Nat} {f : Nat → UInt8} {g2 : Nat} {cs : List Value} {t : TypeId} (h : ChM w e f) (hb : Bx w g2 t cs) (hg : w.grownBy w' (some g2)) : ChM w' e f := h.kept fun c hc => by
  subst hc
  obtain ⟨es, clock, hm⟩ := h.map
  exact hg.block c (Array.getElem?_eq_some_iff.1 hm).1 fun e => by
    obtain rfl := Option.some.inj e
    unfold Bx at hb
    rw [hb] at hm; cases hm
theorem ErM.lt {w : World} {e : Option Nat} {f : Nat → Bool} (h : ErM w e f) {b : Nat} (he : e = some b) : b < w.heap.size := by
  subst he
  obtain ⟨es, clock, hm⟩ := h.map
  exact (Array.getElem?_eq_some_iff.1 hm).1
theorem ChM.lt {w : World} {e : Option Nat} {f : Nat → UInt8} (h : ChM w e f) {b : Nat} (he : e = some b) : b < w.heap.size := by
  subst he
  obtain ⟨es, clock, hm⟩ := h.map
  exact (Array.getElem?_eq_some_iff.1 hm).1
theorem ClW.step {w3 wr wn : World} {g2 : Nat} {S S2 : List SM} {M : Med} {sp : List Value} {j : Nat} (h : ClW w3 wr g2 S S2 M sp j) (hj : j < S.length) {e' c' : Option Nat} (hg : wr.grownBy wn (some g2))
    (hb : Bx wn g2 101 (((flD smD S2 ++ sp).set (j * 5 + 3) (.map e')).set (j * 5 + 4) (.map c'))) (he : ErM wn e' (M.sec j).er) (hc : ChM wn c' (M.sec j).ch)
    (he2 : ∀ b, e' = some b → wr.heap.size ≤ b) (hc2 : ∀ b, c' = some b → wr.heap.size ≤ b ∧ e' ≠ some b) : ClW w3 wn g2 S (S2.set j ⟨M.sec j, e', c'⟩) M sp (j + 1) := by
  have hjl : j < S2.length := by rw [h.len]; exact hj
  have hs := h.sec j hj
  have h3s := h.le.size
  have hat : ∀ i, i ≠ j → atD sm0 (S2.set j ⟨M.sec j, e', c'⟩) i = atD sm0 S2 i := fun i hi => atD_set_ne _ _ _ _ hi
  have hatj : atD sm0 (S2.set j ⟨M.sec j, e', c'⟩) j = ⟨M.sec j, e', c'⟩ := atD_set_eq _ _ _ hjl
  have hl5 : (flD smD S2).length = S2.length * 5 := flD_length smD_len S2
  refine ⟨by simpa using h.len, ?_, fun i hi => ?_, fun i hi hl => ?_, fun i p hi hl => ?_, fun i k p q b hi hk hil hkl h1 h2 => ?_, h.le.trans hg, h.lt⟩
  · have e1 := flD_set (d := sm0) smD_len S2 j 3 hjl (by decide) (.map e') ⟨M.sec j, e', (atD sm0 S2 j).c⟩ (by rw [← hs]; rfl)
    have e2 := flD_set (d := sm0) smD_len (S2.set j ⟨M.sec j, e', (atD sm0 S2 j).c⟩) j 4 (by simpa using hjl) (by decide) (.map c') ⟨M.sec j, e', c'⟩ (by rw [atD_set_eq _ _ _ hjl]; rfl)
    rw [List.set_set] at e2
    rw [List.set_append_left _ _ (by omega), e1, List.set_append_left _ _ (by rw [flD_length smD_len, List.length_set]; omega), e2] at hb
    exact hb
  · by_cases e : i = j
    · subst e; rw [hatj]
    · rw [hat i e]; exact h.sec i hi
  · rw [hat i (by omega)]
    exact h.rest i (by omega) hl
  · by_cases e : i = j
    · subst e
      rw [hatj]
      cases p with
      | true => exact ⟨he, fun b hb => ⟨Nat.le_trans h3s (he2 b hb), he.lt hb⟩⟩
      | false => exact ⟨hc, fun b hb => ⟨Nat.le_trans h3s (hc2 b hb).1, hc.lt hb⟩⟩
    · rw [hat i e]
      obtain ⟨h1, h2⟩ := h.maps i p (by omega) hl
      refine ⟨h1.kept fun c hc => hg.block c (h2 c hc).2 fun e => ?_, fun b hb => ⟨(h2 b hb).1, Nat.lt_of_lt_of_le (h2 b hb).2 hg.size⟩⟩
      obtain rfl := Option.some.inj e
      have := (h2 c hc).1
      have := h.lt
      omega
  · have hnew : ∀ p b, (⟨M.sec j, e', c'⟩ : SM).bk p = some b → wr.heap.size ≤ b := fun p b hb => by
      cases p with
      | true => exact he2 b hb
      | false => exact (hc2 b hb).1
    by_cases ei : i = j
    · by_cases ek : k = j
      · subst ei ek
        rw [hatj] at h1 h2
        refine ⟨rfl, ?_⟩
        cases p <;> cases q
        · rfl
        · exact absurd h2 (hc2 b h1).2
        · exact absurd h1 (hc2 b h2).2
        · rfl
      · subst ei
        rw [hatj] at h1
        rw [hat k ek] at h2
        have := hnew p b h1
        have := ((h.maps k q (by omega) hkl).2 b h2).2
        omega
    · by_cases ek : k = j
      · subst ek
        rw [hatj] at h2
        rw [hat i ei] at h1
        have := hnew q b h2
        have := ((h.maps i p (by omega) hil).2 b h1).2
        omega
      · rw [hat i ei] at h1
        rw [hat k ek] at h2
        exact h.inj i k p q b (by omega) (by omega) hil hkl h1 h2
/-- the two maps of a sector cloned: the chain of the region -/
def ClP (wr : World) (fE : Nat → Bool) (fC : Nat → UInt8) (v31 v36 : Value) (W : World) : Prop :=
  ∃ e' c', v31 = .map e' ∧ v36 = .map c' ∧ ErM W e' fE ∧ ChM W c' fC ∧ (∀ b, e' = some b → wr.heap.size ≤ b) ∧ ∀ b, c' = some b → wr.heap.size ≤ b ∧ e' ≠ some b
def ClC (wr : World) (g2 : Nat) (cs : List Value) (k3 : Nat) (fE : Nat → Bool) (fC : Nat → UInt8) (r : Nat) (v31 v36 : Value) (W : World) : Prop :=
  wr.grownBy W (some g2) ∧ match r with
    | 0 => Bx W g2 101 cs
    | 1 => Bx W g2 101 cs ∧ ∃ e', v31 = .map e' ∧ ErM W e' fE ∧ ∀ b, e' = some b → wr.heap.size ≤ b
    | 2 => Bx W g2 101 cs ∧ ClP wr fE fC v31 v36 W
    | 3 => Bx W g2 101 (cs.set k3 v31) ∧ ClP wr fE fC v31 v36 W
    | _ => Bx W g2 101 ((cs.set k3 v31).set (k3 + 1) v36) ∧ ClP wr fE fC v31 v36 W
theorem ClC.bx {wr : World} {g2 : Nat} {cs : List Value} {k3 : Nat} {fE : Nat → Bool} {fC : Nat → UInt8} {r : Nat} {v31 v36 : Value} {W : World} (h : ClC wr g2 cs k3 fE fC r v31 v36 W) (hr : r ≤ 2) : Bx W g2 101 cs := by
  match r, hr with
  | 0, _ => exact h.2
  | 1, _ => exact h.2.1
  | 2, _ => exact h.2.1
theorem grown_set (w : World) (g2 i : Nat) (u : Value) : w.grownBy (w.setCell ⟨g2, i, none⟩ u) (some g2) := ⟨rfl, rfl, rfl, by simp, fun k h1 h2 => Below.heap_setCell _ _ _ k (fun e => h2 (by rw [e]))⟩
theorem ClP.store {wr : World} {g2 : Nat} {fE : Nat → Bool} {fC : Nat → UInt8} {v31 v36 : Value} {W : World} {cs : List Value} {t : TypeId} (h : ClP wr fE fC v31 v36 W) (hb : Bx W g2 t cs) (i : Nat) (u : Value) : ClP wr fE fC v31 v36 (W.setCell ⟨g2, i, none⟩ u) := by
  obtain ⟨e', c', h1, h2, h3, h4, h5, h6⟩ := h
  exact ⟨e', c', h1, h2, h3.far hb (grown_set W g2 i u), h4.far hb (grown_set W g2 i u), h5, h6⟩
def clnV (g2 k5 : Nat) (eo co : Option Nat) (i : Nat) (v : Value) (W : World) : Prop := match i with
  | 0 => v = .pointer (some ⟨g2, k5, none⟩)
  | 1 => v = .pointer (some ⟨g2, k5, none⟩)
  | 2 => v = .pointer (some ⟨g2, k5, none⟩)
  | 3 => v = .pointer (some ⟨g2, k5, none⟩)
  | 4 => v = .pointer (some ⟨g2, k5 + 3, none⟩)
  | 5 => v = .map eo
  | 6 => True
  | 7 => v = .pointer (some ⟨g2, k5, none⟩)
  | 8 => v = .pointer (some ⟨g2, k5, none⟩)
  | 9 => v = .pointer (some ⟨g2, k5 + 4, none⟩)
  | 10 => v = .map co
  | 11 => True
  | 12 => v = .pointer (some ⟨g2, k5, none⟩)
  | 13 => v = .pointer (some ⟨g2, k5 + 3, none⟩)
  | 15 => v = .pointer (some ⟨g2, k5, none⟩)
  | 16 => v = .pointer (some ⟨g2, k5 + 4, none⟩)
  | _ => True
def clnVE : Nat → Option Nat
  | 6 => some 0
  | 11 => some 1
  | 14 => some 2
  | 17 => some 3
  | _ => none
theorem clnV_keep (g2 k5 : Nat) (eo co : Option Nat) (i r : Nat) (v : Value) (W W' : World) (hk : ∀ k, clnVE i = some k → k < r) (hR : (anyR) r W W') (h : clnV g2 k5 eo co i v W) : clnV g2 k5 eo co i v W' := by
  unfold clnV at h ⊢
  split at h <;> first | exact h
theorem put_none (a : Act) (v : Value) : a.put none v = a := rfl
/-- what Clone ends with -/
def CloP (g : Nat) (M : Med) (R : Nat → Prop) (w : World) (e : Ending) (w' : World) : Prop :=
  ∃ g2 X2 R2, e = .returned (.pointer (some ⟨g2, 0, none⟩)) ∧ MedW w' g2 M X2 R2 ∧ Below w.heap.size w w' ∧ (∀ b, X2 b → w.heap.size ≤ b) ∧ ∀ b, R2 b → R b ∨ w.heap.size ≤ b
theorem RdSc.moved {w w' : World} {base n : Nat} {v : Value} {l : List Sc} (h : w.ownsRow base 36 2 v n (flD scc l)) (hn : n = l.length) (hk : ∀ k, base ≤ k → k < w.heap.size → w'.heap[k]? = w.heap[k]?) : RdSc w' v l := by
  subst hn
  exact RdD.ofOwn scc_len (own_moved h hk)
theorem MedC.cloned {w wl w3 wf : World} {g ob g2 : Nat} {L : Lay} {M : Med} {X R : Nat → Prop} {N : Nat} (h : MedC w g L M X R) (ho : M.Ok N) {S2 : List SM} {sp : List Value} {cap2 b1 b2 : Nat} {vs2 : Value} {lo2 : Option Nat}
    (hl : ClW w3 wl g2 L.S S2 M sp L.S.length) (hw : Below w.heap.size w w3) (hg2 : w.heap.size ≤ g2) (hob : w.heap.size ≤ ob ∧ ob < w3.heap.size ∧ ob ≠ g2) (hcap : L.S.length ≤ cap2)
    (hx : Bx wf ob 88 [.int .i64 M.kind, .int .i64 M.endu, .slice (some ⟨g2, 0, none⟩) L.S.length cap2, vs2, .map lo2]) (hf : wl.grownBy wf (some ob))
    (hb : wl.heap.size ≤ b1 ∧ b1 ≤ b2 ∧ b2 ≤ wf.heap.size)
    (hsc : ∀ w2 : World, (∀ k, b1 ≤ k → k < b2 → w2.heap[k]? = wf.heap[k]?) → RdSc w2 vs2 M.scr)
    (hlo : ∀ w2 : World, Same (fun b => R b ∨ lo2 = some b) wf w2 → LoM w2 lo2 M.n M.scr) (hlb : ∀ b, lo2 = some b → wl.heap.size ≤ b ∧ b < wf.heap.size) :
    CloP g M R w (.returned (.pointer (some ⟨ob, 0, none⟩))) wf := by
  have hs3 := hw.size
  have h3l := hl.le.size
  have hlf := hf.size
  have hg2l := hl.lt
  have hk : ∀ k, k < wl.heap.size → k ≠ ob → wf.heap[k]? = wl.heap[k]? := fun k h1 h2 => hf.block k h1 fun e => h2 (Option.some.inj e)
  have hmb : ∀ i p b, i < L.S.length → (atD sm0 S2 i).bk p = some b → w3.heap.size ≤ b ∧ b < wl.heap.size := fun i p b hi hb => (hl.maps i p hi hi).2 b hb
  refine ⟨ob, fun b => b = ob ∨ b = g2 ∨ ∃ i p, i < L.S.length ∧ (atD sm0 S2 i).bk p = some b, fun b => R b ∨ lo2 = some b ∨ (b1 ≤ b ∧ b < b2), rfl, ⟨⟨S2, g2, sp, cap2, vs2, lo2⟩, ?_, by simp only [hl.len]; exact hx, (hk g2 (by omega) (Ne.symm hob.2.2)).trans hl.box, by simp only [hl.len]; exact hcap, ?_, ?_, fun w2 h2 => hsc w2 fun k h3 h4 => h2 k (.inr (.inr ⟨h3, h4⟩)), fun w2 h2 => hlo w2 fun k h3 => h2 k (h3.elim .inl fun h => .inr (.inl h)), .inl rfl, .inr (.inl rfl), ?_, ?_, ?_, h.wf, fun b hb => .inr (.inl hb)⟩, ?_, ?_, ?_⟩
  · apply List.ext_getElem?
    intro i
    have hn := h.n
    have hlen := hl.len
    by_cases hi : i < L.S.length
    · have h1 := hl.sec i hi
      rw [List.getElem?_map]
      unfold atD at h1
      unfold Med.sec atD at h1
      have h3 : i < S2.length := by omega
      have h4 : i < M.secs.length := by have : M.secs.length = M.n := rfl; omega
      rw [List.getElem?_eq_getElem h3, List.getElem?_eq_getElem h4] at h1
      rw [List.getElem?_eq_getElem h3, List.getElem?_eq_getElem h4]
      simpa using h1.symm
    · rw [List.getElem?_eq_none (by have : M.secs.length = M.n := rfl; omega), List.getElem?_eq_none (by simp only [List.length_map]; omega)]
  · intro i p hi
    simp only [hl.len] at hi
    obtain ⟨h1, h2⟩ := hl.maps i p hi hi
    exact h1.kept fun c hc => hk c (h2 c hc).2 fun e => by have := (h2 c hc).1; omega
  · intro i k p q b hi hk' h1 h2
    simp only [hl.len] at hi hk'
    exact hl.inj i k p q b hi hk' hi hk' h1 h2
  · intro i p b hi h1
    simp only [hl.len] at hi
    exact .inr (.inr ⟨i, p, hi, h1⟩)
  · rintro b ((rfl | rfl | ⟨i, p, hi, h1⟩) | h1 | h1 | h1)
    · exact hx.lt
    · omega
    · have := hmb i p b hi h1; omega
    · have := h.lt b (.inr h1); omega
    · exact (hlb b h1).2
    · omega
  · rintro b hb' (h2 | h2 | h2)
    · have h3 := h.lt b (.inr h2)
      rcases hb' with rfl | rfl | ⟨i, p, hi, h1⟩
      · omega
      · omega
      · have := hmb i p b hi h1; omega
    · have h3 := (hlb b h2).1
      rcases hb' with rfl | rfl | ⟨i, p, hi, h1⟩
      · omega
      · omega
      · have := hmb i p b hi h1; omega
    · rcases hb' with rfl | rfl | ⟨i, p, hi, h1⟩
      · omega
      · omega
      · have := hmb i p b hi h1; omega
  · exact ⟨hf.os.trans (hl.le.os.trans hw.os), hf.tape.trans (hl.le.tape.trans hw.tape), hf.output.trans (hl.le.output.trans hw.output), by omega, fun k h1 => (hk k (by omega) (by omega)).trans ((hl.le.block k (by omega) fun e => by have := Option.some.inj e; omega).trans (hw.block k h1))⟩
  · rintro b (rfl | rfl | ⟨i, p, hi, h1⟩)
    · exact hob.1
    · exact hg2
    · have := hmb i p b hi h1; omega
  · rintro b (h1 | h1 | h1)
    · exact .inl h1
    · exact .inr (by have := (hlb b h1).1; omega)
    · exact .inr (by omega)
set_option maxRecDepth 100000 in
set_option maxHeartbeats 8000000 in
theorem clone12 {w : World} {g : Nat} {M : Med} {X R : Nat → Prop} {N : Nat} (h : MedW w g M X R) (ho : M.Ok N) :
    Calls Try.prog 30 #[.pointer (some ⟨g, 0, none⟩)] w (CloP g M R w) := by
  obtain ⟨L, hc⟩ := h
  obtain ⟨c0, c1, c2, c3, c4⟩ := hc.cells
  have HC := Lib.hid hc
  have HO := Lib.hid ho
  have HN := Lib.hid hc.n
  have hn1 := ho.n.1
  have hn2 := ho.n.2
  obtain ⟨n, hn⟩ : ∃ n, n = L.S.length := ⟨_, rfl⟩
  have HNL := Lib.hid hn
  have hnM : n = M.n := by rw [hn]; exact hc.n
  rw [← hnM] at hn1 hn2
  obtain ⟨asc, csc, hvs, _⟩ := RdD.form (hc.scr w fun _ _ => rfl)
  have HVS := Lib.hid hvs
  have hsl := ho.scr
  rw [← hn] at c2
  rw [hvs] at c3
  have hA := (Below.refl w.heap.size w).alloc (Nat.le_refl _) (.cells #[.int .i64 M.kind, .int .i64 M.endu, .slice (some ⟨L.gs, 0, none⟩) n L.cap, .slice asc M.scr.length csc, .map L.lo] 88)
  have hB := Bx.new w 88 [.int .i64 M.kind, .int .i64 M.endu, .slice (some ⟨L.gs, 0, none⟩) n L.cap, .slice asc M.scr.length csc, .map L.lo]
  obtain ⟨w1, hw1⟩ : ∃ w1, w1 = w.alloc (.cells #[.int .i64 M.kind, .int .i64 M.endu, .slice (some ⟨L.gs, 0, none⟩) n L.cap, .slice asc M.scr.length csc, .map L.lo] 88) := ⟨_, rfl⟩
  obtain ⟨ob, hob⟩ : ∃ ob, ob = w.heap.size := ⟨_, rfl⟩
  change Bx (w.alloc (.cells #[.int .i64 M.kind, .int .i64 M.endu, .slice (some ⟨L.gs, 0, none⟩) n L.cap, .slice asc M.scr.length csc, .map L.lo] 88)) _ _ _ at hB
  rw [← hw1] at hA hB
  rw [← hob] at hB
  have HA := Lib.hid hA
  have HB := Lib.hid hB
  have HW1 := Lib.hid hw1
  have HOB := Lib.hid hob
  clear hc ho hA hB hw1 hob hvs hn hnM
  go_enter Try.func30, Try.ntmps30
  go_upto_region 2 with (fail)
  rw [show (w.alloc (.cells #[.int .i64 M.kind, .int .i64 M.endu, .slice (some ⟨L.gs, 0, none⟩) n L.cap, .slice asc M.scr.length csc, .map L.lo] 88)) = w1 from HW1.out.symm, show w.heap.size = ob from HOB.out.symm]
  have d2 := (HC.out.below HA.out).cells.2.2.1
  rw [← HNL.out] at d2
  have HRS : Hid (RdD sm0 smD 5 w1 (.slice (some ⟨L.gs, 0, none⟩) n L.cap) L.S) := Lib.hid ⟨some ⟨L.gs, 0, none⟩, L.cap, L.gs, 0, by rw [HNL.out], HC.out.cap, fun i hi => ⟨rfl, fun j u hu => by
    have hj : j < 5 := by have := (List.getElem?_eq_some_iff.1 hu).1; rwa [smD_len] at this
    rw [Nat.zero_add, (HC.out.below HA.out).surf hi hj]
    exact hu⟩⟩
  clear c0 c1 c2 c3 c4
  go_wp2_with fail
  refine (fclone12 L.gs n L.cap L.S w1 HNL.out.symm hn1 hn2 HRS.out).mono ?_
  rintro e w2 ⟨v2, rfl, ho2, hb2⟩
  obtain ⟨g2, cap2, rfl, hg2a, hg2b⟩ := ownD_addr ho2 (by omega)
  have HB2 := Lib.hid (HB.out.call hb2)
  have HBW2 := Lib.hid (HA.out.trans (hb2.mono HA.out.size))
  have hob1 := HB.out.lt
  obtain ⟨sp, hsp, hcap2⟩ : ∃ sp, Bx w2 g2 101 (flD smD L.S ++ sp) ∧ n ≤ cap2 := by
    rcases ho2.2 with ⟨h', _⟩ | ⟨g', cap', cur, h', hb, hg, hn, hm, hcs, ht⟩
    · simp at h'
    · simp only [Value.slice.injEq, Option.some.injEq, Addr.mk.injEq, and_true, true_and] at h'
      obtain ⟨rfl, rfl⟩ := h'
      refine ⟨cur.toList.drop (n * 5), ?_, hn⟩
      unfold Bx
      rw [hg, ← ht, List.take_append_drop]
  have HSP := Lib.hid hsp
  have HG2 : Hid (w1.heap.size ≤ g2) := Lib.hid hg2a
  have HGO : Hid (ob < w1.heap.size) := Lib.hid hob1
  have HCAP := Lib.hid hcap2
  clear ho2 hb2 hg2a hg2b hsp hob1 hcap2 d2
  have q2 := HB2.out.cell (i := 2) rfl
  have qf := HB2.out.free 2
  go_upto_region 3 with (fail)
  have HB3 : Hid (Bx (w2.setCell ⟨ob, 2, none⟩ (.slice (some ⟨g2, 0, none⟩) n cap2)) ob 88 [.int .i64 M.kind, .int .i64 M.endu, .slice (some ⟨g2, 0, none⟩) n cap2, .slice asc M.scr.length csc, .map L.lo]) := Lib.hid (HB2.out.set 2 (.slice (some ⟨g2, 0, none⟩) n cap2))
  have HSP3 := Lib.hid (HSP.out.far (p := ⟨ob, 2, none⟩) (by have := HG2.out; have := HGO.out; simp only [ne_eq]; omega) (.slice (some ⟨g2, 0, none⟩) n cap2))
  have HBW3 := Lib.hid (HBW2.out.setCell (p := ⟨ob, 2, none⟩) (by rw [HOB.out]; exact Nat.le_refl _) (.slice (some ⟨g2, 0, none⟩) n cap2))
  generalize w2.setCell ⟨ob, 2, none⟩ (.slice (some ⟨g2, 0, none⟩) n cap2) = w3 at *
  clear q2 qf
  have q2 := HB3.out.cell (i := 2) rfl
  have HG23 := Lib.hid HSP3.out.lt
  go_wp2_with fail
  have HST : Hid (ClW w3 w3 g2 L.S L.S M sp 0) := Lib.hid ⟨rfl, HSP3.out, fun i hi => HC.out.at_ i, fun i _ _ => rfl, fun i p h => by omega, fun i k p q b h => by omega, World.grownBy.refl _ _, HG23.out⟩
  go_loopw [18] (fun vk wr => ∃ (j : Nat) (S2 : List SM), j ≤ n ∧ vk = .int .i64 j ∧ ClW w3 wr g2 L.S S2 M sp j) (fun vk _ => n - (RowKit.intOf vk).toNat)
  case atStart => exact ⟨0, L.S, by omega, rfl, HST.out⟩
  case round =>
    obtain ⟨j, S2, hj, rfl, hcw⟩ := hrel
    have HCW := Lib.hid hcw
    have HOBW := Lib.hid (hcw.le.block ob HB3.out.lt (fun e => by have := Option.some.inj e; have := HG2.out; have := HGO.out; omega))
    have HBR : Hid (Bx wr ob 88 [.int .i64 M.kind, .int .i64 M.endu, .slice (some ⟨g2, 0, none⟩) n cap2, .slice asc M.scr.length csc, .map L.lo]) := Lib.hid (HOBW.out.trans HB3.out)
    have HBWR : Hid (Below w.heap.size w wr) := Lib.hid (HBW3.out.grown hcw.le HBW3.out.size fun k hk => by
      obtain rfl := Option.some.inj hk
      have := HG2.out
      have := HA.out.size
      omega)
    clear hcw q2
    by_cases hlt : j < n
    · have q2 := HBR.out.cell (i := 2) rfl
      have hjS : j < L.S.length := by rw [← HNL.out]; exact hlt
      have hix := fun w' => run_idxS Try.underlying85 (by kernel_rfl : (Try.prog.info? 101).map (·.size) = some 5) (a := some ⟨g2, 0, none⟩) (n := n) (cap := cap2) (k := j) (b := g2) (off := 0) rfl hlt (j : Int) rfl w'
      simp only [Nat.zero_add] at hix
      have hre := HCW.out.rest j (Nat.le_refl _) hjS
      obtain ⟨eo, heo⟩ : ∃ eo, eo = (atD sm0 L.S j).e := ⟨_, rfl⟩
      obtain ⟨co, hco⟩ : ∃ co, co = (atD sm0 L.S j).c := ⟨_, rfl⟩
      have HMR := HC.out.below HBWR.out
      have hE0 : ErM wr eo (M.sec j).er := by
        have := HMR.maps j true hjS
        unfold SM.W at this
        rwa [if_pos rfl, HMR.at_, ← heo] at this
      have hC0 : ChM wr co (M.sec j).ch := by
        have := HMR.maps j false hjS
        unfold SM.W at this
        rwa [if_neg (by decide), HMR.at_, ← hco] at this
      have HEO := Lib.hid (fun W (hW : wr.grownBy W (some g2)) => hE0.far HCW.out.box hW)
      have HCO := Lib.hid (fun W (hW : wr.grownBy W (some g2)) => hC0.far HCW.out.box hW)
      obtain ⟨cs, hcs⟩ : ∃ cs, cs = flD smD S2 ++ sp := ⟨_, rfl⟩
      have hlen := HCW.out.len
      have h3 : cs[j * 5 + 3]? = some (.map eo) := by
        rw [hcs, List.getElem?_append_left (by rw [flD_length smD_len]; omega), flD_get (d := sm0) smD_len S2 j 3 (by omega) (by decide), hre, heo]
        rfl
      have h4 : cs[j * 5 + 4]? = some (.map co) := by
        rw [hcs, List.getElem?_append_left (by rw [flD_length smD_len]; omega), flD_get (d := sm0) smD_len S2 j 4 (by omega) (by decide), hre, hco]
        rfl
      obtain ⟨k5, hk5⟩ : ∃ k5, k5 = j * 5 := ⟨_, rfl⟩
      rw [← hk5] at h3 h4 hix
      have HK5 := Lib.hid hk5
      have HQ3 := Lib.hid h3
      have HQ4 := Lib.hid h4
      have HCS := Lib.hid hcs
      have HBX : Hid (Bx wr g2 101 cs) := Lib.hid (by rw [hcs]; exact HCW.out.box)
      have HJS := Lib.hid hjS
      obtain ⟨fE, hfE⟩ : ∃ fE, fE = (M.sec j).er := ⟨_, rfl⟩
      obtain ⟨fC, hfC⟩ : ∃ fC, fC = (M.sec j).ch := ⟨_, rfl⟩
      rw [← hfE] at HEO
      rw [← hfC] at HCO
      have HFE := Lib.hid hfE
      have HFC := Lib.hid hfC
      clear hre heo hco HMR hE0 hC0 hcs hlen h3 h4 hk5 hjS hfE hfC
      go_upto_region 7 with (fail)
      clear q2 hix
      refine wp_region_seqA (by kernel_rfl) (anyR) (fun r a W => ClC wr g2 cs (k5 + 3) fE fC r (a.tmps.getD 31 undef) (a.tmps.getD 36 undef) W) (clnV g2 k5 eo co) (fun _ => false) clnVE 4 (by kernel_rfl) (by kernel_rfl) (.inl (by kernel_rfl)) (keepsA2 31 36 (by kernel_rfl) (by kernel_rfl) (ClC wr g2 cs (k5 + 3) fE fC)) (clnV_keep g2 k5 eo co) (⟨⟨rfl, rfl, rfl, Nat.le_refl _, fun _ _ _ => rfl⟩, HBX.out⟩) ⟨?_, ?_, ?_, ?_, ?_, ?_, ?_, ?_, ?_, ?_, ?_, ?_, ?_, ?_, ?_, ?_, ?_, ?_, trivial⟩ ?_
      · intro r a W hc hsz hold hdep hnot hlo hhi hrk
        have o5 : a.tmps.getD 5 undef = .pointer (some ⟨g2, k5, none⟩) := hold 5 (by kernel_rfl)
        clear hsz hold hdep hnot hlo hhi hrk
        refine stepR_do rfl (wanted_none rfl) ?_
        refine stepA_val (v := .pointer (some ⟨g2, k5, none⟩)) (anyR_mk _ _ _) rfl fun K hK => ?_
        go_simp
        exact hK
      · intro r a W hc hsz hold hdep hnot hlo hhi hrk
        have o5 : a.tmps.getD 5 undef = .pointer (some ⟨g2, k5, none⟩) := hold 5 (by kernel_rfl)
        clear hsz hold hdep hnot hlo hhi hrk
        refine stepR_do rfl (wanted_none rfl) ?_
        refine stepA_val (v := .pointer (some ⟨g2, k5, none⟩)) (anyR_mk _ _ _) rfl fun K hK => ?_
        go_simp
        exact hK
      · intro r a W hc hsz hold hdep hnot hlo hhi hrk
        have o5 : a.tmps.getD 5 undef = .pointer (some ⟨g2, k5, none⟩) := hold 5 (by kernel_rfl)
        clear hsz hold hdep hnot hlo hhi hrk
        refine stepR_do rfl (wanted_none rfl) ?_
        refine stepA_val (v := .pointer (some ⟨g2, k5, none⟩)) (anyR_mk _ _ _) rfl fun K hK => ?_
        go_simp
        exact hK
      · intro r a W hc hsz hold hdep hnot hlo hhi hrk
        have d2 : a.tmps.getD 27 undef = .pointer (some ⟨g2, k5, none⟩) := hdep 2 (by kernel_rfl) rfl _ rfl
        clear hsz hold hdep hnot hlo hhi hrk
        refine stepR_do rfl (wanted_none rfl) ?_
        refine stepA_val (v := .pointer (some ⟨g2, k5, none⟩)) (anyR_mk _ _ _) rfl fun K hK => ?_
        go_simp
        exact hK
      · intro r a W hc hsz hold hdep hnot hlo hhi hrk
        have d3 : a.tmps.getD 28 undef = .pointer (some ⟨g2, k5, none⟩) := hdep 3 (by kernel_rfl) rfl _ rfl
        clear hsz hold hdep hnot hlo hhi hrk
        refine stepR_do rfl (wanted_none rfl) ?_
        refine stepA_val (v := .pointer (some ⟨g2, k5 + 3, none⟩)) (anyR_mk _ _ _) rfl fun K hK => ?_
        go_simp
        exact hK
      · intro r a W hc hsz hold hdep hnot hlo hhi hrk
        have d4 : a.tmps.getD 29 undef = .pointer (some ⟨g2, k5 + 3, none⟩) := hdep 4 (by kernel_rfl) rfl _ rfl
        have hr2 := hhi 14 2 rfl (by kernel_rfl)
        have q3 := (ClC.bx hc hr2).cell HQ3.out
        clear hsz hold hdep hnot hlo hhi hrk
        refine stepR_do rfl (wanted_none rfl) ?_
        refine stepA_val (v := .map eo) (anyR_mk _ _ _) rfl fun K hK => ?_
        go_simp
        exact hK
      · intro r a W hc hsz hold hdep hnot hlo hhi hrk
        have hr := hrk 0 rfl
        subst hr
        have d5 : a.tmps.getD 30 undef = .map eo := hdep 5 (by kernel_rfl) rfl _ rfl
        have e5 : a.tmps[30]?.getD undef = .map eo := by rw [← Array.getD_eq_getD_getElem?]; exact d5
        have hs : 31 < a.tmps.size := by rw [hsz]; exact (by decide : 31 < 54)
        clear hsz hold hdep hnot hlo hhi hrk
        refine stepR_do rfl (wanted_none rfl) ?_
        obtain ⟨hgw, hbx⟩ := hc
        have hbx : Bx W g2 101 cs := hbx
        have HCL := Lib.hid (clone_er (HEO.out W hgw))
        refine stepA_any (C := fun a W => ClC wr g2 cs (k5 + 3) fE fC 1 (a.tmps.getD 31 undef) (a.tmps.getD 36 undef) W) fun K hK => ?_
        go_simp
        refine HCL.out.mono ?_
        rintro e w' ⟨e', rfl, h1, h2, h3⟩
        refine hK _ _ (anyR_mk _ _ _) ⟨⟨h3.os.trans hgw.os, h3.tape.trans hgw.tape, h3.output.trans hgw.output, Nat.le_trans hgw.size h3.size, fun k hk hn => (h3.block k (Nat.lt_of_lt_of_le hk hgw.size)).trans (hgw.block k hk hn)⟩, hbx.call h3, e', ?_, h1, fun b hb => by rw [h2 b hb]; exact hgw.size⟩ trivial
        rw [put_getD_same hs]
      · intro r a W hc hsz hold hdep hnot hlo hhi hrk
        have o5 : a.tmps.getD 5 undef = .pointer (some ⟨g2, k5, none⟩) := hold 5 (by kernel_rfl)
        clear hsz hold hdep hnot hlo hhi hrk
        refine stepR_do rfl (wanted_none rfl) ?_
        refine stepA_val (v := .pointer (some ⟨g2, k5, none⟩)) (anyR_mk _ _ _) rfl fun K hK => ?_
        go_simp
        exact hK
      · intro r a W hc hsz hold hdep hnot hlo hhi hrk
        have d7 : a.tmps.getD 32 undef = .pointer (some ⟨g2, k5, none⟩) := hdep 7 (by kernel_rfl) rfl _ rfl
        clear hsz hold hdep hnot hlo hhi hrk
        refine stepR_do rfl (wanted_none rfl) ?_
        refine stepA_val (v := .pointer (some ⟨g2, k5, none⟩)) (anyR_mk _ _ _) rfl fun K hK => ?_
        go_simp
        exact hK
      · intro r a W hc hsz hold hdep hnot hlo hhi hrk
        have d8 : a.tmps.getD 33 undef = .pointer (some ⟨g2, k5, none⟩) := hdep 8 (by kernel_rfl) rfl _ rfl
        clear hsz hold hdep hnot hlo hhi hrk
        refine stepR_do rfl (wanted_none rfl) ?_
        refine stepA_val (v := .pointer (some ⟨g2, k5 + 4, none⟩)) (anyR_mk _ _ _) rfl fun K hK => ?_
        go_simp
        exact hK
      · intro r a W hc hsz hold hdep hnot hlo hhi hrk
        have d9 : a.tmps.getD 34 undef = .pointer (some ⟨g2, k5 + 4, none⟩) := hdep 9 (by kernel_rfl) rfl _ rfl
        have hr2 := hhi 14 2 rfl (by kernel_rfl)
        have q4 := (ClC.bx hc hr2).cell HQ4.out
        clear hsz hold hdep hnot hlo hhi hrk
        refine stepR_do rfl (wanted_none rfl) ?_
        refine stepA_val (v := .map co) (anyR_mk _ _ _) rfl fun K hK => ?_
        go_simp
        exact hK
      · intro r a W hc hsz hold hdep hnot hlo hhi hrk
        have hr := hrk 1 rfl
        subst hr
        have d10 : a.tmps.getD 35 undef = .map co := hdep 10 (by kernel_rfl) rfl _ rfl
        have e10 : a.tmps[35]?.getD undef = .map co := by rw [← Array.getD_eq_getD_getElem?]; exact d10
        have hs : 36 < a.tmps.size := by rw [hsz]; exact (by decide : 36 < 54)
        clear hsz hold hdep hnot hlo hhi hrk
        refine stepR_do rfl (wanted_none rfl) ?_
        obtain ⟨hgw, hbx, e', hv31, hE, hEb⟩ := hc
        have HCL := Lib.hid (clone_ch (HCO.out W hgw))
        refine stepA_any (C := fun a W => ClC wr g2 cs (k5 + 3) fE fC 2 (a.tmps.getD 31 undef) (a.tmps.getD 36 undef) W) fun K hK => ?_
        go_simp
        refine HCL.out.mono ?_
        rintro e w' ⟨c', rfl, h1, h2, h3⟩
        refine hK _ _ (anyR_mk _ _ _) ⟨⟨h3.os.trans hgw.os, h3.tape.trans hgw.tape, h3.output.trans hgw.output, Nat.le_trans hgw.size h3.size, fun k hk hn => (h3.block k (Nat.lt_of_lt_of_le hk hgw.size)).trans (hgw.block k hk hn)⟩, hbx.call h3, e', c', ?_, ?_, hE.kept fun b hb => h3.block b (hE.lt hb), h1, hEb, fun b hb => ⟨by rw [h2 b hb]; exact hgw.size, fun he => ?_⟩⟩ trivial
        · rw [put_getD_other (by decide)]; exact hv31
        · rw [put_getD_same hs]
        · have := hE.lt he
          have := h2 b hb
          omega
      · intro r a W hc hsz hold hdep hnot hlo hhi hrk
        have d0 : a.tmps.getD 25 undef = .pointer (some ⟨g2, k5, none⟩) := hdep 0 (by kernel_rfl) rfl _ rfl
        clear hsz hold hdep hnot hlo hhi hrk
        refine stepR_do rfl (wanted_none rfl) ?_
        refine stepA_val (v := .pointer (some ⟨g2, k5, none⟩)) (anyR_mk _ _ _) rfl fun K hK => ?_
        go_simp
        exact hK
      · intro r a W hc hsz hold hdep hnot hlo hhi hrk
        have d12 : a.tmps.getD 37 undef = .pointer (some ⟨g2, k5, none⟩) := hdep 12 (by kernel_rfl) rfl _ rfl
        clear hsz hold hdep hnot hlo hhi hrk
        refine stepR_do rfl (wanted_none rfl) ?_
        refine stepA_val (v := .pointer (some ⟨g2, k5 + 3, none⟩)) (anyR_mk _ _ _) rfl fun K hK => ?_
        go_simp
        exact hK
      · intro r a W hc hsz hold hdep hnot hlo hhi hrk
        have hr := hrk 2 rfl
        subst hr
        have d13 : a.tmps.getD 38 undef = .pointer (some ⟨g2, k5 + 3, none⟩) := hdep 13 (by kernel_rfl) rfl _ rfl
        have x6 := hdep 6 (by kernel_rfl) rfl _ rfl
        clear hsz hold hdep hnot hlo hhi hrk
        refine stepR_do rfl (wanted_none rfl) ?_
        obtain ⟨hgw, hbx, hcp⟩ := hc
        obtain ⟨e', c', hv31, hv36, h3, h4, h5, h6⟩ := id hcp
        have q3 := hbx.cell HQ3.out
        have qf := hbx.free (k5 + 3)
        have e31 : a.tmps[31]?.getD undef = .map e' := by rw [← Array.getD_eq_getD_getElem?]; exact hv31
        refine stepA_any (C := fun a W => ClC wr g2 cs (k5 + 3) fE fC 3 (a.tmps.getD 31 undef) (a.tmps.getD 36 undef) W) fun K hK => ?_
        go_simp
        refine hK undef _ (anyR_mk _ _ _) ⟨hgw.trans (grown_set W g2 (k5 + 3) (.map e')), ?_, ?_⟩ trivial
        · rw [put_none, hv31]; exact hbx.set (k5 + 3) (.map e')
        · rw [put_none]; exact hcp.store hbx (k5 + 3) (.map e')
      · intro r a W hc hsz hold hdep hnot hlo hhi hrk
        have d1 : a.tmps.getD 26 undef = .pointer (some ⟨g2, k5, none⟩) := hdep 1 (by kernel_rfl) rfl _ rfl
        clear hsz hold hdep hnot hlo hhi hrk
        refine stepR_do rfl (wanted_none rfl) ?_
        refine stepA_val (v := .pointer (some ⟨g2, k5, none⟩)) (anyR_mk _ _ _) rfl fun K hK => ?_
        go_simp
        exact hK
      · intro r a W hc hsz hold hdep hnot hlo hhi hrk
        have d15 : a.tmps.getD 39 undef = .pointer (some ⟨g2, k5, none⟩) := hdep 15 (by kernel_rfl) rfl _ rfl
        clear hsz hold hdep hnot hlo hhi hrk
        refine stepR_do rfl (wanted_none rfl) ?_
        refine stepA_val (v := .pointer (some ⟨g2, k5 + 4, none⟩)) (anyR_mk _ _ _) rfl fun K hK => ?_
        go_simp
        exact hK
      · intro r a W hc hsz hold hdep hnot hlo hhi hrk
        have hr := hrk 3 rfl
        subst hr
        have d16 : a.tmps.getD 40 undef = .pointer (some ⟨g2, k5 + 4, none⟩) := hdep 16 (by kernel_rfl) rfl _ rfl
        have x11 := hdep 11 (by kernel_rfl) rfl _ rfl
        clear hsz hold hdep hnot hlo hhi hrk
        refine stepR_do rfl (wanted_none rfl) ?_
        obtain ⟨hgw, hbx, hcp⟩ := hc
        obtain ⟨e', c', hv31, hv36, h3, h4, h5, h6⟩ := id hcp
        have q4 := hbx.cell (i := k5 + 4) (u := .map co) (by rw [List.getElem?_set_ne (by omega)]; exact HQ4.out)
        have qf := hbx.free (k5 + 4)
        have e36 : a.tmps[36]?.getD undef = .map c' := by rw [← Array.getD_eq_getD_getElem?]; exact hv36
        refine stepA_any (C := fun a W => ClC wr g2 cs (k5 + 3) fE fC 4 (a.tmps.getD 31 undef) (a.tmps.getD 36 undef) W) fun K hK => ?_
        go_simp
        refine hK undef _ (anyR_mk _ _ _) ⟨hgw.trans (grown_set W g2 (k5 + 4) (.map c')), ?_, ?_⟩ trivial
        · rw [put_none, hv36]; exact hbx.set (k5 + 4) (.map c')
        · rw [put_none]; exact hcp.store hbx (k5 + 4) (.map c')
      · intro a W hC hd hsz hold hval
        have d0 : a.tmps.getD 0 undef = .pointer (some ⟨g, 0, none⟩) := hold 0 (by kernel_rfl)
        have d1 : a.tmps.getD 1 undef = undef := hold 1 (by kernel_rfl)
        have d2 : a.tmps.getD 2 undef = .pointer none := hold 2 (by kernel_rfl)
        have d3 : a.tmps.getD 3 undef = .pointer (some ⟨ob, 0, none⟩) := hold 3 (by kernel_rfl)
        have d4 : a.tmps.getD 4 undef = .int .i64 ↑j := hold 4 (by kernel_rfl)
        have d5 : a.tmps.getD 5 undef = .pointer (some ⟨g2, k5, none⟩) := hold 5 (by kernel_rfl)
        have d6 : a.tmps.getD 6 undef = .pointer (some ⟨g, 0, none⟩) := hold 6 (by kernel_rfl)
        have d7 : a.tmps.getD 7 undef = .pointer (some ⟨g, 0, none⟩) := hold 7 (by kernel_rfl)
        have d8 : a.tmps.getD 8 undef = .agg #[.int .i64 ↑M.kind, .int .i64 ↑M.endu, .slice (some ⟨L.gs, 0, none⟩) n L.cap, .slice asc M.scr.length csc, .map L.lo] := hold 8 (by kernel_rfl)
        have d9 : a.tmps.getD 9 undef = .pointer (some ⟨g, 0, none⟩) := hold 9 (by kernel_rfl)
        have d10 : a.tmps.getD 10 undef = .pointer (some ⟨g, 0, none⟩) := hold 10 (by kernel_rfl)
        have d11 : a.tmps.getD 11 undef = .pointer (some ⟨g, 2, none⟩) := hold 11 (by kernel_rfl)
        have d12 : a.tmps.getD 12 undef = .slice (some ⟨L.gs, 0, none⟩) n L.cap := hold 12 (by kernel_rfl)
        have d13 : a.tmps.getD 13 undef = .slice (some ⟨g2, 0, none⟩) n cap2 := hold 13 (by kernel_rfl)
        have d14 : a.tmps.getD 14 undef = .pointer (some ⟨ob, 2, none⟩) := hold 14 (by kernel_rfl)
        have d15 : a.tmps.getD 15 undef = .pointer (some ⟨ob, 2, none⟩) := hold 15 (by kernel_rfl)
        have d16 : a.tmps.getD 16 undef = .slice (some ⟨g2, 0, none⟩) n cap2 := hold 16 (by kernel_rfl)
        have d17 : a.tmps.getD 17 undef = .int .i64 ↑n := hold 17 (by kernel_rfl)
        have d18 : a.tmps.getD 18 undef = .int .i64 ↑j := hold 18 (by kernel_rfl)
        have d19 : a.tmps.getD 19 undef = .bool true := hold 19 (by kernel_rfl)
        have d20 : a.tmps.getD 20 undef = .int .i64 ↑j := hold 20 (by kernel_rfl)
        have d21 : a.tmps.getD 21 undef = .pointer (some ⟨ob, 2, none⟩) := hold 21 (by kernel_rfl)
        have d22 : a.tmps.getD 22 undef = .slice (some ⟨g2, 0, none⟩) n cap2 := hold 22 (by kernel_rfl)
        have d23 : a.tmps.getD 23 undef = .int .i64 ↑j := hold 23 (by kernel_rfl)
        have d24 : a.tmps.getD 24 undef = .pointer (some ⟨g2, k5, none⟩) := hold 24 (by kernel_rfl)
        have d42 : a.tmps.getD 42 undef = undef := hold 42 (by kernel_rfl)
        have d43 : a.tmps.getD 43 undef = undef := hold 43 (by kernel_rfl)
        have d44 : a.tmps.getD 44 undef = undef := hold 44 (by kernel_rfl)
        have d45 : a.tmps.getD 45 undef = undef := hold 45 (by kernel_rfl)
        have d46 : a.tmps.getD 46 undef = undef := hold 46 (by kernel_rfl)
        have d47 : a.tmps.getD 47 undef = undef := hold 47 (by kernel_rfl)
        have d48 : a.tmps.getD 48 undef = undef := hold 48 (by kernel_rfl)
        have d49 : a.tmps.getD 49 undef = undef := hold 49 (by kernel_rfl)
        have d50 : a.tmps.getD 50 undef = undef := hold 50 (by kernel_rfl)
        have d51 : a.tmps.getD 51 undef = undef := hold 51 (by kernel_rfl)
        have d52 : a.tmps.getD 52 undef = undef := hold 52 (by kernel_rfl)
        have d53 : a.tmps.getD 53 undef = undef := hold 53 (by kernel_rfl)
        clear hold
        obtain ⟨tm, df⟩ := a
        replace hd : df = [] := hd
        replace hsz : tm.size = 54 := hsz
        replace d0 : tm.getD 0 undef = .pointer (some ⟨g, 0, none⟩) := d0
        replace d1 : tm.getD 1 undef = undef := d1
        replace d2 : tm.getD 2 undef = .pointer none := d2
        replace d3 : tm.getD 3 undef = .pointer (some ⟨ob, 0, none⟩) := d3
        replace d4 : tm.getD 4 undef = .int .i64 ↑j := d4
        replace d5 : tm.getD 5 undef = .pointer (some ⟨g2, k5, none⟩) := d5
        replace d6 : tm.getD 6 undef = .pointer (some ⟨g, 0, none⟩) := d6
        replace d7 : tm.getD 7 undef = .pointer (some ⟨g, 0, none⟩) := d7
        replace d8 : tm.getD 8 undef = .agg #[.int .i64 ↑M.kind, .int .i64 ↑M.endu, .slice (some ⟨L.gs, 0, none⟩) n L.cap, .slice asc M.scr.length csc, .map L.lo] := d8
        replace d9 : tm.getD 9 undef = .pointer (some ⟨g, 0, none⟩) := d9
        replace d10 : tm.getD 10 undef = .pointer (some ⟨g, 0, none⟩) := d10
        replace d11 : tm.getD 11 undef = .pointer (some ⟨g, 2, none⟩) := d11
        replace d12 : tm.getD 12 undef = .slice (some ⟨L.gs, 0, none⟩) n L.cap := d12
        replace d13 : tm.getD 13 undef = .slice (some ⟨g2, 0, none⟩) n cap2 := d13
        replace d14 : tm.getD 14 undef = .pointer (some ⟨ob, 2, none⟩) := d14
        replace d15 : tm.getD 15 undef = .pointer (some ⟨ob, 2, none⟩) := d15
        replace d16 : tm.getD 16 undef = .slice (some ⟨g2, 0, none⟩) n cap2 := d16
        replace d17 : tm.getD 17 undef = .int .i64 ↑n := d17
        replace d18 : tm.getD 18 undef = .int .i64 ↑j := d18
        replace d19 : tm.getD 19 undef = .bool true := d19
        replace d20 : tm.getD 20 undef = .int .i64 ↑j := d20
        replace d21 : tm.getD 21 undef = .pointer (some ⟨ob, 2, none⟩) := d21
        replace d22 : tm.getD 22 undef = .slice (some ⟨g2, 0, none⟩) n cap2 := d22
        replace d23 : tm.getD 23 undef = .int .i64 ↑j := d23
        replace d24 : tm.getD 24 undef = .pointer (some ⟨g2, k5, none⟩) := d24
        replace d42 : tm.getD 42 undef = undef := d42
        replace d43 : tm.getD 43 undef = undef := d43
        replace d44 : tm.getD 44 undef = undef := d44
        replace d45 : tm.getD 45 undef = undef := d45
        replace d46 : tm.getD 46 undef = undef := d46
        replace d47 : tm.getD 47 undef = undef := d47
        replace d48 : tm.getD 48 undef = undef := d48
        replace d49 : tm.getD 49 undef = undef := d49
        replace d50 : tm.getD 50 undef = undef := d50
        replace d51 : tm.getD 51 undef = undef := d51
        replace d52 : tm.getD 52 undef = undef := d52
        replace d53 : tm.getD 53 undef = undef := d53
        subst hd
        have e : tm = List.toArray (tm.getD 0 undef :: tm.getD 1 undef :: tm.getD 2 undef :: tm.getD 3 undef :: tm.getD 4 undef :: tm.getD 5 undef :: tm.getD 6 undef :: tm.getD 7 undef :: tm.getD 8 undef :: tm.getD 9 undef :: tm.getD 10 undef :: tm.getD 11 undef :: tm.getD 12 undef :: tm.getD 13 undef :: tm.getD 14 undef :: tm.getD 15 undef :: tm.getD 16 undef :: tm.getD 17 undef :: tm.getD 18 undef :: tm.getD 19 undef :: tm.getD 20 undef :: tm.getD 21 undef :: tm.getD 22 undef :: tm.getD 23 undef :: tm.getD 24 undef :: tm.getD 25 undef :: tm.getD 26 undef :: tm.getD 27 undef :: tm.getD 28 undef :: tm.getD 29 undef :: tm.getD 30 undef :: tm.getD 31 undef :: tm.getD 32 undef :: tm.getD 33 undef :: tm.getD 34 undef :: tm.getD 35 undef :: tm.getD 36 undef :: tm.getD 37 undef :: tm.getD 38 undef :: tm.getD 39 undef :: tm.getD 40 undef :: tm.getD 41 undef :: tm.getD 42 undef :: tm.getD 43 undef :: tm.getD 44 undef :: tm.getD 45 undef :: tm.getD 46 undef :: tm.getD 47 undef :: tm.getD 48 undef :: tm.getD 49 undef :: tm.getD 50 undef :: tm.getD 51 undef :: tm.getD 52 undef :: tm.getD 53 undef :: []) := arr_eq tm 54 hsz
        rw [d0, d1, d2, d3, d4, d5, d6, d7, d8, d9, d10, d11, d12, d13, d14, d15, d16, d17, d18, d19, d20, d21, d22, d23, d24, d42, d43, d44, d45, d46, d47, d48, d49, d50, d51, d52, d53] at e
        clear d0 d1 d2 d3 d4 d5 d6 d7 d8 d9 d10 d11 d12 d13 d14 d15 d16 d17 d18 d19 d20 d21 d22 d23 d24 d42 d43 d44 d45 d46 d47 d48 d49 d50 d51 d52 d53 hsz
        generalize tm.getD 25 undef = v25 at e
        generalize tm.getD 26 undef = v26 at e
        generalize tm.getD 27 undef = v27 at e
        generalize tm.getD 28 undef = v28 at e
        generalize tm.getD 29 undef = v29 at e
        generalize tm.getD 30 undef = v30 at e
        generalize tm.getD 31 undef = v31 at e
        generalize tm.getD 32 undef = v32 at e
        generalize tm.getD 33 undef = v33 at e
        generalize tm.getD 34 undef = v34 at e
        generalize tm.getD 35 undef = v35 at e
        generalize tm.getD 36 undef = v36 at e
        generalize tm.getD 37 undef = v37 at e
        generalize tm.getD 38 undef = v38 at e
        generalize tm.getD 39 undef = v39 at e
        generalize tm.getD 40 undef = v40 at e
        generalize tm.getD 41 undef = v41 at e
        subst e
        obtain ⟨hgw, hbx, e', c', hv31, hv36, hE, hC2, hE2, hC3⟩ : ClC wr g2 cs (k5 + 3) fE fC 4 _ _ W := hC
        rw [hv31, hv36, HCS.out, HK5.out] at hbx
        rw [HFE.out] at hE
        rw [HFC.out] at hC2
        have HNEW := Lib.hid (HCW.out.step HJS.out hgw hbx hE hC2 hE2 hC3)
        clear hgw hbx hv31 hv36 hE hC2 hE2 hC3 hval
        go_wp2_with fail
        refine ⟨⟨j + 1, _, by omega, by go_num, HNEW.out⟩, ?_⟩
        simp [RowKit.intOf]; omega
    · obtain rfl : j = n := by omega
      have HFL : Hid (ClW w3 wr g2 L.S S2 M sp L.S.length) := Lib.hid (by have := HCW.out; rwa [HNL.out] at this)
      have HMR := Lib.hid (HC.out.below HBWR.out)
      have d3 := HMR.out.cells.2.2.2.1
      rw [HVS.out] at d3
      go_wp2_with fail
      refine (sclone12 _ M.scr wr (by have := HMR.out.scr wr fun _ _ => rfl; rwa [HVS.out] at this) hsl).mono ?_
      rintro e w5 ⟨v5, rfl, ho5, hb5⟩
      obtain ⟨a5, c5, rfl⟩ := ownD_form ho5
      have HO5 := Lib.hid ho5
      have HBO5 := Lib.hid (HBR.out.call hb5)
      have HB5 := Lib.hid hb5
      have q3 := HBO5.out.cell (i := 3) rfl
      have qf := HBO5.out.free 3
      clear ho5 hb5 d3
      go_upto_region 10 with (fail)
      have HBO6 : Hid (Bx (w5.setCell ⟨ob, 3, none⟩ (.slice a5 M.scr.length c5)) ob 88 [.int .i64 M.kind, .int .i64 M.endu, .slice (some ⟨g2, 0, none⟩) j cap2, .slice a5 M.scr.length c5, .map L.lo]) := Lib.hid (HBO5.out.set 3 (.slice a5 M.scr.length c5))
      have HG6 : Hid (wr.grownBy (w5.setCell ⟨ob, 3, none⟩ (.slice a5 M.scr.length c5)) (some ob)) := Lib.hid ((show wr.grownBy w5 (some ob) from ⟨HB5.out.os, HB5.out.tape, HB5.out.output, HB5.out.size, fun k hk _ => HB5.out.block k hk⟩).trans (grown_set w5 ob 3 _))
      have HZ5 : Hid ((w5.setCell ⟨ob, 3, none⟩ (.slice a5 M.scr.length c5)).heap.size = w5.heap.size) := Lib.hid (by simp)
      have HK6 : Hid (∀ k, k ≠ ob → (w5.setCell ⟨ob, 3, none⟩ (.slice a5 M.scr.length c5)).heap[k]? = w5.heap[k]?) := Lib.hid fun k hk => Below.heap_setCell _ _ _ k hk
      generalize w5.setCell ⟨ob, 3, none⟩ (.slice a5 M.scr.length c5) = w6 at *
      clear q3 qf
      have HOW : Hid (w.heap.size ≤ ob) := Lib.hid (by rw [HOB.out]; exact Nat.le_refl _)
      have HBW6 := Lib.hid (HBWR.out.grown HG6.out HBWR.out.size fun k hk => by obtain rfl := Option.some.inj hk; exact HOW.out)
      have HM6 := Lib.hid (HC.out.below HBW6.out)
      have d4 := HM6.out.cells.2.2.2.2
      have HLO := Lib.hid (clone_lo (w := w6) (lo := L.lo) (n := M.n) (scr := M.scr) (K := R) (fun w' hw' => HM6.out.lost w' hw') (fun b hb => HM6.out.lt b (.inr hb)) HC.out.lor)
      go_wp2_with fail
      refine HLO.out.mono ?_
      rintro e w7 ⟨lo2, rfl, hl7, hl7b, hb7⟩
      have HBO7 := Lib.hid (HBO6.out.call hb7)
      have q4 := HBO7.out.cell (i := 4) rfl
      have qf := HBO7.out.free 4
      have HL7 := Lib.hid hl7
      have HL7B := Lib.hid hl7b
      have HB7 := Lib.hid hb7
      clear hl7 hl7b hb7 d4 HLO
      have hx8 : Bx (w7.setCell ⟨ob, 4, none⟩ (.map lo2)) ob 88 [.int .i64 M.kind, .int .i64 M.endu, .slice (some ⟨g2, 0, none⟩) L.S.length cap2, .slice a5 M.scr.length c5, .map lo2] := by
        have := HBO7.out.set 4 (.map lo2)
        rw [← HNL.out]
        exact this
      have hg8 : wr.grownBy (w7.setCell ⟨ob, 4, none⟩ (.map lo2)) (some ob) := HG6.out.trans ((show w6.grownBy w7 (some ob) from ⟨HB7.out.os, HB7.out.tape, HB7.out.output, HB7.out.size, fun k hk _ => HB7.out.block k hk⟩).trans (grown_set w7 ob 4 _))
      have hz8 : (w7.setCell ⟨ob, 4, none⟩ (.map lo2)).heap.size = w7.heap.size := by simp
      have hk8 : ∀ k, k ≠ ob → (w7.setCell ⟨ob, 4, none⟩ (.map lo2)).heap[k]? = w7.heap[k]? := fun k hk => Below.heap_setCell _ _ _ k hk
      have HFIN : Hid (CloP g M R w (.returned (.pointer (some ⟨ob, 0, none⟩))) (w7.setCell ⟨ob, 4, none⟩ (.map lo2))) := Lib.hid (by
        have hol : ob < w1.heap.size := HGO.out
        have h1g := HG2.out
        have hwl := HBWR.out.size
        have h3l := HFL.out.le.size
        have hg3 := HFL.out.lt
        have h5 := HB5.out.size
        have h6 := HZ5.out
        have h7 := HB7.out.size
        have hw1 := HA.out.size
        refine MedC.cloned HC.out HO.out HFL.out HBW3.out (by omega) ⟨HOW.out, by omega, by omega⟩ (by rw [← HNL.out]; exact HCAP.out) hx8 hg8 (b1 := wr.heap.size) (b2 := w5.heap.size) ⟨Nat.le_refl _, h5, by omega⟩ (fun wq hq => ?_) (fun wq hq => ?_) (fun b hb => ?_)
        · refine RdSc.moved HO5.out rfl fun k h1 h2 => (hq k h1 h2).trans ((hk8 k (by omega)).trans ((HB7.out.block k (by omega)).trans (HK6.out k (by omega))))
        · refine HL7.out wq fun k hk => (hq k hk).trans (hk8 k fun e => ?_)
          subst e
          rcases hk with h1 | h1
          · have := HC.out.lt k (.inr h1)
            have := HOW.out
            omega
          · have := (HL7B.out k h1).1
            omega
        · have := HL7B.out b hb
          omega)
      clear hx8 hg8 hz8 hk8
      go_wp2_with fail
      go_ret
      exact HFIN.out
end Go.Proofs.Ytpncjadhpnapnaa.D12
