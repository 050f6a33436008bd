/- Chapter 12: what a law holds of its medium; the example, plain; awake walked. -/
import Derived.Test.YtpncjadhpnapnaaGd
namespace Go.Proofs.Ytpncjadhpnapnaa.D12
open Go.RowKit Go.Maps C9
open D13 (RdI ixI is)
set_option linter.unusedVariables false

/-- a medium of the call's own -/
structure Have (w0 w : World) (g : Nat) (M : Med) (X R : Nat → Prop) : Prop where
  m : MedW w g M X R
  b : Below w0.heap.size w0 w
  x : ∀ b, X b ∨ R b → w0.heap.size ≤ b
section
variable {w0 w w' : World} {g : Nat} {M : Med} {X R X2 R2 : Nat → Prop} {Z : Int × Med} {e : Ending}
theorem Have.below (h : Have w0 w g M X R) (hb : Below w.heap.size w w') : Have w0 w' g M X R := ⟨h.m.below hb, h.b.trans (hb.mono h.b.size), h.x⟩
theorem Have.ch {M2 : Med} (h : Have w0 w g M X R) (hm : MedW w' g M2 X2 R2) (hc : Ch X R X2 R2 w w') : Have w0 w' g M2 X2 R2 :=
  ⟨hm, h.b.trans (hc.below _ h.b.size fun b hb => h.x b (.inl hb)), fun b hb => by
    have hs := h.b.size
    rcases hb with h1 | h1
    · exact (hc.x b h1).elim (fun h2 => h.x b (.inl h2)) (fun h2 => Nat.le_trans hs h2)
    · exact (hc.r b h1).elim (fun h2 => h.x b (.inr h2)) (fun h2 => Nat.le_trans hs h2)⟩
theorem WrP.have_ (hw : WrP Z g X R w e w') (h : Have w0 w g M X R) : e = .returned (.int .i64 Z.1) ∧ ∃ X2 R2, Have w0 w' g Z.2 X2 R2 ∧ Ch X R X2 R2 w w' := by
  obtain ⟨he, X2, R2, hm, hc⟩ := hw
  exact ⟨he, X2, R2, h.ch hm hc, hc⟩
theorem NewW.have_ {k n en : Nat} (h : NewW k n en w e w') : ∃ g X R, e = .returned (.tuple #[.pointer (some ⟨g, 0, none⟩), .int .i64 0]) ∧ Have w w' g (medNew k n en) X R := by
  obtain ⟨g, X, R, he, hm, hb, hx⟩ := h
  exact ⟨g, X, R, he, hm, hb, hx⟩
end
theorem Med.record_rw {M : Med} {i : Nat} (hi : i < M.n) (hk : M.kind = 2 ∨ (M.kind = 1 ∧ (M.sec i).st = 0)) {raw : List UInt8} (hr : raw.length = 2352) (hc : (M.sec i).cnt + 1 ≤ M.endu) :
    M.record (i : Nat) raw = (0, M.put i { M.sec i with st := 1, cnt := (M.sec i).cnt + 1, raw := raw, ch := fun _ => 0 }) := by
  unfold Med.record Med.write
  rw [if_pos ⟨by omega, by omega⟩, if_pos hr, Int.toNat_natCast, if_neg (by omega), if_neg (by omega), if_neg (by omega)]
theorem Med.record_worn {M : Med} {i : Nat} (hi : i < M.n) (hk : M.kind = 2) {raw : List UInt8} (hr : raw.length = 2352) (hc : M.endu < (M.sec i).cnt + 1) :
    M.record (i : Nat) raw = (16, M.put i { M.sec i with st := 3, cnt := (M.sec i).cnt + 1, raw := [], ch := fun _ => 0 }) := by
  unfold Med.record Med.write
  rw [if_pos ⟨by omega, by omega⟩, if_pos hr, Int.toNat_natCast, if_neg (by omega), if_neg (by omega), if_pos (by omega)]
/-- the example's medium -/
def exS : List UInt8 := List.replicate 2352 115
theorem exS_len : exS.length = 2352 := List.length_replicate
def exM (c : Nat) (scr : List Sc) : Med := ⟨2, 2, [⟨1, 2, exS, fun _ => false, fun _ => 0⟩, ⟨1, c, exS, fun _ => false, fun _ => 0⟩], scr⟩
theorem ex1 : (medNew 2 2 2).record 0 exS = (0, ⟨2, 2, [⟨1, 1, exS, fun _ => false, fun _ => 0⟩, blank], []⟩) := (Med.record_rw (M := medNew 2 2 2) (i := 0) (by decide) (.inl rfl) exS_len (by decide)).trans rfl
theorem ex2 : (⟨2, 2, [⟨1, 1, exS, fun _ => false, fun _ => 0⟩, blank], []⟩ : Med).record 0 exS = (0, ⟨2, 2, [⟨1, 2, exS, fun _ => false, fun _ => 0⟩, blank], []⟩) := (Med.record_rw (M := ⟨2, 2, [⟨1, 1, exS, fun _ => false, fun _ => 0⟩, blank], []⟩) (i := 0) (by decide) (.inl rfl) exS_len (by decide)).trans rfl
theorem ex3 : (⟨2, 2, [⟨1, 2, exS, fun _ => false, fun _ => 0⟩, blank], []⟩ : Med).record 1 exS = (0, exM 1 []) := (Med.record_rw (M := ⟨2, 2, [⟨1, 2, exS, fun _ => false, fun _ => 0⟩, blank], []⟩) (i := 1) (by decide) (.inl rfl) exS_len (by decide)).trans rfl
theorem ex4 : (exM 1 []).scratch [⟨0, 17⟩] = (0, exM 1 [⟨0, 17⟩]) := by
  unfold Med.scratch
  rw [if_neg (by decide), if_neg (by decide)]
  rfl
theorem ex_lost : lostN [⟨0, 17⟩] 196 = [0, 1, 2, 3, 4] := by kernel_rfl
theorem ex_lostP (i k : Nat) : lostP 2 [⟨0, 17⟩] i k = decide (2352 * i + k < 5) := by
  unfold lostP lostL
  rw [show 98 * 2 = 196 from rfl, ex_lost]
  rw [decide_eq_decide]
  simp only [List.mem_cons, List.not_mem_nil, or_false]
  omega
theorem ex_goneP (i k : Nat) (hi : i < 2) : (exM 1 [⟨0, 17⟩]).goneP i k = decide (2352 * i + k < 5) := by
  unfold Med.goneP
  have h1 : ((exM 1 [⟨0, 17⟩]).sec i).er k = false := by
    rcases i with _ | _ | i
    · rfl
    · rfl
    · omega
  rw [h1, Bool.false_or]
  exact ex_lostP i k
theorem ex_gone0 : (exM 1 [⟨0, 17⟩]).gone 0 = [0, 1, 2, 3, 4] := by
  refine sorted_eq (gone_sorted _ _) (by decide) fun z => ?_
  rw [mem_gone]
  simp only [List.mem_cons, List.not_mem_nil, or_false]
  constructor
  · rintro ⟨k, h1, h2, rfl⟩
    rw [ex_goneP _ _ (by omega)] at h2
    have := of_decide_eq_true h2
    omega
  · intro h
    refine ⟨z.toNat, by omega, ?_, by omega⟩
    rw [ex_goneP _ _ (by omega)]
    exact decide_eq_true (by omega)
theorem ex_gone1 : (exM 1 [⟨0, 17⟩]).gone 1 = [] := by
  rw [List.eq_nil_iff_forall_not_mem]
  intro z hz
  obtain ⟨k, h1, h2, _⟩ := (mem_gone _ _ _).1 hz
  rw [ex_goneP _ _ (by omega)] at h2
  have := of_decide_eq_true h2
  omega
theorem ex_out : (exM 1 [⟨0, 17⟩]).out 0 = [0, 0, 0, 0, 0] ++ exS.drop 5 := by
  unfold Med.out
  apply List.ext_getElem?
  intro k
  by_cases hk : k < 2352
  · rw [List.getElem?_map, List.getElem?_range hk, Option.map_some, ex_goneP _ _ (by omega)]
    by_cases h5 : k < 5
    · rw [if_pos (decide_eq_true (by omega)), List.getElem?_append_left (by simp; omega)]
      have : k = 0 ∨ k = 1 ∨ k = 2 ∨ k = 3 ∨ k = 4 := by omega
      rcases this with rfl | rfl | rfl | rfl | rfl <;> rfl
    · rw [if_neg (by rw [decide_eq_true_eq]; omega), List.getElem?_append_right (by simp; omega), List.getElem?_drop]
      have e : 5 + (k - [(0 : UInt8), 0, 0, 0, 0].length) = k := by simp; omega
      rw [e]
      show some (byteA exS k ^^^ 0) = _
      have : exS[k]? = some (byteA exS k) := by
        unfold byteA atD
        rw [List.getElem?_eq_getElem (by rw [exS_len]; exact hk)]
        rfl
      rw [this]
      simp
  · rw [List.getElem?_eq_none (by simpa using hk), List.getElem?_eq_none (by simp [exS_len]; omega)]
theorem ex_read : (exM 1 [⟨0, 17⟩]).readR 0 = ([0, 0, 0, 0, 0] ++ exS.drop 5, [0, 1, 2, 3, 4], 0) := by
  unfold Med.readR
  rw [if_pos ⟨by omega, by decide⟩, if_neg (by decide), if_pos (by decide)]
  show ((exM 1 [⟨0, 17⟩]).out 0, (exM 1 [⟨0, 17⟩]).gone 0, (0 : Int)) = _
  rw [ex_out, ex_gone0]
theorem ex_clean : (exM 1 [⟨0, 17⟩]).cleanR 1 = true := cleanR_true ⟨⟨by omega, by decide⟩, rfl, ex_gone1, fun _ _ => rfl⟩
theorem ex_state : (exM 1 [⟨0, 17⟩]).stateR 0 = (1, 0) := rfl
theorem ex5 : ((exM 1 [⟨0, 17⟩]).record 0 exS).1 = 16 := congrArg Prod.fst (Med.record_worn (M := exM 1 [⟨0, 17⟩]) (i := 0) (by decide) rfl exS_len (by decide))
theorem ok_new2 : (medNew 2 2 2).Ok 0 := medNew_ok (by decide) (by decide) (by decide)
theorem repeatL12 (c : UInt8) : ∀ n, Lib.repeatL [c] n = List.replicate n c
  | 0 => rfl
  | n + 1 => by rw [Lib.repeatL, repeatL12 c n, List.replicate_succ]; rfl
/-- 'strings.Repeat' of one byte -/
theorem repeat12 (c : UInt8) (n : Nat) (hn : n ≤ 1000000) (W : World) : Calls Try.prog 9 #[.string ⟨#[c]⟩, .int .i64 (n : Nat)] W fun e w' => e = .returned (.string (str (List.replicate n c))) ∧ Below W.heap.size W w' := by
  have h := Try.strings_Repeat (⟨#[c]⟩ : ByteArray) n W (by omega) (by simp [ByteArray.size]; omega)
  have e : (⟨(Lib.repeatL (⟨#[c]⟩ : ByteArray).data.toList n).toArray⟩ : ByteArray) = str (List.replicate n c) := by
    have h : (⟨#[c]⟩ : ByteArray).data.toList = [c] := rfl
    rw [h, repeatL12]
    rfl
  rw [e] at h
  exact h
/-- slices.Equal of two lists -/
theorem equal12 {w : World} {v1 v2 : Value} {l m : List Int} (h1 : RdI w v1 l) (h2 : RdI w v2 m) :
    Calls Try.prog 16 #[v1, v2] w fun e w' => e = .returned (.bool (decide (l = m))) ∧ Below w.heap.size w w' := by
  obtain ⟨k1, ⟨a1, c1, b1, o1, rfl, _, hc1⟩, _⟩ := h1
  obtain ⟨k2, ⟨a2, c2, b2, o2, rfl, _, hc2⟩, _⟩ := h2
  by_cases hl : l.length = m.length
  · by_cases h0 : l.length = 0
    · have e1 := List.length_eq_zero_iff.1 h0
      have e2 : m = [] := List.length_eq_zero_iff.1 (hl ▸ h0)
      subst e1 e2
      refine (Try.slices_Equal_int_empty a1 a2 c1 0 c2 w (by omega)).mono ?_
      rintro e w' ⟨rfl, rfl⟩
      exact ⟨by simp, Below.refl _ _⟩
    · obtain ⟨rfl, _⟩ := hc1 0 (by omega)
      obtain ⟨rfl, _⟩ := hc2 0 (by omega)
      refine (Try.slices_Equal_int b1 o1 l.length c1 b2 o2 m.length c2 l m w (Nat.le_refl _) (Nat.le_refl _) (by omega) (by omega) (fun j hj => (hc1 j hj).2) (fun j hj => (hc2 j hj).2)).mono ?_
      rintro e w' ⟨rfl, q, rfl⟩
      exact ⟨by
        rw [List.take_length, List.take_length]
        by_cases e : l = m <;> simp [e], Below.drewN (Below.refl _ _) q⟩
  · refine (Try.slices_Equal_int_lens a1 a2 l.length c1 m.length c2 w hl).mono ?_
    rintro e w' ⟨rfl, rfl⟩
    have : ¬ l = m := fun e => hl (by rw [e])
    exact ⟨by simp [this], Below.refl _ _⟩
end Go.Proofs.Ytpncjadhpnapnaa.D12
