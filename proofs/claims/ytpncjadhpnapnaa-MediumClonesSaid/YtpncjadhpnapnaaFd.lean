/- Chapter 12: the recording of a sector walked. -/
import Derived.Test.YtpncjadhpnapnaaFc
namespace Go.Proofs.Ytpncjadhpnapnaa.D12
open Go.RowKit Go.Maps C9
open D13 (RdI)
set_option linter.unusedVariables false

/-- what a call ends with that answers with an error and turns the medium -/
def WrP (Z : Int × Med) (g : Nat) (X R : Nat → Prop) (w : World) (e : Ending) (w' : World) : Prop := e = .returned (.int .i64 Z.1) ∧ ∃ X2 R2, MedW w' g Z.2 X2 R2 ∧ Ch X R X2 R2 w w'
section
variable {X R : Nat → Prop} {w w' : World} {g : Nat} {L : Lay} {M : Med}
/-- a cell is stored that names no new map -/
theorem MedC.store0 (h : MedC w g L M X R) {i j : Nat} (hi : i < L.S.length) (hj : j < 5) (u : Value) (x : SM) (hx : smD x = (smD (atD sm0 L.S i)).set j u)
    (hW : ∀ p, x.W w p) (hb : ∀ p b, x.bk p = some b → (atD sm0 L.S i).bk p = some b) :
    MedC (w.setCell ⟨L.gs, i * 5 + j, none⟩ u) g { L with S := L.S.set i x } (M.put i x.s) X R ∧ Ch X R X R w (w.setCell ⟨L.gs, i * 5 + j, none⟩ u) := by
  have h1 := h.store hi hj u x hx hW (fun p b hp => .inl (hb p b hp)) (fun b h1 h2 => by
    have := h.inj i i true false b hi hi (hb true b h1) (hb false b h2)
    simp at this)
  have e : (fun b => X b ∨ x.e = some b ∨ x.c = some b) = X := by
    funext b
    refine propext ⟨?_, .inl⟩
    rintro (h2 | h2 | h2)
    · exact h2
    · exact h.xm i true b hi (hb true b h2)
    · exact h.xm i false b hi (hb false b h2)
  rw [e] at h1
  refine ⟨h1, rfl, rfl, rfl, by simp, fun b hb hX => Below.heap_setCell w _ _ b fun e => hX (e ▸ h.xs), fun _ h => .inl h, fun _ h => .inl h⟩
end
theorem Med.put_put (M : Med) (i : Nat) (s t : Sec) : (M.put i s).put i t = M.put i t := by simp [Med.put]
/-- the stores of a recording: count, changes, state, bytes -/
theorem MedC.rec4 {X R : Nat → Prop} {w : World} {g : Nat} {L : Lay} {M : Med} (h : MedC w g L M X R) {i : Nat} (hi : i < L.S.length) (st : Nat) (raw : List UInt8) :
    ∃ w4 L4, w4 = ((((w.setCell ⟨L.gs, i * 5 + 1, none⟩ (.int .i64 ((M.sec i).cnt + 1))).setCell ⟨L.gs, i * 5 + 4, none⟩ (.map none)).setCell ⟨L.gs, i * 5, none⟩ (.int .i64 st)).setCell ⟨L.gs, i * 5 + 2, none⟩ (.string (str raw))) ∧ MedC w4 g L4 (M.put i { M.sec i with st := st, cnt := (M.sec i).cnt + 1, raw := raw, ch := fun _ => 0 }) X R ∧
      L4.gs = L.gs ∧ L4.S.length = L.S.length ∧ Ch X R X R w w4 := by
  obtain ⟨x, hx⟩ : ∃ x, x = atD sm0 L.S i := ⟨_, rfl⟩
  have hs : x.s = M.sec i := by rw [hx]; exact h.at_ i
  have hm := fun p => h.maps i p hi
  rw [← hx] at hm
  have k1 := h.store0 hi (j := 1) (by decide) (.int .i64 ((M.sec i).cnt + 1)) { x with s := { x.s with cnt := (M.sec i).cnt + 1 } } (by rw [← hx]; rfl) (fun p => by have := hm p; cases p <;> exact this) (fun p b hp => by rw [← hx]; cases p <;> exact hp)
  obtain ⟨h1, c1⟩ := k1
  have k2 := h1.store0 (i := i) (by simpa using hi) (j := 4) (by decide) (.map none) { x with s := { x.s with cnt := (M.sec i).cnt + 1, ch := fun _ => 0 }, c := none } (by rw [atD_set_eq _ _ _ hi]; rfl) (fun p => by cases p with
    | true =>
      have := h1.maps i true (by simpa using hi)
      simp only [atD_set_eq _ _ _ hi] at this
      exact this
    | false => exact fun _ => rfl) (fun p b hp => by simp only [atD_set_eq _ _ _ hi]; cases p with
    | true => exact hp
    | false => simp [SM.bk] at hp)
  obtain ⟨h2, c2⟩ := k2
  simp only [List.set_set, Med.put_put] at h2
  have k3 := h2.store0 (i := i) (by simpa using hi) (j := 0) (by decide) (.int .i64 st) { x with s := { x.s with st := st, cnt := (M.sec i).cnt + 1, ch := fun _ => 0 }, c := none } (by rw [atD_set_eq _ _ _ hi]; rfl) (fun p => by cases p with
    | true =>
      have := h2.maps i true (by simpa using hi)
      simp only [atD_set_eq _ _ _ hi] at this
      exact this
    | false => exact fun _ => rfl) (fun p b hp => by simp only [atD_set_eq _ _ _ hi]; cases p with
    | true => exact hp
    | false => simp [SM.bk] at hp)
  obtain ⟨h3, c3⟩ := k3
  simp only [List.set_set, Med.put_put] at h3
  have k4 := h3.store0 (i := i) (by simpa using hi) (j := 2) (by decide) (.string (str raw)) { x with s := { x.s with st := st, cnt := (M.sec i).cnt + 1, raw := raw, ch := fun _ => 0 }, c := none } (by rw [atD_set_eq _ _ _ hi]; rfl) (fun p => by cases p with
    | true =>
      have := h3.maps i true (by simpa using hi)
      simp only [atD_set_eq _ _ _ hi] at this
      exact this
    | false => exact fun _ => rfl) (fun p b hp => by simp only [atD_set_eq _ _ _ hi]; cases p with
    | true => exact hp
    | false => simp [SM.bk] at hp)
  obtain ⟨h4, c4⟩ := k4
  simp only [List.set_set, Med.put_put, hs] at h4
  exact ⟨_, _, rfl, h4, rfl, by simp, ((c1.trans c2).trans c3).trans c4⟩
/-- state and bytes are stored -/
theorem MedC.rec2 {X R : Nat → Prop} {w : World} {g : Nat} {L : Lay} {M : Med} (h : MedC w g L M X R) {i : Nat} (hi : i < L.S.length) (st : Nat) (raw : List UInt8) :
    ∃ w4 L4, w4 = (w.setCell ⟨L.gs, i * 5, none⟩ (.int .i64 st)).setCell ⟨L.gs, i * 5 + 2, none⟩ (.string (str raw)) ∧ MedC w4 g L4 (M.put i { M.sec i with st := st, raw := raw }) X R ∧ L4.gs = L.gs ∧ L4.S.length = L.S.length ∧ Ch X R X R w w4 := by
  obtain ⟨x, hx⟩ : ∃ x, x = atD sm0 L.S i := ⟨_, rfl⟩
  have hs : x.s = M.sec i := by rw [hx]; exact h.at_ i
  have hm := fun p => h.maps i p hi
  rw [← hx] at hm
  have k1 := h.store0 hi (j := 0) (by decide) (.int .i64 st) { x with s := { x.s with st := st } } (by rw [← hx]; rfl) (fun p => by have := hm p; cases p <;> exact this) (fun p b hp => by rw [← hx]; cases p <;> exact hp)
  obtain ⟨h1, c1⟩ := k1
  have hm1 := fun p => h1.maps i p (by simpa using hi)
  simp only [atD_set_eq _ _ _ hi] at hm1
  have k2 := h1.store0 (i := i) (by simpa using hi) (j := 2) (by decide) (.string (str raw)) { x with s := { x.s with st := st, raw := raw } } (by rw [atD_set_eq _ _ _ hi]; rfl) (fun p => by have := hm1 p; cases p <;> exact this) (fun p b hp => by simp only [atD_set_eq _ _ _ hi]; cases p <;> exact hp)
  obtain ⟨h2, c2⟩ := k2
  simp only [List.set_set, Med.put_put, hs] at h2
  exact ⟨_, _, rfl, h2, rfl, by simp, c1.trans c2⟩
set_option maxRecDepth 100000 in
set_option maxHeartbeats 2000000 in
theorem write12 {w : World} {g : Nat} {L : Lay} {M : Med} {X R : Nat → Prop} (h : MedC w g L M X R) (hn : M.n ≤ 4096) {i : Nat} (hi : i < M.n) (hc : (M.sec i).cnt ≤ 4611686018427387904) (hse : M.endu ≤ 1048576) (hk : M.kind ≤ 2) (hs : (M.sec i).st ≤ 3) (st : Nat) (hst : st ≤ 3) (raw : List UInt8) :
    Calls Try.prog 39 #[.pointer (some ⟨g, 0, none⟩), .int .i64 i, .int .i64 st, .string (str raw)] w (WrP (M.write i st raw) g X R w) := by
  obtain ⟨c0, c1, c2, c3, c4⟩ := h.cells
  have e := h.n
  have hiL : i < L.S.length := by omega
  have s0 := h.surf hiL (j := 0) (by decide)
  have s1 := h.surf hiL (j := 1) (by decide)
  have s2 := h.surf hiL (j := 2) (by decide)
  have s4 := h.surf hiL (j := 4) (by decide)
  simp only [smD, List.getElem?_cons_zero, List.getElem?_cons_succ, h.at_, Nat.add_zero] at s0 s1 s2 s4
  have f := h.sec.free
  rw [e] at c2
  unfold Med.write
  by_cases hk0 : M.kind = 0
  · rw [if_pos hk0]
    have HH := Lib.hid h
    have q : ((M.kind : Int) == 0) = true := by rw [hk0]; rfl
    clear h f s0 s1 c3 c4
    generalize M.n = n at *
    go_enter Try.func39, Try.ntmps39
    go_wp2_with fail
    go_ret
    exact ⟨rfl, X, R, ⟨L, HH.out⟩, .refl⟩
  · rw [if_neg hk0]
    have q0 : ((M.kind : Int) == 0) = false := by rw [beq_eq_false_iff_ne]; omega
    by_cases hk1 : M.kind = 1 ∧ (M.sec i).st ≠ 0
    · rw [if_pos hk1]
      have HH := Lib.hid h
      have q1 : ((M.kind : Int) == 1) = true := by rw [hk1.1]; rfl
      have q2 : (((M.sec i).st : Int) == 0) = false := by rw [beq_eq_false_iff_ne]; omega
      clear h f s1 c3 c4 hk1
      generalize M.n = n at *
      go_enter Try.func39, Try.ntmps39
      go_wp2_with fail
      go_ret
      exact ⟨rfl, X, R, ⟨L, HH.out⟩, .refl⟩
    · rw [if_neg hk1]
      obtain ⟨w4, L4, hw4, h4, e4, l4, ch4⟩ := h.rec4 hiL st raw
      have hW4 := Lib.hid hw4
      clear hw4
      have f1 := f (i * 5 + 1)
      have f4 := f (i * 5 + 4)
      have f0 := f (i * 5)
      have f2 := f (i * 5 + 2)
      have d1 := h4.surf (i := i) (by omega) (j := 1) (by decide)
      simp only [smD, List.getElem?_cons_zero, List.getElem?_cons_succ, h4.at_, Med.put_sec _ _ hi, e4] at d1
      have d2 := h4.cells.2.1
      change w4.cell? ⟨g, 1, none⟩ = some (.int .i64 M.endu) at d2
      have d3 : ((((M.sec i).cnt + 1 : Nat)) : Int) = (M.sec i).cnt + 1 := rfl
      rw [d3] at d1
      have H4 := Lib.hid h4
      have C4 := Lib.hid ch4
      have E4 := Lib.hid e4
      have LE := Lib.hid l4
      have hkk : ((M.kind : Int) == 1) = false ∨ (((M.kind : Int) == 1) = true ∧ (((M.sec i).st : Int) == 0) = true) := by
        by_cases e1 : M.kind = 1
        · right; rw [beq_iff_eq, beq_iff_eq]; exact ⟨by omega, by have : ¬ (M.sec i).st ≠ 0 := fun h2 => hk1 ⟨e1, h2⟩; omega⟩
        · left; rw [beq_eq_false_iff_ne]; omega
      clear h f c3 c4 hk1 h4 ch4 e4 l4
      have HE := Lib.hid e
      clear e
      have hi2 : i < L.S.length := hiL
      generalize hMn : M.n = n at *
      by_cases hw : (M.sec i).cnt + 1 > M.endu
      · rw [if_pos hw]
        have hwI : (M.endu : Int) < ((M.sec i).cnt : Int) + 1 := by omega
        have hwB : decide ((M.endu : Int) < ((M.sec i).cnt : Int) + 1) = true := decide_eq_true hwI
        rcases hkk with q1 | ⟨q1, q2⟩
        all_goals
          go_enter Try.func39, Try.ntmps39
          go_wp2_with fail
          rw [← hW4.out]
          go_quiet (fail)
          have h5 := H4.out.below (Below.drewN (Below.refl w4.heap.size w4) nq)
          have C5 := Lib.hid (C4.out.trans (Ch.of (X := X) (R := R) (Below.drewN (Below.refl w4.heap.size w4) nq)))
          generalize w4.drewN nq = w5 at *
          obtain ⟨w6, L6, hw6, h6, e6, l6, ch6⟩ := h5.rec2 (i := i) (by rw [LE.out]; exact hiL) 3 []
          rw [E4.out] at hw6
          subst hw6
          have g0 := h5.sec.free (i * 5)
          have g2 := h5.sec.free (i * 5 + 2)
          rw [E4.out] at g0 g2
          have m0 := h5.surf (i := i) (by rw [LE.out]; exact hiL) (j := 0) (by decide)
          have m2 := h5.surf (i := i) (by rw [LE.out]; exact hiL) (j := 2) (by decide)
          simp only [smD, List.getElem?_cons_zero, List.getElem?_cons_succ, Nat.add_zero, E4.out] at m0 m2
          simp only [Med.put_put, Med.put_sec M _ (show i < M.n by omega)] at h6
          change MedC ((w5.setCell ⟨L.gs, i * 5, none⟩ (.int .i64 3)).setCell ⟨L.gs, i * 5 + 2, none⟩ (.string ⟨#[]⟩)) _ _ _ _ _ at h6
          have H6 := Lib.hid h6
          have c6 := C5.out.trans ch6
          change Ch X R X R w ((w5.setCell ⟨L.gs, i * 5, none⟩ (.int .i64 3)).setCell ⟨L.gs, i * 5 + 2, none⟩ (.string ⟨#[]⟩)) at c6
          have C6 := Lib.hid c6
          clear h5 h6 ch6 c6 e6 l6
          go_wp2_with fail
          go_ret
          exact ⟨rfl, X, R, ⟨L6, H6.out⟩, C6.out⟩
      · rw [if_neg hw]
        have hwI : ¬ (M.endu : Int) < ((M.sec i).cnt : Int) + 1 := by omega
        have hwB : decide ((M.endu : Int) < ((M.sec i).cnt : Int) + 1) = false := decide_eq_false hwI
        rcases hkk with q1 | ⟨q1, q2⟩
        all_goals
          go_enter Try.func39, Try.ntmps39
          go_wp2_with fail
          rw [← hW4.out]
          go_quiet (fail)
          have h5 := H4.out.below (Below.drewN (Below.refl w4.heap.size w4) nq)
          have C5 := Lib.hid (C4.out.trans (Ch.of (X := X) (R := R) (Below.drewN (Below.refl w4.heap.size w4) nq)))
          generalize w4.drewN nq = w5 at *
          have H5 := Lib.hid h5
          clear h5
          go_wp2_with fail
          go_ret
          exact ⟨rfl, X, R, ⟨L4, H5.out⟩, C5.out⟩
end Go.Proofs.Ytpncjadhpnapnaa.D12
