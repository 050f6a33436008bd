/- Chapter 12: the maps of a sector: made and stored to. -/
import Derived.Test.YtpncjadhpnapnaaMq01
/- Chapter 12: the small functions of a medium walked. -/
namespace Go.Proofs.Ytpncjadhpnapnaa.D12
open Go.RowKit Go.Maps C9
open D13 (RdI)
set_option linter.unusedVariables false

theorem retB12 {a b : Bool} (h : a = b) : (Ending.returned (.bool a)) = .returned (.bool b) := by rw [h]
set_option maxRecDepth 100000 in
set_option maxHeartbeats 1000000 in
theorem has12 {w : World} {g : Nat} {L : Lay} {M : Med} {X R : Nat → Prop} (h : MedC w g L M X R) (hn : M.n ≤ 4096) (b : Int) :
    Calls Try.prog 38 #[.pointer (some ⟨g, 0, none⟩), .int .i64 b] w fun e w' => e = .returned (.bool (decide (0 ≤ b ∧ b < M.n))) ∧ w = w' := by
  obtain ⟨c0, c1, c2, c3, c4⟩ := h.cells
  have e := h.n
  rw [e] at c2
  generalize M.n = n at *
  clear h e
  by_cases h0 : 0 ≤ b
  · by_cases h1 : b < (n : Int)
    · rw [decide_eq_true ⟨h0, h1⟩]
      go_enter Try.func38, Try.ntmps38
      go_wp2_with fail
      go_ret
      exact ⟨retB12 (by simp), rfl⟩
    · rw [decide_eq_false fun e => h1 e.2]
      go_enter Try.func38, Try.ntmps38
      go_wp2_with fail
      go_ret
      exact ⟨retB12 (by simp), rfl⟩
  · rw [decide_eq_false fun e => h0 e.1]
    go_enter Try.func38, Try.ntmps38
    go_wp2_with fail
    go_ret
    exact ⟨retB12 (by simp), rfl⟩
def RetQ (v : Value) (w : World) (e : Ending) (w' : World) : Prop := e = .returned v ∧ Below w.heap.size w w'
set_option maxRecDepth 100000 in
set_option maxHeartbeats 1000000 in
theorem state12 {w : World} {g : Nat} {M : Med} {X R : Nat → Prop} (h : MedW w g M X R) (hn : M.n ≤ 4096) (b : Int) :
    Calls Try.prog 19 #[.pointer (some ⟨g, 0, none⟩), .int .i64 b] w (RetQ (.tuple #[.int .i64 (M.stateR b).1, .int .i64 (M.stateR b).2]) w) := by
  obtain ⟨L, h⟩ := h
  obtain ⟨c0, c1, c2, c3, c4⟩ := h.cells
  have HH := Lib.hid (has12 h hn b)
  have e := h.n
  have HS := Lib.hid h
  rw [e] at c2
  clear h
  unfold Med.stateR
  by_cases hr : 0 ≤ b ∧ b < (M.n : Int)
  · rw [if_pos hr]
    rw [decide_eq_true hr] at HH
    obtain ⟨k, rfl⟩ : ∃ k : Nat, b = k := ⟨b.toNat, by omega⟩
    have hk : k < M.n := by omega
    have s0 := HS.out.surf (i := k) (j := 0) (by omega) (by decide)
    simp only [smD, List.getElem?_cons_zero, HS.out.at_, Nat.add_zero] at s0
    have e1 : ((k : Int)).toNat = k := by simp
    rw [e1]
    generalize M.n = n at *
    generalize L.gs = gs at *
    clear hr HS e
    go_enter Try.func19, Try.ntmps19
    go_wp2_with fail
    refine HH.out.mono ?_
    rintro e w' ⟨rfl, rfl⟩
    go_wp2_with fail
    go_ret2
    exact ⟨rfl, Below.refl _ _⟩
  · rw [if_neg hr]
    rw [decide_eq_false hr] at HH
    clear hr
    go_enter Try.func19, Try.ntmps19
    go_wp2_with fail
    refine HH.out.mono ?_
    rintro e w' ⟨rfl, rfl⟩
    go_wp2_with fail
    go_ret2
    exact ⟨rfl, Below.refl _ _⟩
end Go.Proofs.Ytpncjadhpnapnaa.D12
/- Chapter 12: the recording of a sector walked. -/
namespace Go.Proofs.Ytpncjadhpnapnaa.D12
open Go.RowKit Go.Maps C9
open D13 (RdI)
set_option linter.unusedVariables false

/-- what a call ends with that answers with an error and turns the medium -/
def WrP (Z : Int × Med) (g : Nat) (X R : Nat → Prop) (w : World) (e : Ending) (w' : World) : Prop := e = .returned (.int .i64 Z.1) ∧ ∃ X2 R2, MedW w' g Z.2 X2 R2 ∧ Ch X R X2 R2 w w'
section
variable {X R : Nat → Prop} {w w' : World} {g : Nat} {L : Lay} {M : Med}
/-- a cell is stored that names no new map -/
theorem MedC.store0 (h : MedC w g L M X R) {i j : Nat} (hi : i < L.S.length) (hj : j < 5) (u : Value) (x : SM) (hx : smD x = (smD (atD sm0 L.S i)).set j u)
    (hW : ∀ p, x.W w p) (hb : ∀ p b, x.bk p = some b → (atD sm0 L.S i).bk p = some b) :
    MedC (w.setCell ⟨L.gs, i * 5 + j, none⟩ u) g { L with S := L.S.set i x } (M.put i x.s) X R ∧ Ch X R X R w (w.setCell ⟨L.gs, i * 5 + j, none⟩ u) := by
  have h1 := h.store hi hj u x hx hW (fun p b hp => .inl (hb p b hp)) (fun b h1 h2 => by
    have := h.inj i i true false b hi hi (hb true b h1) (hb false b h2)
    simp at this)
  have e : (fun b => X b ∨ x.e = some b ∨ x.c = some b) = X := by
    funext b
    refine propext ⟨?_, .inl⟩
    rintro (h2 | h2 | h2)
    · exact h2
    · exact h.xm i true b hi (hb true b h2)
    · exact h.xm i false b hi (hb false b h2)
  rw [e] at h1
  refine ⟨h1, rfl, rfl, rfl, by simp, fun b hb hX => Below.heap_setCell w _ _ b fun e => hX (e ▸ h.xs), fun _ h => .inl h, fun _ h => .inl h⟩
end
theorem Med.put_put (M : Med) (i : Nat) (s t : Sec) : (M.put i s).put i t = M.put i t := by simp [Med.put]
/-- the stores of a recording: count, changes, state, bytes -/
theorem MedC.rec4 {X R : Nat → Prop} {w : World} {g : Nat} {L : Lay} {M : Med} (h : MedC w g L M X R) {i : Nat} (hi : i < L.S.length) (st : Nat) (raw : List UInt8) :
    ∃ w4 L4, w4 = ((((w.setCell ⟨L.gs, i * 5 + 1, none⟩ (.int .i64 ((M.sec i).cnt + 1))).setCell ⟨L.gs, i * 5 + 4, none⟩ (.map none)).setCell ⟨L.gs, i * 5, none⟩ (.int .i64 st)).setCell ⟨L.gs, i * 5 + 2, none⟩ (.string (str raw))) ∧ MedC w4 g L4 (M.put i { M.sec i with st := st, cnt := (M.sec i).cnt + 1, raw := raw, ch := fun _ => 0 }) X R ∧
      L4.gs = L.gs ∧ L4.S.length = L.S.length ∧ Ch X R X R w w4 := by
  obtain ⟨x, hx⟩ : ∃ x, x = atD sm0 L.S i := ⟨_, rfl⟩
  have hs : x.s = M.sec i := by rw [hx]; exact h.at_ i
  have hm := fun p => h.maps i p hi
  rw [← hx] at hm
  have k1 := h.store0 hi (j := 1) (by decide) (.int .i64 ((M.sec i).cnt + 1)) { x with s := { x.s with cnt := (M.sec i).cnt + 1 } } (by rw [← hx]; rfl) (fun p => by have := hm p; cases p <;> exact this) (fun p b hp => by rw [← hx]; cases p <;> exact hp)
  obtain ⟨h1, c1⟩ := k1
  have k2 := h1.store0 (i := i) (by simpa using hi) (j := 4) (by decide) (.map none) { x with s := { x.s with cnt := (M.sec i).cnt + 1, ch := fun _ => 0 }, c := none } (by rw [atD_set_eq _ _ _ hi]; rfl) (fun p => by cases p with
    | true =>
      have := h1.maps i true (by simpa using hi)
      simp only [atD_set_eq _ _ _ hi] at this
      exact this
    | false => exact fun _ => rfl) (fun p b hp => by simp only [atD_set_eq _ _ _ hi]; cases p with
    | true => exact hp
    | false => simp [SM.bk] at hp)
  obtain ⟨h2, c2⟩ := k2
  simp only [List.set_set, Med.put_put] at h2
  have k3 := h2.store0 (i := i) (by simpa using hi) (j := 0) (by decide) (.int .i64 st) { x with s := { x.s with st := st, cnt := (M.sec i).cnt + 1, ch := fun _ => 0 }, c := none } (by rw [atD_set_eq _ _ _ hi]; rfl) (fun p => by cases p with
    | true =>
      have := h2.maps i true (by simpa using hi)
      simp only [atD_set_eq _ _ _ hi] at this
      exact this
    | false => exact fun _ => rfl) (fun p b hp => by simp only [atD_set_eq _ _ _ hi]; cases p with
    | true => exact hp
    | false => simp [SM.bk] at hp)
  obtain ⟨h3, c3⟩ := k3
  simp only [List.set_set, Med.put_put] at h3
  have k4 := h3.store0 (i := i) (by simpa using hi) (j := 2) (by decide) (.string (str raw)) { x with s := { x.s with st := st, cnt := (M.sec i).cnt + 1, raw := raw, ch := fun _ => 0 }, c := none } (by rw [atD_set_eq _ _ _ hi]; rfl) (fun p => by cases p with
    | true =>
      have := h3.maps i true (by simpa using hi)
      simp only [atD_set_eq _ _ _ hi] at this
      exact this
    | false => exact fun _ => rfl) (fun p b hp => by simp only [atD_set_eq _ _ _ hi]; cases p with
    | true => exact hp
    | false => simp [SM.bk] at hp)
  obtain ⟨h4, c4⟩ := k4
  simp only [List.set_set, Med.put_put, hs] at h4
  exact ⟨_, _, rfl, h4, rfl, by simp, ((c1.trans c2).trans c3).trans c4⟩
/-- state and bytes are stored -/
theorem MedC.rec2 {X R : Nat → Prop} {w : World} {g : Nat} {L : Lay} {M : Med} (h : MedC w g L M X R) {i : Nat} (hi : i < L.S.length) (st : Nat) (raw : List UInt8) :
    ∃ w4 L4, w4 = (w.setCell ⟨L.gs, i * 5, none⟩ (.int .i64 st)).setCell ⟨L.gs, i * 5 + 2, none⟩ (.string (str raw)) ∧ MedC w4 g L4 (M.put i { M.sec i with st := st, raw := raw }) X R ∧ L4.gs = L.gs ∧ L4.S.length = L.S.length ∧ Ch X R X R w w4 := by
  obtain ⟨x, hx⟩ : ∃ x, x = atD sm0 L.S i := ⟨_, rfl⟩
  have hs : x.s = M.sec i := by rw [hx]; exact h.at_ i
  have hm := fun p => h.maps i p hi
  rw [← hx] at hm
  have k1 := h.store0 hi (j := 0) (by decide) (.int .i64 st) { x with s := { x.s with st := st } } (by rw [← hx]; rfl) (fun p => by have := hm p; cases p <;> exact this) (fun p b hp => by rw [← hx]; cases p <;> exact hp)
  obtain ⟨h1, c1⟩ := k1
  have hm1 := fun p => h1.maps i p (by simpa using hi)
  simp only [atD_set_eq _ _ _ hi] at hm1
  have k2 := h1.store0 (i := i) (by simpa using hi) (j := 2) (by decide) (.string (str raw)) { x with s := { x.s with st := st, raw := raw } } (by rw [atD_set_eq _ _ _ hi]; rfl) (fun p => by have := hm1 p; cases p <;> exact this) (fun p b hp => by simp only [atD_set_eq _ _ _ hi]; cases p <;> exact hp)
  obtain ⟨h2, c2⟩ := k2
  simp only [List.set_set, Med.put_put, hs] at h2
  exact ⟨_, _, rfl, h2, rfl, by simp, c1.trans c2⟩
set_option maxRecDepth 100000 in
set_option maxHeartbeats 2000000 in
theorem write12 {w : World} {g : Nat} {L : Lay} {M : Med} {X R : Nat → Prop} (h : MedC w g L M X R) (hn : M.n ≤ 4096) {i : Nat} (hi : i < M.n) (hc : (M.sec i).cnt ≤ 4611686018427387904) (hse : M.endu ≤ 1048576) (hk : M.kind ≤ 2) (hs : (M.sec i).st ≤ 3) (st : Nat) (hst : st ≤ 3) (raw : List UInt8) :
    Calls Try.prog 39 #[.pointer (some ⟨g, 0, none⟩), .int .i64 i, .int .i64 st, .string (str raw)] w (WrP (M.write i st raw) g X R w) := by
  obtain ⟨c0, c1, c2, c3, c4⟩ := h.cells
  have e := h.n
  have hiL : i < L.S.length := by omega
  have s0 := h.surf hiL (j := 0) (by decide)
  have s1 := h.surf hiL (j := 1) (by decide)
  have s2 := h.surf hiL (j := 2) (by decide)
  have s4 := h.surf hiL (j := 4) (by decide)
  simp only [smD, List.getElem?_cons_zero, List.getElem?_cons_succ, h.at_, Nat.add_zero] at s0 s1 s2 s4
  have f := h.sec.free
  rw [e] at c2
  unfold Med.write
  by_cases hk0 : M.kind = 0
  · rw [if_pos hk0]
    have HH := Lib.hid h
    have q : ((M.kind : Int) == 0) = true := by rw [hk0]; rfl
    clear h f s0 s1 c3 c4
    generalize M.n = n at *
    go_enter Try.func39, Try.ntmps39
    go_wp2_with fail
    go_ret
    exact ⟨rfl, X, R, ⟨L, HH.out⟩, .refl⟩
  · rw [if_neg hk0]
    have q0 : ((M.kind : Int) == 0) = false := by rw [beq_eq_false_iff_ne]; omega
    by_cases hk1 : M.kind = 1 ∧ (M.sec i).st ≠ 0
    · rw [if_pos hk1]
      have HH := Lib.hid h
      have q1 : ((M.kind : Int) == 1) = true := by rw [hk1.1]; rfl
      have q2 : (((M.sec i).st : Int) == 0) = false := by rw [beq_eq_false_iff_ne]; omega
      clear h f s1 c3 c4 hk1
      generalize M.n = n at *
      go_enter Try.func39, Try.ntmps39
      go_wp2_with fail
      go_ret
      exact ⟨rfl, X, R, ⟨L, HH.out⟩, .refl⟩
    · rw [if_neg hk1]
      obtain ⟨w4, L4, hw4, h4, e4, l4, ch4⟩ := h.rec4 hiL st raw
      have hW4 := Lib.hid hw4
      clear hw4
      have f1 := f (i * 5 + 1)
      have f4 := f (i * 5 + 4)
      have f0 := f (i * 5)
      have f2 := f (i * 5 + 2)
      have d1 := h4.surf (i := i) (by omega) (j := 1) (by decide)
      simp only [smD, List.getElem?_cons_zero, List.getElem?_cons_succ, h4.at_, Med.put_sec _ _ hi, e4] at d1
      have d2 := h4.cells.2.1
      change w4.cell? ⟨g, 1, none⟩ = some (.int .i64 M.endu) at d2
      have d3 : ((((M.sec i).cnt + 1 : Nat)) : Int) = (M.sec i).cnt + 1 := rfl
      rw [d3] at d1
      have H4 := Lib.hid h4
      have C4 := Lib.hid ch4
      have E4 := Lib.hid e4
      have LE := Lib.hid l4
      have hkk : ((M.kind : Int) == 1) = false ∨ (((M.kind : Int) == 1) = true ∧ (((M.sec i).st : Int) == 0) = true) := by
        by_cases e1 : M.kind = 1
        · right; rw [beq_iff_eq, beq_iff_eq]; exact ⟨by omega, by have : ¬ (M.sec i).st ≠ 0 := fun h2 => hk1 ⟨e1, h2⟩; omega⟩
        · left; rw [beq_eq_false_iff_ne]; omega
      clear h f c3 c4 hk1 h4 ch4 e4 l4
      have HE := Lib.hid e
      clear e
      have hi2 : i < L.S.length := hiL
      generalize hMn : M.n = n at *
      by_cases hw : (M.sec i).cnt + 1 > M.endu
      · rw [if_pos hw]
        have hwI : (M.endu : Int) < ((M.sec i).cnt : Int) + 1 := by omega
        have hwB : decide ((M.endu : Int) < ((M.sec i).cnt : Int) + 1) = true := decide_eq_true hwI
        rcases hkk with q1 | ⟨q1, q2⟩
        all_goals
          go_enter Try.func39, Try.ntmps39
          go_wp2_with fail
          rw [← hW4.out]
          go_quiet (fail)
          have h5 := H4.out.below (Below.drewN (Below.refl w4.heap.size w4) nq)
          have C5 := Lib.hid (C4.out.trans (Ch.of (X := X) (R := R) (Below.drewN (Below.refl w4.heap.size w4) nq)))
          generalize w4.drewN nq = w5 at *
          obtain ⟨w6, L6, hw6, h6, e6, l6, ch6⟩ := h5.rec2 (i := i) (by rw [LE.out]; exact hiL) 3 []
          rw [E4.out] at hw6
          subst hw6
          have g0 := h5.sec.free (i * 5)
          have g2 := h5.sec.free (i * 5 + 2)
          rw [E4.out] at g0 g2
          have m0 := h5.surf (i := i) (by rw [LE.out]; exact hiL) (j := 0) (by decide)
          have m2 := h5.surf (i := i) (by rw [LE.out]; exact hiL) (j := 2) (by decide)
          simp only [smD, List.getElem?_cons_zero, List.getElem?_cons_succ, Nat.add_zero, E4.out] at m0 m2
          simp only [Med.put_put, Med.put_sec M _ (show i < M.n by omega)] at h6
          change MedC ((w5.setCell ⟨L.gs, i * 5, none⟩ (.int .i64 3)).setCell ⟨L.gs, i * 5 + 2, none⟩ (.string ⟨#[]⟩)) _ _ _ _ _ at h6
          have H6 := Lib.hid h6
          have c6 := C5.out.trans ch6
          change Ch X R X R w ((w5.setCell ⟨L.gs, i * 5, none⟩ (.int .i64 3)).setCell ⟨L.gs, i * 5 + 2, none⟩ (.string ⟨#[]⟩)) at c6
          have C6 := Lib.hid c6
          clear h5 h6 ch6 c6 e6 l6
          go_wp2_with fail
          go_ret
          exact ⟨rfl, X, R, ⟨L6, H6.out⟩, C6.out⟩
      · rw [if_neg hw]
        have hwI : ¬ (M.endu : Int) < ((M.sec i).cnt : Int) + 1 := by omega
        have hwB : decide ((M.endu : Int) < ((M.sec i).cnt : Int) + 1) = false := decide_eq_false hwI
        rcases hkk with q1 | ⟨q1, q2⟩
        all_goals
          go_enter Try.func39, Try.ntmps39
          go_wp2_with fail
          rw [← hW4.out]
          go_quiet (fail)
          have h5 := H4.out.below (Below.drewN (Below.refl w4.heap.size w4) nq)
          have C5 := Lib.hid (C4.out.trans (Ch.of (X := X) (R := R) (Below.drewN (Below.refl w4.heap.size w4) nq)))
          generalize w4.drewN nq = w5 at *
          have H5 := Lib.hid h5
          clear h5
          go_wp2_with fail
          go_ret
          exact ⟨rfl, X, R, ⟨L4, H5.out⟩, C5.out⟩
end Go.Proofs.Ytpncjadhpnapnaa.D12
/- Chapter 12: Record, Tear, Erase and Count walked. -/
namespace Go.Proofs.Ytpncjadhpnapnaa.D12
open Go.RowKit Go.Maps C9
open D13 (RdI)
set_option linter.unusedVariables false

theorem WrP.same {g : Nat} {X R : Nat → Prop} {w w' : World} {M : Med} {c : Int} (h : MedW w g M X R) (hb : Below w.heap.size w w') : WrP (c, M) g X R w (.returned (.int .i64 c)) w' := ⟨rfl, X, R, h.below hb, .of hb⟩
set_option maxRecDepth 100000 in
set_option maxHeartbeats 2000000 in
theorem record12 {w : World} {g : Nat} {M : Med} {X R : Nat → Prop} {N : Nat} (h : MedW w g M X R) (ho : M.Ok N) (hN : N ≤ 4611686018427387904) (a : Int) (raw : List UInt8) (hr : raw.length ≤ 1000000) :
    Calls Try.prog 11 #[.pointer (some ⟨g, 0, none⟩), .int .i64 a, .string (str raw)] w (WrP (M.record a raw) g X R w) := by
  obtain ⟨L, hc⟩ := h
  have HH := Lib.hid (has12 hc ho.n.2 a)
  have HS := Lib.hid (WrP.same (c := 2) ⟨L, hc⟩ (Below.refl _ _))
  have HS1 := Lib.hid (WrP.same (c := 1) ⟨L, hc⟩ (Below.refl _ _))
  unfold Med.record
  by_cases hb : 0 ≤ a ∧ a < (M.n : Int)
  · rw [if_pos hb]
    rw [decide_eq_true hb] at HH
    obtain ⟨k, rfl⟩ : ∃ k : Nat, a = k := ⟨a.toNat, by omega⟩
    have hk : k < M.n := by omega
    have hs := ho.sec k hk
    have e1 : ((k : Int)).toNat = k := by simp
    rw [e1]
    have HW := Lib.hid (fun st hst raw => write12 hc ho.n.2 hk (Nat.le_trans hs.cnt hN) ho.endu.2 ho.kind hs.st st hst raw)
    by_cases hl : raw.length = 2352
    · rw [if_pos hl]
      have q : (((str raw).size : Int) != 2352) = false := by rw [str_size, hl]; rfl
      have hw1 := HW.out 1 (by decide) raw
      change Calls Try.prog 39 #[.pointer (some ⟨g, 0, none⟩), .int .i64 k, .int .i64 1, .string (str raw)] w _ at hw1
      have HW1 := Lib.hid hw1
      clear hw1
      clear hc ho hb hs HS HS1 HW hl
      generalize M.write k 1 raw = Z at *
      go_enter Try.func11, Try.ntmps11
      go_wp2_with fail
      refine HH.out.mono ?_
      rintro e w' ⟨rfl, rfl⟩
      go_wp2_with fail
      refine HW1.out.mono ?_
      rintro e w' ⟨rfl, hw⟩
      have HQ := Lib.hid hw
      clear hw
      go_wp2_with fail
      go_ret
      exact ⟨rfl, HQ.out⟩
    · rw [if_neg hl]
      have q : (((str raw).size : Int) != 2352) = true := by rw [str_size, bne_iff_ne]; omega
      clear hc ho hb hs HS HW hl
      go_enter Try.func11, Try.ntmps11
      go_wp2_with fail
      refine HH.out.mono ?_
      rintro e w' ⟨rfl, rfl⟩
      go_wp2_with fail
      go_ret
      exact HS1.out
  · rw [if_neg hb]
    rw [decide_eq_false hb] at HH
    clear hc ho hb HS1
    go_enter Try.func11, Try.ntmps11
    go_wp2_with fail
    refine HH.out.mono ?_
    rintro e w' ⟨rfl, rfl⟩
    go_wp2_with fail
    go_ret
    exact HS.out
set_option maxRecDepth 100000 in
set_option maxHeartbeats 2000000 in
theorem tear12 {w : World} {g : Nat} {M : Med} {X R : Nat → Prop} {N : Nat} (h : MedW w g M X R) (ho : M.Ok N) (hN : N ≤ 4611686018427387904) (a : Int) :
    Calls Try.prog 47 #[.pointer (some ⟨g, 0, none⟩), .int .i64 a] w (WrP (M.tear a) g X R w) := by
  obtain ⟨L, hc⟩ := h
  have HH := Lib.hid (has12 hc ho.n.2 a)
  have HS := Lib.hid (WrP.same (c := 2) ⟨L, hc⟩ (Below.refl _ _))
  unfold Med.tear
  by_cases hb : 0 ≤ a ∧ a < (M.n : Int)
  · rw [if_pos hb]
    rw [decide_eq_true hb] at HH
    obtain ⟨k, rfl⟩ : ∃ k : Nat, a = k := ⟨a.toNat, by omega⟩
    have hk : k < M.n := by omega
    have hs := ho.sec k hk
    have e1 : ((k : Int)).toNat = k := by simp
    rw [e1]
    have hw1 := write12 hc ho.n.2 hk (Nat.le_trans hs.cnt hN) ho.endu.2 ho.kind hs.st 2 (by decide) []
    change Calls Try.prog 39 #[.pointer (some ⟨g, 0, none⟩), .int .i64 k, .int .i64 2, .string ⟨#[]⟩] w _ at hw1
    have HW1 := Lib.hid hw1
    clear hw1
    clear hc ho hb hs HS
    generalize M.write k 2 [] = Z at *
    go_enter Try.func47, Try.ntmps47
    go_wp2_with fail
    refine HH.out.mono ?_
    rintro e w' ⟨rfl, rfl⟩
    go_wp2_with fail
    refine HW1.out.mono ?_
    rintro e w' ⟨rfl, hw⟩
    have HQ := Lib.hid hw
    clear hw
    go_wp2_with fail
    go_ret
    exact ⟨rfl, HQ.out⟩
  · rw [if_neg hb]
    rw [decide_eq_false hb] at HH
    clear hc ho hb
    go_enter Try.func47, Try.ntmps47
    go_wp2_with fail
    refine HH.out.mono ?_
    rintro e w' ⟨rfl, rfl⟩
    go_wp2_with fail
    go_ret
    exact HS.out
/-- a sector becomes blank: state, bytes, changes -/
theorem MedC.blank3 {X R : Nat → Prop} {w : World} {g : Nat} {L : Lay} {M : Med} (h : MedC w g L M X R) {i : Nat} (hi : i < L.S.length) :
    ∃ L4, MedC (((w.setCell ⟨L.gs, i * 5, none⟩ (.int .i64 0)).setCell ⟨L.gs, i * 5 + 2, none⟩ (.string ⟨#[]⟩)).setCell ⟨L.gs, i * 5 + 4, none⟩ (.map none)) g L4 (M.put i { M.sec i with st := 0, raw := [], ch := fun _ => 0 }) X R ∧
      Ch X R X R w (((w.setCell ⟨L.gs, i * 5, none⟩ (.int .i64 0)).setCell ⟨L.gs, i * 5 + 2, none⟩ (.string ⟨#[]⟩)).setCell ⟨L.gs, i * 5 + 4, none⟩ (.map none)) := by
  obtain ⟨w4, L4, rfl, h4, e4, l4, c4⟩ := h.rec2 hi 0 []
  have hi4 : i < L4.S.length := by omega
  obtain ⟨x, hx⟩ : ∃ x, x = atD sm0 L4.S i := ⟨_, rfl⟩
  have hn : i < M.n := by rw [← h.n]; exact hi
  have hs : x.s = { M.sec i with st := 0, raw := [] } := by rw [hx]; exact (h4.at_ i).trans (Med.put_sec _ _ hn)
  have hm := fun p => h4.maps i p hi4
  rw [← hx] at hm
  have k5 := h4.store0 (i := i) hi4 (j := 4) (by decide) (.map none) { x with s := { x.s with ch := fun _ => 0 }, c := none } (by rw [← hx]; rfl) (fun p => by cases p with
    | true => exact hm true
    | false => exact fun _ => rfl) (fun p b hp => by rw [← hx]; cases p with
    | true => exact hp
    | false => simp [SM.bk] at hp)
  obtain ⟨h5, c5⟩ := k5
  simp only [Med.put_put, hs, e4] at h5
  rw [e4] at c5
  exact ⟨_, h5, c4.trans c5⟩
set_option maxRecDepth 100000 in
set_option maxHeartbeats 2000000 in
theorem erase12 {w : World} {g : Nat} {M : Med} {X R : Nat → Prop} {N : Nat} (h : MedW w g M X R) (ho : M.Ok N) (a : Int) :
    Calls Try.prog 18 #[.pointer (some ⟨g, 0, none⟩), .int .i64 a] w (WrP (M.erase a) g X R w) := by
  obtain ⟨L, hc⟩ := h
  have HH := Lib.hid (has12 hc ho.n.2 a)
  have HS := Lib.hid (fun c => WrP.same (c := c) ⟨L, hc⟩ (Below.refl _ _))
  obtain ⟨c0, c1, c2, c3, c4⟩ := hc.cells
  have hk := ho.kind
  rw [hc.n] at c2
  unfold Med.erase
  by_cases hb : 0 ≤ a ∧ a < (M.n : Int)
  · rw [if_pos hb]
    rw [decide_eq_true hb] at HH
    obtain ⟨k, rfl⟩ : ∃ k : Nat, a = k := ⟨a.toNat, by omega⟩
    have hkn : k < M.n := by omega
    have e1 : ((k : Int)).toNat = k := by simp
    rw [e1]
    have hn := ho.n.2
    have hiL : k < L.S.length := by rw [hc.n]; exact hkn
    have s0 := hc.surf hiL (j := 0) (by decide)
    have s2 := hc.surf hiL (j := 2) (by decide)
    have s4 := hc.surf hiL (j := 4) (by decide)
    simp only [smD, List.getElem?_cons_zero, List.getElem?_cons_succ, hc.at_, Nat.add_zero] at s0 s2 s4
    have f0 := hc.sec.free (k * 5)
    have f2 := hc.sec.free (k * 5 + 2)
    have f4 := hc.sec.free (k * 5 + 4)
    by_cases h2 : M.kind ≠ 2
    · rw [if_pos h2]
      have q : ((M.kind : Int) != 2) = true := by rw [bne_iff_ne]; omega
      clear hc hb s0 s2 s4 f0 f2 f4 c3 c4
      generalize M.n = n at *
      clear ho
      go_enter Try.func18, Try.ntmps18
      go_wp2_with fail
      refine HH.out.mono ?_
      rintro e w' ⟨rfl, rfl⟩
      go_wp2_with fail
      go_ret
      exact HS.out _
    · rw [if_neg h2]
      have q : ((M.kind : Int) != 2) = false := by rw [bne_eq_false_iff_eq]; omega
      by_cases h3 : (M.sec k).st = 3
      · rw [if_pos h3]
        have q2 : (((M.sec k).st : Int) == 3) = true := by rw [h3]; rfl
        clear hc hb s2 s4 f0 f2 f4 c3 c4
        generalize M.n = n at *
        clear ho
        go_enter Try.func18, Try.ntmps18
        go_wp2_with fail
        refine HH.out.mono ?_
        rintro e w' ⟨rfl, rfl⟩
        go_wp2_with fail
        go_ret
        exact HS.out _
      · rw [if_neg h3]
        have q2 : (((M.sec k).st : Int) == 3) = false := by rw [beq_eq_false_iff_ne]; omega
        obtain ⟨L4, h4, ch4⟩ := hc.blank3 hiL
        have H4 := Lib.hid (show WrP (0, M.put k { M.sec k with st := 0, raw := [], ch := fun _ => 0 }) g X R w _ _ from ⟨rfl, X, R, ⟨L4, h4⟩, ch4⟩)
        clear hc hb c3 c4 h4 ch4
        generalize M.n = n at *
        clear ho
        go_enter Try.func18, Try.ntmps18
        go_wp2_with fail
        refine HH.out.mono ?_
        rintro e w' ⟨rfl, rfl⟩
        go_wp2_with fail
        go_ret
        exact H4.out
  · rw [if_neg hb]
    rw [decide_eq_false hb] at HH
    clear hc ho hb
    go_enter Try.func18, Try.ntmps18
    go_wp2_with fail
    refine HH.out.mono ?_
    rintro e w' ⟨rfl, rfl⟩
    go_wp2_with fail
    go_ret
    exact HS.out _
set_option maxRecDepth 100000 in
set_option maxHeartbeats 1000000 in
theorem count12 {w : World} {g : Nat} {M : Med} {X R : Nat → Prop} (h : MedW w g M X R) (hn : M.n ≤ 4096) (b : Int) :
    Calls Try.prog 31 #[.pointer (some ⟨g, 0, none⟩), .int .i64 b] w (RetQ (.tuple #[.int .i64 (M.countR b).1, .int .i64 (M.countR b).2]) w) := by
  obtain ⟨L, h⟩ := h
  obtain ⟨c0, c1, c2, c3, c4⟩ := h.cells
  have HH := Lib.hid (has12 h hn b)
  have e := h.n
  have HS := Lib.hid h
  rw [e] at c2
  clear h
  unfold Med.countR
  by_cases hr : 0 ≤ b ∧ b < (M.n : Int)
  · rw [if_pos hr]
    rw [decide_eq_true hr] at HH
    obtain ⟨k, rfl⟩ : ∃ k : Nat, b = k := ⟨b.toNat, by omega⟩
    have hk : k < M.n := by omega
    have s0 := HS.out.surf (i := k) (j := 1) (by omega) (by decide)
    simp only [smD, List.getElem?_cons_zero, List.getElem?_cons_succ, HS.out.at_] at s0
    have e1 : ((k : Int)).toNat = k := by simp
    rw [e1]
    generalize M.n = n at *
    generalize L.gs = gs at *
    clear hr HS e
    go_enter Try.func31, Try.ntmps31
    go_wp2_with fail
    refine HH.out.mono ?_
    rintro e w' ⟨rfl, rfl⟩
    go_wp2_with fail
    go_ret2
    exact ⟨rfl, Below.refl _ _⟩
  · rw [if_neg hr]
    rw [decide_eq_false hr] at HH
    clear hr
    go_enter Try.func31, Try.ntmps31
    go_wp2_with fail
    refine HH.out.mono ?_
    rintro e w' ⟨rfl, rfl⟩
    go_wp2_with fail
    go_ret2
    exact ⟨rfl, Below.refl _ _⟩
end Go.Proofs.Ytpncjadhpnapnaa.D12
/- Chapter 12: New walked. -/
namespace Go.Proofs.Ytpncjadhpnapnaa.D12
open Go.RowKit Go.Maps C9
open D13 (RdI)
set_option linter.unusedVariables false

theorem made_flD {α : Type} (D : α → List Value) (x : α) (sz n : Nat) (h0 : 0 < sz) (hD : ∀ y, (D y).length = sz) : (madeCells (D x).toArray (n * sz)).toList = flD D (List.replicate n x) := by
  apply List.ext_getElem?
  intro k
  by_cases hk : k < n * sz
  · have e : k / sz * sz + k % sz = k := by rw [Nat.mul_comm]; exact Nat.div_add_mod k sz
    have hki : k / sz < n := Nat.div_lt_of_lt_mul (by rw [Nat.mul_comm]; exact hk)
    have hkj : k % sz < sz := Nat.mod_lt _ h0
    have h2 := flD_get (d := x) hD (List.replicate n x) (k / sz) (k % sz) (by simpa using hki) hkj
    rw [e] at h2
    have e3 : atD x (List.replicate n x) (k / sz) = x := by simp [atD, hki]
    rw [h2, e3]
    have hlt : k % sz < (D x).length := by rw [hD]; exact hkj
    simp only [madeCells, Array.toList_map, Array.toList_range, List.getElem?_map, List.getElem?_range hk, Option.map_some, List.size_toArray, hD]
    rw [getElem!_pos _ _ (by simpa using hlt), List.getElem?_eq_getElem hlt]
    simp
  · rw [List.getElem?_eq_none (by simp [madeCells]; omega), List.getElem?_eq_none (by rw [flD_length hD]; simp; omega)]
theorem Try.infoSurf : (Try.prog.info? 101).map (fun i => (i.zero, i.size, i.bytes)) = some (some (.agg (smD sm0).toArray), 5, 48) := by kernel_rfl
theorem Try.infoMed : (Try.prog.info? 88).map (fun i => (i.zero, i.size, i.bytes)) = some (some (.agg #[.int .i64 0, .int .i64 0, .slice none 0 0, .slice none 0 0, .map none]), 5, 72) := by kernel_rfl
/-- 'make([]surface, n)' -/
theorem wpList_mkSurf {w : World} {ops : Array Oper} {rest : List Oper} {o : Oper} {a : Act} {Q : Exit → Act → World → Prop}
    (hg : o.guard = none) (l c : Operand) (hop : o.op = Op.makeSlice 85 l c)
    {L C : Int} (n : Nat) (hl : a.eval l = .int .i64 L) (hc : a.eval c = .int .i64 C) (hL : L = (n : Int)) (hC : C = (n : Int)) (b3 : n ≤ 1000000)
    (hK : ∀ w', Bx w' w.heap.size 101 (flD smD (List.replicate n sm0)) → Below w.heap.size w w' → w.heap.size < w'.heap.size → wpList Try.prog ops Q rest (a.put o.dst (.slice (some ⟨w.heap.size, 0, none⟩) n n)) w') :
    wpList Try.prog ops Q (o :: rest) a w := by
  obtain ⟨i0, hi, hz0, hz1, hz2⟩ := info_parts Try.infoSurf
  refine wpList_make_full w hg l c _ hop w.heap.size 101 i0 _ 5 Try.underlying85 hi hz0 hz1 .i64 .i64 L C n hl hc hL hC (by rw [hz2]; omega) (by unfold maxLen; omega) (Nat.le_refl _) fun w' h3 h4 => hK w' ?_ ((Below.refl _ _).grown h4 (Nat.le_refl _) (fun k hk => by cases hk)) ?_
  · have e1 : (Value.agg (smD sm0).toArray).cells = (smD sm0).toArray := rfl
    rw [e1, made_flD smD sm0 5 n (by decide) smD_len] at h3
    exact Bx.ofOwn h3
  · exact (h3.lt w.heap.size rfl).2
def newOk (k s e : Int) : Prop := (k = 1 ∨ k = 2) ∧ (1 ≤ s ∧ s ≤ 4096) ∧ 1 ≤ e ∧ e ≤ 1048576
/-- a new medium at 'g' -/
def NewW (k n en : Nat) (w : World) (e : Ending) (w' : World) : Prop := ∃ g X R, e = .returned (.tuple #[.pointer (some ⟨g, 0, none⟩), .int .i64 0]) ∧ MedW w' g (medNew k n en) X R ∧ Below w.heap.size w w' ∧ ∀ b, X b ∨ R b → w.heap.size ≤ b
theorem MedC.fresh {w w1 w2 : World} (k n en : Nat) (hk : k ≤ 2) (hb : Bx w1 w.heap.size 101 (flD smD (List.replicate n sm0))) (hb1 : Below w.heap.size w w1)
    (h2 : w2 = w1.alloc (.cells #[.int .i64 k, .int .i64 en, .slice (some ⟨w.heap.size, 0, none⟩) n n, .slice none 0 0, .map none] 88)) :
    NewW k n en w (.returned (.tuple #[.pointer (some ⟨w1.heap.size, 0, none⟩), .int .i64 0])) w2 := by
  subst h2
  have hlt := hb.lt
  have hat : ∀ i, i < n → atD sm0 (List.replicate n sm0) i = sm0 := fun i hi => by simp [atD, hi]
  refine ⟨w1.heap.size, fun b => b = w.heap.size ∨ b = w1.heap.size, fun _ => False, rfl, ⟨⟨List.replicate n sm0, w.heap.size, [], n, .slice none 0 0, none⟩, ?_, ?_, ?_, by simp, ?_, ?_, ?_, ?_, .inr rfl, .inl rfl, ?_, ?_, ?_, ?_, fun b hb => by cases hb⟩, hb1.alloc hb1.size _, ?_⟩
  · simp [medNew, sm0]
  · rw [List.length_replicate]
    exact Bx.new w1 _ _
  · rw [List.append_nil]
    exact hb.alloc _
  · intro i p hi
    simp only [List.length_replicate] at hi
    simp only [hat i hi]
    cases p
    · exact fun _ => rfl
    · exact fun _ => rfl
  · intro i j p q b hi hj h1 h2
    simp only [List.length_replicate] at hi
    simp only [hat i hi] at h1
    cases p <;> simp [SM.bk, sm0] at h1
  · intro w' _
    exact RdD.nil w'
  · intro w' _ i hi
    show lostS _ [] i = []
    have e : ∀ m, lostN [] m = [] := fun m => lostN_none (fun f => by
      have : ersK [] f 28 = [] := by simp [ersK, gon]
      rw [ers, this]; decide) m
    simp [lostS, lostP, lostL, e]
  · intro i p b hi h1
    simp only [List.length_replicate] at hi
    simp only [hat i hi] at h1
    cases p <;> simp [SM.bk, sm0] at h1
  · rintro b ((rfl | rfl) | h)
    · simp; omega
    · simp
    · exact h.elim
  · intro b _ h
    exact h
  · intro s hs
    cases hs
  · rintro b ((rfl | rfl) | h)
    · exact Nat.le_refl _
    · omega
    · exact h.elim
set_option maxRecDepth 100000 in
set_option maxHeartbeats 1000000 in
theorem new12 (k s e : Int) (h : newOk k s e) (w : World) :
    Calls Try.prog 10 #[.int .i64 k, .int .i64 s, .int .i64 e] w (NewW k.toNat s.toNat e.toNat w) := by
  obtain ⟨hk, ⟨s1, s2⟩, e1, e2⟩ := h
  obtain ⟨n, rfl⟩ : ∃ n : Nat, s = n := ⟨s.toNat, by omega⟩
  obtain ⟨m, rfl⟩ : ∃ n : Nat, e = n := ⟨e.toNat, by omega⟩
  rw [Int.toNat_natCast, Int.toNat_natCast]
  rcases hk with rfl | rfl
  all_goals
    go_enter Try.func10, Try.ntmps10
    go_wp2_with (refine wpList_mkSurf rfl _ _ rfl n rfl rfl rfl rfl (by omega) ?_; intro w1 hb hb1 hlt)
    go_ret2
    exact MedC.fresh _ n m (by decide) hb hb1 rfl
set_option maxRecDepth 100000 in
set_option maxHeartbeats 1000000 in
theorem new12_bad (k s e : Int) (h : ¬ newOk k s e) (w : World) :
    Calls Try.prog 10 #[.int .i64 k, .int .i64 s, .int .i64 e] w fun e w' => e = .returned (.tuple #[.pointer none, .int .i64 1]) ∧ w' = w := by
  unfold newOk at h
  by_cases k1 : k = 1
  · subst k1
    by_cases s1 : s < 1
    · go_enter Try.func10, Try.ntmps10
      go_wp2_with fail
      go_ret2
      exact ⟨rfl, rfl⟩
    by_cases s2 : 4096 < s
    · go_enter Try.func10, Try.ntmps10
      go_wp2_with fail
      go_ret2
      exact ⟨rfl, rfl⟩
    by_cases e1 : e < 1
    · go_enter Try.func10, Try.ntmps10
      go_wp2_with fail
      go_ret2
      exact ⟨rfl, rfl⟩
    have e2 : 1048576 < e := by omega
    go_enter Try.func10, Try.ntmps10
    go_wp2_with fail
    go_ret2
    exact ⟨rfl, rfl⟩
  by_cases k2 : k = 2
  · subst k2
    by_cases s1 : s < 1
    · go_enter Try.func10, Try.ntmps10
      go_wp2_with fail
      go_ret2
      exact ⟨rfl, rfl⟩
    by_cases s2 : 4096 < s
    · go_enter Try.func10, Try.ntmps10
      go_wp2_with fail
      go_ret2
      exact ⟨rfl, rfl⟩
    by_cases e1 : e < 1
    · go_enter Try.func10, Try.ntmps10
      go_wp2_with fail
      go_ret2
      exact ⟨rfl, rfl⟩
    have e2 : 1048576 < e := by omega
    go_enter Try.func10, Try.ntmps10
    go_wp2_with fail
    go_ret2
    exact ⟨rfl, rfl⟩
  have q1 : (k != 1) = true := by rw [bne_iff_ne]; exact k1
  have q2 : (k != 2) = true := by rw [bne_iff_ne]; exact k2
  go_enter Try.func10, Try.ntmps10
  go_wp2_with fail
  go_ret2
  exact ⟨rfl, rfl⟩
end Go.Proofs.Ytpncjadhpnapnaa.D12
/- Chapter 12: Damage walked. -/
namespace Go.Proofs.Ytpncjadhpnapnaa.D12
open Go.RowKit Go.Maps C9
open D13 (RdI ixI)
set_option linter.unusedVariables false

set_option maxRecDepth 100000 in
theorem offset12 (x : Int) (w : World) : Calls Try.prog 46 #[.int .i64 x] w fun e w' => e = .returned (.bool (decide (0 ≤ x ∧ x < 2352))) ∧ w = w' := by
  by_cases h0 : 0 ≤ x
  · by_cases h1 : x < 2352
    · rw [decide_eq_true ⟨h0, h1⟩]
      go_enter Try.func46, Try.ntmps46
      go_wp2_with fail
      go_ret
      exact ⟨retB12 (by simp), rfl⟩
    · rw [decide_eq_false fun e => h1 e.2]
      go_enter Try.func46, Try.ntmps46
      go_wp2_with fail
      go_ret
      exact ⟨retB12 (by simp), rfl⟩
  · rw [decide_eq_false fun e => h0 e.1]
    go_enter Try.func46, Try.ntmps46
    go_wp2_with fail
    go_ret
    exact ⟨retB12 (by simp), rfl⟩
/-- changes as cells -/
def chc (c : Int × Int) : List Value := [.int .i64 c.1, .int .i64 c.2]
theorem chc_len (c : Int × Int) : (chc c).length = 2 := rfl
def RdCh (w : World) (v : Value) (l : List (Int × Int)) : Prop := RdD (0, 0) chc 2 w v l
def chA (l : List (Int × Int)) (i : Nat) : Int × Int := atD (0, 0) l i
def In64 (x : Int) : Prop := -9223372036854775808 ≤ x ∧ x ≤ 9223372036854775807
/-- damage that came in -/
structure DamV (w : World) (vE vC : Value) (d : Dam) : Prop where
  er : RdI w vE d.er
  ch : RdCh w vC d.ch
  lba : In64 d.lba
  len : d.ch.length ≤ 1000000000000
  wf : ∀ i, i < d.ch.length → In64 (chA d.ch i).1 ∧ In64 (chA d.ch i).2
theorem DamV.below {w w' : World} {vE vC : Value} {d : Dam} (h : DamV w vE vC d) (hb : Below w.heap.size w w') : DamV w' vE vC d := ⟨h.er.keep hb, RdD.keep h.ch hb, h.lba, h.len, h.wf⟩
def damv (vE vC : Value) (d : Dam) : Value := .agg #[.int .i64 d.lba, vE, vC]
def erK (l : List Int) (k : Nat) : Prop := (∀ i, i < k → 0 ≤ ixI l i ∧ ixI l i < 2352) ∧ ∀ i, i + 1 < k → ixI l i < ixI l (i + 1)
theorem erK_all {l : List Int} (h : erK l l.length) : (∀ x ∈ l, 0 ≤ x ∧ x < 2352) ∧ l.Pairwise (· < ·) := by
  refine ⟨fun x hx => ?_, ?_⟩
  · obtain ⟨i, hi, rfl⟩ := List.getElem_of_mem hx
    have := h.1 i hi
    rwa [D13.ixI_get hi] at this
  · rw [List.pairwise_iff_getElem]
    have key : ∀ d i, i + d + 1 < l.length → ixI l i < ixI l (i + d + 1) := by
      intro d
      induction d with
      | zero => intro i hi; exact h.2 i hi
      | succ d ih =>
        intro i hi
        have h1 := ih i (by omega)
        have h2 := h.2 (i + d + 1) (by omega)
        have e : i + (d + 1) + 1 = i + d + 1 + 1 := by omega
        rw [e]
        omega
    intro i j hi hj hij
    have := key (j - i - 1) i (by omega)
    have e : i + (j - i - 1) + 1 = j := by omega
    rw [e, D13.ixI_get hi, D13.ixI_get hj] at this
    exact this
theorem erK_not {l : List Int} {k : Nat} (hk : k < l.length) (h : ¬ erK l (k + 1)) (h0 : erK l k) : ¬ ((∀ x ∈ l, 0 ≤ x ∧ x < 2352) ∧ l.Pairwise (· < ·)) := by
  rintro ⟨h1, h2⟩
  refine h ⟨fun i hi => h1 _ (D13.ixI_mem (by omega)), fun i hi => ?_⟩
  rw [List.pairwise_iff_getElem] at h2
  have := h2 i (i + 1) (by omega) (by omega) (by omega)
  rw [D13.ixI_get (by omega), D13.ixI_get (by omega)]
  exact this
theorem erK_step {l : List Int} {k : Nat} (h : erK l k) : erK l (k + 1) ↔ (0 ≤ ixI l k ∧ ixI l k < 2352) ∧ (0 < k → ixI l (k - 1) < ixI l k) := by
  constructor
  · rintro ⟨h1, h2⟩
    refine ⟨h1 k (by omega), fun h0 => ?_⟩
    have := h2 (k - 1) (by omega)
    have e : k - 1 + 1 = k := by omega
    rwa [e] at this
  · rintro ⟨h1, h2⟩
    refine ⟨fun i hi => ?_, fun i hi => ?_⟩
    · by_cases e : i = k
      · rw [e]; exact h1
      · exact h.1 i (by omega)
    · by_cases e : i + 1 = k
      · have := h2 (by omega)
        have e2 : k - 1 = i := by omega
        rw [e2] at this
        rw [e]; exact this
      · exact h.2 i (by omega)
end Go.Proofs.Ytpncjadhpnapnaa.D12
namespace Go.Proofs.Ytpncjadhpnapnaa.D12
open Go.RowKit Go.Maps C9
open D13 (RdI ixI)
set_option linter.unusedVariables false

theorem ErM.made (w : World) (f : Nat → Bool) (hf : ∀ k, f k = false) : ErM (w.alloc (.map #[] 0)) (some w.heap.size) f :=
  ⟨.map [], (World.ownsMap_made _ _ _ _).mono (by omega), fun x => by rw [hf]; simp [Maps.has]⟩
theorem ChM.made (w : World) (f : Nat → UInt8) (hf : ∀ k, f k = 0) : ChM (w.alloc (.map #[] 0)) (some w.heap.size) f :=
  ⟨.map [], (World.ownsMap_made _ _ _ _).mono (by omega), fun x h => by simp [Maps.has] at h, fun k _ => by rw [hf]; rfl⟩
theorem Med.put_self (M : Med) {i : Nat} (h : i < M.n) : M.put i (M.sec i) = M := by
  unfold Med.put Med.sec
  have : M.secs.set i (atD blank M.secs i) = M.secs := by
    apply List.ext_getElem?
    intro k
    rw [List.getElem?_set]
    split
    · rename_i e
      subst e
      have h' : i < M.secs.length := h
      simp [atD, h']
    · rfl
  rw [this]
section
variable {X R : Nat → Prop} {w w' : World} {g : Nat} {L : Lay} {M : Med}
theorem MedC.newMap (h : MedC w g L M X R) {i : Nat} (hi : i < L.S.length) (p : Bool) (hp : (atD sm0 L.S i).bk p = none) :
    ∃ L2 X2, MedC ((w.alloc (.map #[] 0)).setCell ⟨L.gs, i * 5 + (if p = true then 3 else 4), none⟩ (.map (some w.heap.size))) g L2 M X2 R ∧ L2.gs = L.gs ∧ L2.S.length = L.S.length ∧ (atD sm0 L2.S i).bk p = some w.heap.size ∧ (atD sm0 L2.S i).bk (!p) = (atD sm0 L.S i).bk (!p) ∧
      Ch X R X2 R w ((w.alloc (.map #[] 0)).setCell ⟨L.gs, i * 5 + (if p = true then 3 else 4), none⟩ (.map (some w.heap.size))) := by
  have ha := (Below.refl w.heap.size w).alloc (Nat.le_refl _) (.map #[] 0)
  have h1 := h.below ha
  have hn : i < M.n := by rw [← h.n]; exact hi
  have hm := fun q => h1.maps i q hi
  have hs := h.at_ i
  have hXl : ∀ b, X b → b ≠ w.heap.size := fun b hb e => by have := h.lt b (.inl hb); omega
  have hRl : ∀ b, R b → b ≠ w.heap.size := fun b hb e => by have := h.lt b (.inr hb); omega
  have hbl : ∀ q b, (atD sm0 L.S i).bk q = some b → b ≠ w.heap.size := fun q b hb => hXl b (h.xm i q b hi hb)
  have hsz : w.heap.size < (w.alloc (.map #[] 0)).heap.size := by simp
  generalize hxx : atD sm0 L.S i = x at *
  have hself : M.put i x.s = M := by rw [hs]; exact Med.put_self M hn
  have hcx : ∀ (X2 : Nat → Prop) (a : Addr) (u : Value), a.block = L.gs → (∀ b, X2 b → X b ∨ w.heap.size ≤ b) → Ch X R X2 R w ((w.alloc (.map #[] 0)).setCell a u) := fun X2 a u hab hX2 =>
    ⟨rfl, rfl, rfl, by simp, fun b hb hX => (Below.heap_setCell (w.alloc (.map #[] 0)) a u b fun e => hX (by rw [e, hab]; exact h.xs)).trans (ha.block b hb), hX2, fun _ h => .inl h⟩
  cases p with
  | true =>
    have he : x.e = none := hp
    have he0 : ErM (w.alloc (.map #[] 0)) none x.s.er := by have := hm true; unfold SM.W at this; rw [if_pos rfl, he] at this; exact this
    have k := h1.store hi (j := 3) (by decide) (.map (some w.heap.size)) { x with e := some w.heap.size } (by rw [hxx]; rfl) (fun q => by cases q with
      | true => exact ErM.made w _ he0
      | false => exact hm false) (fun q b hb => by
        rw [hxx]
        cases q with
        | true => right; obtain rfl : w.heap.size = b := Option.some.inj hb; exact ⟨fun h2 => hXl _ h2 rfl, fun h2 => hRl _ h2 rfl, hsz⟩
        | false => left; exact hb) (fun b h2 h3 => by obtain rfl : w.heap.size = b := Option.some.inj h2; exact hbl false _ h3 rfl)
    rw [show ({ x with e := some w.heap.size } : SM).s = x.s from rfl, hself] at k
    refine ⟨_, _, k, rfl, by simp, ?_, ?_, hcx _ _ _ rfl ?_⟩
    · simp only [atD_set_eq _ _ _ hi]; rfl
    · simp only [atD_set_eq _ _ _ hi]; rfl
    · rintro b (h2 | h2 | h2)
      · exact .inl h2
      · exact .inr (by have := Option.some.inj h2; omega)
      · exact .inl (h.xm i false b hi (by rw [hxx]; exact h2))
  | false =>
    have he : x.c = none := hp
    have he0 : ChM (w.alloc (.map #[] 0)) none x.s.ch := by have := hm false; unfold SM.W at this; rw [if_neg (by decide), he] at this; exact this
    have k := h1.store hi (j := 4) (by decide) (.map (some w.heap.size)) { x with c := some w.heap.size } (by rw [hxx]; rfl) (fun q => by cases q with
      | true => exact hm true
      | false => exact ChM.made w _ he0) (fun q b hb => by
        rw [hxx]
        cases q with
        | false => right; obtain rfl : w.heap.size = b := Option.some.inj hb; exact ⟨fun h2 => hXl _ h2 rfl, fun h2 => hRl _ h2 rfl, hsz⟩
        | true => left; exact hb) (fun b h2 h3 => by obtain rfl : w.heap.size = b := Option.some.inj h3; exact hbl true _ h2 rfl)
    rw [show ({ x with c := some w.heap.size } : SM).s = x.s from rfl, hself] at k
    refine ⟨_, _, k, rfl, by simp, ?_, ?_, hcx _ _ _ rfl ?_⟩
    · simp only [atD_set_eq _ _ _ hi]; rfl
    · simp only [atD_set_eq _ _ _ hi]; rfl
    · rintro b (h2 | h2 | h2)
      · exact .inl h2
      · exact .inl (h.xm i true b hi (by rw [hxx]; exact h2))
      · exact .inr (by have := Option.some.inj h2; omega)
end
theorem lawI12 : Keyed Try.prog 3 := int_keyed Try.underlying3
theorem wfI12 {x : Int} (h0 : 0 ≤ x) (h1 : x < 2352) : (Lit.int .i64 x).wf = true := by simp [Lit.wf, IntKind.min, IntKind.max, IntKind.signed, IntKind.bits]; omega
theorem wfU12 (x : UInt8) : (Lit.int .u8 x.toNat).wf = true := by have := x.toNat_lt; simp [Lit.wf, IntKind.min, IntKind.max, IntKind.signed, IntKind.bits]; omega
theorem fun_zero : ∀ w, (zeroValue 5).run Try.prog w = .ok (.int .u8 0) w := fun _ => by kernel_rfl
/-- 'm[x] = true' -/
theorem wpList_erPut {w : World} {ops : Array Oper} {rest : List Oper} {o : Oper} {a : Act} {Q : Exit → Act → World → Prop}
    (hg : o.guard = none) (m x v : Operand) (hop : o.op = Op.mapUpdate 98 m x v) {b : Nat} {f : Nat → Bool} (hown : ErM w (some b) f) (hm : a.eval m = .map (some b)) {X : Int} (hx : a.eval x = .int .i64 X) (hv : a.eval v = .bool true)
    (h0 : 0 ≤ X) (h1 : X < 2352) (hf : ∀ k, f k = true → k < 2352)
    (hK : ∀ w', ErM w' (some b) (fun k : Nat => if (k : Int) = X then true else f k) → w.grownBy w' (some b) → wpList Try.prog ops Q rest (a.put o.dst undef) w') : wpList Try.prog ops Q (o :: rest) a w := by
  obtain ⟨D, hown, hh⟩ := hown
  refine wpList_mapUpdate_own _ hg m x v 98 hop 3 4 lawI12 Try.underlying98 _ b 2352 D hm hown (by unfold maxLen; omega) _ _ _ hx hv (keyOf_int_mk Try.underlying3 (wfI12 h0 h1)) _ [] (plainElem_bool Try.underlying4 true) ?_
  intro w' ho hgr
  have hput : ∀ y : Int, Maps.has (D.put (.int .i64 X) (.lit (.bool true))) (.int .i64 y) = (decide (0 ≤ y) && (if ((y.toNat : Nat) : Int) = X then true else f y.toNat)) := fun y => by
    by_cases e : y = X
    · subst e
      rw [has_put_same hown.isMap (by trivial)]
      have e1 : ((y.toNat : Nat) : Int) = y := by omega
      rw [if_pos e1, decide_eq_true h0]
      rfl
    · rw [has_put_other (by simpa using e), hh y]
      by_cases h2 : 0 ≤ y
      · rw [if_neg (by omega)]
      · rw [decide_eq_false h2]
        rfl
  refine hK w' ⟨_, Mp.tight ho fun y hy => ?_, hput⟩ hgr
  rw [hput y] at hy
  simp only [Bool.and_eq_true, decide_eq_true_eq] at hy
  obtain ⟨h2, h3⟩ := hy
  split at h3
  · omega
  · have := hf _ h3
    omega
/-- 'm[x]' of the changed bytes -/
theorem ChM.run {w : World} {b : Nat} {f : Nat → UInt8} (h : ChM w (some b) f) (x : Int) (h0 : 0 ≤ x) (h1 : x < 2352) :
    (Instr.lookup 99 (.map (some b)) (.int .i64 x) false).run Try.prog w = .ok (.int .u8 (f x.toNat).toNat) w := by
  obtain ⟨D, hown, _, hf⟩ := h
  obtain ⟨v, ps, hrun, hv⟩ := hown.lookup lawI12 Try.underlying99 (z := .int .u8 0) (fun_zero w) (plainElem_int Try.underlying5 (a := 0) (by decide)) (keyOf_int_mk Try.underlying3 (wfI12 h0 h1))
  obtain ⟨c, rfl, hc, _⟩ := plainElem_int_inv Try.underlying5 hv
  simp only [Prod.mk.injEq] at hc
  have h2 := hf x.toNat (by omega)
  rw [show ((x.toNat : Nat) : Int) = x by omega] at h2
  rw [h2] at hc
  have : c = (f x.toNat).toNat := by simpa using hc.1.symm
  rw [hrun, this]
/-- 'm[x] = v' of the changed bytes -/
theorem wpList_chPut {w : World} {ops : Array Oper} {rest : List Oper} {o : Oper} {a : Act} {Q : Exit → Act → World → Prop}
    (hg : o.guard = none) (m x v : Operand) (hop : o.op = Op.mapUpdate 99 m x v) {b : Nat} {f : Nat → UInt8} (hown : ChM w (some b) f) (hm : a.eval m = .map (some b)) {X : Int} (hx : a.eval x = .int .i64 X) (V : UInt8) (hv : a.eval v = .int .u8 V.toNat)
    (h0 : 0 ≤ X) (h1 : X < 2352)
    (hK : ∀ w', ChM w' (some b) (fun k : Nat => if (k : Int) = X then V else f k) → w.grownBy w' (some b) → wpList Try.prog ops Q rest (a.put o.dst undef) w') : wpList Try.prog ops Q (o :: rest) a w := by
  obtain ⟨D, hown, hb, hh⟩ := hown
  refine wpList_mapUpdate_own _ hg m x v 99 hop 3 5 lawI12 Try.underlying99 _ b 2352 D hm hown (by unfold maxLen; omega) _ _ _ hx hv (keyOf_int_mk Try.underlying3 (wfI12 h0 h1)) _ [] (plainElem_int Try.underlying5 (wfU12 V)) ?_
  intro w' ho hgr
  have hbd : ∀ y : Int, Maps.has (D.put (.int .i64 X) (.lit (.int .u8 V.toNat))) (.int .i64 y) = true → 0 ≤ y ∧ y < 2352 := fun y hy => by
    by_cases e : y = X
    · subst e; exact ⟨h0, h1⟩
    · rw [has_put_other (by simpa using e)] at hy
      exact hb y hy
  refine hK w' ⟨_, Mp.tight ho hbd, hbd, fun k hk => ?_⟩ hgr
  show _ = DataW.lit (.int .u8 ((if (k : Int) = X then V else f k).toNat : Nat))
  by_cases e : (k : Int) = X
  · subst e
    rw [if_pos rfl, atKey_put_same hown.isMap (by trivial)]
  · rw [if_neg e, atKey_put_other (by simpa using e)]
    exact hh k hk
section
variable {X R : Nat → Prop} {w w' : World} {g : Nat} {L : Lay} {M : Med}
/-- the map of the erased offsets of a sector has turned -/
theorem MedC.erStep (h : MedC w g L M X R) {i b : Nat} (hi : i < L.S.length) (he : (atD sm0 L.S i).e = some b) (hg : w.grownBy w' (some b)) {f : Nat → Bool} (hm : ErM w' (some b) f) :
    ∃ L2, MedC w' g L2 (M.put i { M.sec i with er := f }) X R ∧ L2.gs = L.gs ∧ L2.S.length = L.S.length ∧ (atD sm0 L2.S i).e = some b ∧ (atD sm0 L2.S i).c = (atD sm0 L.S i).c ∧ Ch X R X R w w' := by
  have hs := h.at_ i
  have k := h.grown hi (p := true) he hg { (atD sm0 L.S i) with s := { (atD sm0 L.S i).s with er := f } } rfl rfl rfl (by show ErM w' (atD sm0 L.S i).e f; rw [he]; exact hm) (h.maps i false hi)
  obtain ⟨k1, k2⟩ := k
  simp only [hs] at k1
  exact ⟨_, k1, rfl, by simp, by simp only [atD_set_eq _ _ _ hi]; exact he, by simp only [atD_set_eq _ _ _ hi], k2⟩
theorem MedC.chStep (h : MedC w g L M X R) {i b : Nat} (hi : i < L.S.length) (he : (atD sm0 L.S i).c = some b) (hg : w.grownBy w' (some b)) {f : Nat → UInt8} (hm : ChM w' (some b) f) :
    ∃ L2, MedC w' g L2 (M.put i { M.sec i with ch := f }) X R ∧ L2.gs = L.gs ∧ L2.S.length = L.S.length ∧ (atD sm0 L2.S i).c = some b ∧ (atD sm0 L2.S i).e = (atD sm0 L.S i).e ∧ Ch X R X R w w' := by
  have hs := h.at_ i
  have k := h.grown hi (p := false) he hg { (atD sm0 L.S i) with s := { (atD sm0 L.S i).s with ch := f } } rfl rfl rfl (by show ChM w' (atD sm0 L.S i).c f; rw [he]; exact hm) (h.maps i true hi)
  obtain ⟨k1, k2⟩ := k
  simp only [hs] at k1
  exact ⟨_, k1, rfl, by simp, by simp only [atD_set_eq _ _ _ hi]; exact he, by simp only [atD_set_eq _ _ _ hi], k2⟩
end
end Go.Proofs.Ytpncjadhpnapnaa.D12
