/- Chapter 12: Record, Tear, Erase and Count walked. -/
import Derived.Test.YtpncjadhpnapnaaFd
namespace Go.Proofs.Ytpncjadhpnapnaa.D12
open Go.RowKit Go.Maps C9
open D13 (RdI)
set_option linter.unusedVariables false

theorem WrP.same {g : Nat} {X R : Nat → Prop} {w w' : World} {M : Med} {c : Int} (h : MedW w g M X R) (hb : Below w.heap.size w w') : WrP (c, M) g X R w (.returned (.int .i64 c)) w' := ⟨rfl, X, R, h.below hb, .of hb⟩
set_option maxRecDepth 100000 in
set_option maxHeartbeats 2000000 in
theorem record12 {w : World} {g : Nat} {M : Med} {X R : Nat → Prop} {N : Nat} (h : MedW w g M X R) (ho : M.Ok N) (hN : N ≤ 4611686018427387904) (a : Int) (raw : List UInt8) (hr : raw.length ≤ 1000000) :
    Calls Try.prog 11 #[.pointer (some ⟨g, 0, none⟩), .int .i64 a, .string (str raw)] w (WrP (M.record a raw) g X R w) := by
  obtain ⟨L, hc⟩ := h
  have HH := Lib.hid (has12 hc ho.n.2 a)
  have HS := Lib.hid (WrP.same (c := 2) ⟨L, hc⟩ (Below.refl _ _))
  have HS1 := Lib.hid (WrP.same (c := 1) ⟨L, hc⟩ (Below.refl _ _))
  unfold Med.record
  by_cases hb : 0 ≤ a ∧ a < (M.n : Int)
  · rw [if_pos hb]
    rw [decide_eq_true hb] at HH
    obtain ⟨k, rfl⟩ : ∃ k : Nat, a = k := ⟨a.toNat, by omega⟩
    have hk : k < M.n := by omega
    have hs := ho.sec k hk
    have e1 : ((k : Int)).toNat = k := by simp
    rw [e1]
    have HW := Lib.hid (fun st hst raw => write12 hc ho.n.2 hk (Nat.le_trans hs.cnt hN) ho.endu.2 ho.kind hs.st st hst raw)
    by_cases hl : raw.length = 2352
    · rw [if_pos hl]
      have q : (((str raw).size : Int) != 2352) = false := by rw [str_size, hl]; rfl
      have hw1 := HW.out 1 (by decide) raw
      change Calls Try.prog 39 #[.pointer (some ⟨g, 0, none⟩), .int .i64 k, .int .i64 1, .string (str raw)] w _ at hw1
      have HW1 := Lib.hid hw1
      clear hw1
      clear hc ho hb hs HS HS1 HW hl
      generalize M.write k 1 raw = Z at *
      go_enter Try.func11, Try.ntmps11
      go_wp2_with fail
      refine HH.out.mono ?_
      rintro e w' ⟨rfl, rfl⟩
      go_wp2_with fail
      refine HW1.out.mono ?_
      rintro e w' ⟨rfl, hw⟩
      have HQ := Lib.hid hw
      clear hw
      go_wp2_with fail
      go_ret
      exact ⟨rfl, HQ.out⟩
    · rw [if_neg hl]
      have q : (((str raw).size : Int) != 2352) = true := by rw [str_size, bne_iff_ne]; omega
      clear hc ho hb hs HS HW hl
      go_enter Try.func11, Try.ntmps11
      go_wp2_with fail
      refine HH.out.mono ?_
      rintro e w' ⟨rfl, rfl⟩
      go_wp2_with fail
      go_ret
      exact HS1.out
  · rw [if_neg hb]
    rw [decide_eq_false hb] at HH
    clear hc ho hb HS1
    go_enter Try.func11, Try.ntmps11
    go_wp2_with fail
    refine HH.out.mono ?_
    rintro e w' ⟨rfl, rfl⟩
    go_wp2_with fail
    go_ret
    exact HS.out
set_option maxRecDepth 100000 in
set_option maxHeartbeats 2000000 in
theorem tear12 {w : World} {g : Nat} {M : Med} {X R : Nat → Prop} {N : Nat} (h : MedW w g M X R) (ho : M.Ok N) (hN : N ≤ 4611686018427387904) (a : Int) :
    Calls Try.prog 47 #[.pointer (some ⟨g, 0, none⟩), .int .i64 a] w (WrP (M.tear a) g X R w) := by
  obtain ⟨L, hc⟩ := h
  have HH := Lib.hid (has12 hc ho.n.2 a)
  have HS := Lib.hid (WrP.same (c := 2) ⟨L, hc⟩ (Below.refl _ _))
  unfold Med.tear
  by_cases hb : 0 ≤ a ∧ a < (M.n : Int)
  · rw [if_pos hb]
    rw [decide_eq_true hb] at HH
    obtain ⟨k, rfl⟩ : ∃ k : Nat, a = k := ⟨a.toNat, by omega⟩
    have hk : k < M.n := by omega
    have hs := ho.sec k hk
    have e1 : ((k : Int)).toNat = k := by simp
    rw [e1]
    have hw1 := write12 hc ho.n.2 hk (Nat.le_trans hs.cnt hN) ho.endu.2 ho.kind hs.st 2 (by decide) []
    change Calls Try.prog 39 #[.pointer (some ⟨g, 0, none⟩), .int .i64 k, .int .i64 2, .string ⟨#[]⟩] w _ at hw1
    have HW1 := Lib.hid hw1
    clear hw1
    clear hc ho hb hs HS
    generalize M.write k 2 [] = Z at *
    go_enter Try.func47, Try.ntmps47
    go_wp2_with fail
    refine HH.out.mono ?_
    rintro e w' ⟨rfl, rfl⟩
    go_wp2_with fail
    refine HW1.out.mono ?_
    rintro e w' ⟨rfl, hw⟩
    have HQ := Lib.hid hw
    clear hw
    go_wp2_with fail
    go_ret
    exact ⟨rfl, HQ.out⟩
  · rw [if_neg hb]
    rw [decide_eq_false hb] at HH
    clear hc ho hb
    go_enter Try.func47, Try.ntmps47
    go_wp2_with fail
    refine HH.out.mono ?_
    rintro e w' ⟨rfl, rfl⟩
    go_wp2_with fail
    go_ret
    exact HS.out
/-- a sector becomes blank: state, bytes, changes -/
theorem MedC.blank3 {X R : Nat → Prop} {w : World} {g : Nat} {L : Lay} {M : Med} (h : MedC w g L M X R) {i : Nat} (hi : i < L.S.length) :
    ∃ L4, MedC (((w.setCell ⟨L.gs, i * 5, none⟩ (.int .i64 0)).setCell ⟨L.gs, i * 5 + 2, none⟩ (.string ⟨#[]⟩)).setCell ⟨L.gs, i * 5 + 4, none⟩ (.map none)) g L4 (M.put i { M.sec i with st := 0, raw := [], ch := fun _ => 0 }) X R ∧
      Ch X R X R w (((w.setCell ⟨L.gs, i * 5, none⟩ (.int .i64 0)).setCell ⟨L.gs, i * 5 + 2, none⟩ (.string ⟨#[]⟩)).setCell ⟨L.gs, i * 5 + 4, none⟩ (.map none)) := by
  obtain ⟨w4, L4, rfl, h4, e4, l4, c4⟩ := h.rec2 hi 0 []
  have hi4 : i < L4.S.length := by omega
  obtain ⟨x, hx⟩ : ∃ x, x = atD sm0 L4.S i := ⟨_, rfl⟩
  have hn : i < M.n := by rw [← h.n]; exact hi
  have hs : x.s = { M.sec i with st := 0, raw := [] } := by rw [hx]; exact (h4.at_ i).trans (Med.put_sec _ _ hn)
  have hm := fun p => h4.maps i p hi4
  rw [← hx] at hm
  have k5 := h4.store0 (i := i) hi4 (j := 4) (by decide) (.map none) { x with s := { x.s with ch := fun _ => 0 }, c := none } (by rw [← hx]; rfl) (fun p => by cases p with
    | true => exact hm true
    | false => exact fun _ => rfl) (fun p b hp => by rw [← hx]; cases p with
    | true => exact hp
    | false => simp [SM.bk] at hp)
  obtain ⟨h5, c5⟩ := k5
  simp only [Med.put_put, hs, e4] at h5
  rw [e4] at c5
  exact ⟨_, h5, c4.trans c5⟩
set_option maxRecDepth 100000 in
set_option maxHeartbeats 2000000 in
theorem erase12 {w : World} {g : Nat} {M : Med} {X R : Nat → Prop} {N : Nat} (h : MedW w g M X R) (ho : M.Ok N) (a : Int) :
    Calls Try.prog 18 #[.pointer (some ⟨g, 0, none⟩), .int .i64 a] w (WrP (M.erase a) g X R w) := by
  obtain ⟨L, hc⟩ := h
  have HH := Lib.hid (has12 hc ho.n.2 a)
  have HS := Lib.hid (fun c => WrP.same (c := c) ⟨L, hc⟩ (Below.refl _ _))
  obtain ⟨c0, c1, c2, c3, c4⟩ := hc.cells
  have hk := ho.kind
  rw [hc.n] at c2
  unfold Med.erase
  by_cases hb : 0 ≤ a ∧ a < (M.n : Int)
  · rw [if_pos hb]
    rw [decide_eq_true hb] at HH
    obtain ⟨k, rfl⟩ : ∃ k : Nat, a = k := ⟨a.toNat, by omega⟩
    have hkn : k < M.n := by omega
    have e1 : ((k : Int)).toNat = k := by simp
    rw [e1]
    have hn := ho.n.2
    have hiL : k < L.S.length := by rw [hc.n]; exact hkn
    have s0 := hc.surf hiL (j := 0) (by decide)
    have s2 := hc.surf hiL (j := 2) (by decide)
    have s4 := hc.surf hiL (j := 4) (by decide)
    simp only [smD, List.getElem?_cons_zero, List.getElem?_cons_succ, hc.at_, Nat.add_zero] at s0 s2 s4
    have f0 := hc.sec.free (k * 5)
    have f2 := hc.sec.free (k * 5 + 2)
    have f4 := hc.sec.free (k * 5 + 4)
    by_cases h2 : M.kind ≠ 2
    · rw [if_pos h2]
      have q : ((M.kind : Int) != 2) = true := by rw [bne_iff_ne]; omega
      clear hc hb s0 s2 s4 f0 f2 f4 c3 c4
      generalize M.n = n at *
      clear ho
      go_enter Try.func18, Try.ntmps18
      go_wp2_with fail
      refine HH.out.mono ?_
      rintro e w' ⟨rfl, rfl⟩
      go_wp2_with fail
      go_ret
      exact HS.out _
    · rw [if_neg h2]
      have q : ((M.kind : Int) != 2) = false := by rw [bne_eq_false_iff_eq]; omega
      by_cases h3 : (M.sec k).st = 3
      · rw [if_pos h3]
        have q2 : (((M.sec k).st : Int) == 3) = true := by rw [h3]; rfl
        clear hc hb s2 s4 f0 f2 f4 c3 c4
        generalize M.n = n at *
        clear ho
        go_enter Try.func18, Try.ntmps18
        go_wp2_with fail
        refine HH.out.mono ?_
        rintro e w' ⟨rfl, rfl⟩
        go_wp2_with fail
        go_ret
        exact HS.out _
      · rw [if_neg h3]
        have q2 : (((M.sec k).st : Int) == 3) = false := by rw [beq_eq_false_iff_ne]; omega
        obtain ⟨L4, h4, ch4⟩ := hc.blank3 hiL
        have H4 := Lib.hid (show WrP (0, M.put k { M.sec k with st := 0, raw := [], ch := fun _ => 0 }) g X R w _ _ from ⟨rfl, X, R, ⟨L4, h4⟩, ch4⟩)
        clear hc hb c3 c4 h4 ch4
        generalize M.n = n at *
        clear ho
        go_enter Try.func18, Try.ntmps18
        go_wp2_with fail
        refine HH.out.mono ?_
        rintro e w' ⟨rfl, rfl⟩
        go_wp2_with fail
        go_ret
        exact H4.out
  · rw [if_neg hb]
    rw [decide_eq_false hb] at HH
    clear hc ho hb
    go_enter Try.func18, Try.ntmps18
    go_wp2_with fail
    refine HH.out.mono ?_
    rintro e w' ⟨rfl, rfl⟩
    go_wp2_with fail
    go_ret
    exact HS.out _
set_option maxRecDepth 100000 in
set_option maxHeartbeats 1000000 in
theorem count12 {w : World} {g : Nat} {M : Med} {X R : Nat → Prop} (h : MedW w g M X R) (hn : M.n ≤ 4096) (b : Int) :
    Calls Try.prog 31 #[.pointer (some ⟨g, 0, none⟩), .int .i64 b] w (RetQ (.tuple #[.int .i64 (M.countR b).1, .int .i64 (M.countR b).2]) w) := by
  obtain ⟨L, h⟩ := h
  obtain ⟨c0, c1, c2, c3, c4⟩ := h.cells
  have HH := Lib.hid (has12 h hn b)
  have e := h.n
  have HS := Lib.hid h
  rw [e] at c2
  clear h
  unfold Med.countR
  by_cases hr : 0 ≤ b ∧ b < (M.n : Int)
  · rw [if_pos hr]
    rw [decide_eq_true hr] at HH
    obtain ⟨k, rfl⟩ : ∃ k : Nat, b = k := ⟨b.toNat, by omega⟩
    have hk : k < M.n := by omega
    have s0 := HS.out.surf (i := k) (j := 1) (by omega) (by decide)
    simp only [smD, List.getElem?_cons_zero, List.getElem?_cons_succ, HS.out.at_] at s0
    have e1 : ((k : Int)).toNat = k := by simp
    rw [e1]
    generalize M.n = n at *
    generalize L.gs = gs at *
    clear hr HS e
    go_enter Try.func31, Try.ntmps31
    go_wp2_with fail
    refine HH.out.mono ?_
    rintro e w' ⟨rfl, rfl⟩
    go_wp2_with fail
    go_ret2
    exact ⟨rfl, Below.refl _ _⟩
  · rw [if_neg hr]
    rw [decide_eq_false hr] at HH
    clear hr
    go_enter Try.func31, Try.ntmps31
    go_wp2_with fail
    refine HH.out.mono ?_
    rintro e w' ⟨rfl, rfl⟩
    go_wp2_with fail
    go_ret2
    exact ⟨rfl, Below.refl _ _⟩
end Go.Proofs.Ytpncjadhpnapnaa.D12
