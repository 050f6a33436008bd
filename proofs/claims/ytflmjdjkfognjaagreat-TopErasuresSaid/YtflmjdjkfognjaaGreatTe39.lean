/- Parts: XGd -/
import Derived.Test.YtflmjdjkfognjaaGreatTe38
namespace Go.Proofs.YtflmjdjkfognjaaGreat.D12
open Go.RowKit Go.Maps C9
open W8 (is)
set_option linter.unusedVariables false
def CleanP (b : Bool) (w : World) (e : Ending) (w' : World) : Prop := e = .returned (.bool b) ∧ Below w.heap.size w w'
theorem cleanR_false {M : Med} {a : Int} (h : ¬ ((0 ≤ a ∧ a < M.n) ∧ M.cleanP a.toNat)) : M.cleanR a = false := by unfold Med.cleanR; rw [decide_eq_false_iff_not]; exact h
theorem cleanR_true {M : Med} {a : Int} (h : (0 ≤ a ∧ a < M.n) ∧ M.cleanP a.toNat) : M.cleanR a = true := by unfold Med.cleanR; simp only [h, and_self, decide_true]
set_option maxRecDepth 100000 in
set_option maxHeartbeats 1000000 in
theorem clean12_range {w : World} {g : Nat} {M : Med} {X R : Nat → Prop} {N : Nat} (h : MedW w g M X R) (ho : M.Ok N) (a : Int) (hr : ¬ (0 ≤ a ∧ a < (M.n : Int))) :
    Calls Tryz.prog 131 #[.pointer (some ⟨g, 0, none⟩), .int .i64 a] w (CleanP false w) := by
  obtain ⟨L, hc⟩ := h
  have HH := Lib.hid (has12 hc ho.n.2 a)
  rw [decide_eq_false hr] at HH
  clear hc ho hr
  go_enter Tryz.func131, Tryz.ntmps131
  go_wp2_with fail
  refine HH.out.mono ?_
  rintro e w' ⟨rfl, rfl⟩
  go_wp2_with fail
  go_ret
  exact ⟨rfl, Below.refl _ _⟩
set_option maxRecDepth 100000 in
set_option maxHeartbeats 2000000 in
theorem clean12_bad {w : World} {g : Nat} {M : Med} {X R : Nat → Prop} {N : Nat} (h : MedW w g M X R) (ho : M.Ok N) {k : Nat} (hk : k < M.n) (h1 : (M.sec k).st ≠ 1) :
    Calls Tryz.prog 131 #[.pointer (some ⟨g, 0, none⟩), .int .i64 (k : Nat)] w (CleanP false w) := by
  obtain ⟨L, hc⟩ := h
  have HM : Hid (MedW w g M X R) := Lib.hid ⟨L, hc⟩
  have HH := Lib.hid (has12 hc ho.n.2 (k : Int))
  rw [decide_eq_true (show 0 ≤ (k : Int) ∧ (k : Int) < (M.n : Int) by omega)] at HH
  obtain ⟨c0, c1, c2, c3, c4⟩ := hc.cells
  rw [hc.n] at c2
  have hkL : k < L.S.length := by rw [hc.n]; exact hk
  have hst3 := (ho.sec k hk).st
  have s0 := hc.surf hkL (j := 0) (by decide)
  have s4 := hc.surf hkL (j := 4) (by decide)
  simp only [smD, List.getElem?_cons_zero, List.getElem?_cons_succ, hc.at_, Nat.add_zero] at s0 s4
  have hHE := erased12 HM.out ho hk
  clear hc ho c0 c1 c3 c4 s4 hHE
  have q : (((M.sec k).st : Int) != 1) = true := by rw [bne_iff_ne]; omega
  generalize M.n = n at *
  clear h1
  go_enter Tryz.func131, Tryz.ntmps131
  go_wp2_with fail
  refine HH.out.mono ?_
  rintro e w' ⟨rfl, rfl⟩
  go_wp2_with fail
  go_ret
  exact ⟨rfl, Below.refl _ _⟩
set_option maxRecDepth 100000 in
set_option maxHeartbeats 2000000 in
theorem clean12_gone {w : World} {g : Nat} {M : Med} {X R : Nat → Prop} {N : Nat} (h : MedW w g M X R) (ho : M.Ok N) {k : Nat} (hk : k < M.n) (h1 : (M.sec k).st = 1) (hg : M.gone k ≠ []) :
    Calls Tryz.prog 131 #[.pointer (some ⟨g, 0, none⟩), .int .i64 (k : Nat)] w (CleanP false w) := by
  obtain ⟨L, hc⟩ := h
  have HM : Hid (MedW w g M X R) := Lib.hid ⟨L, hc⟩
  have HH := Lib.hid (has12 hc ho.n.2 (k : Int))
  rw [decide_eq_true (show 0 ≤ (k : Int) ∧ (k : Int) < (M.n : Int) by omega)] at HH
  obtain ⟨c0, c1, c2, c3, c4⟩ := hc.cells
  rw [hc.n] at c2
  have hkL : k < L.S.length := by rw [hc.n]; exact hk
  have hst3 := (ho.sec k hk).st
  have s0 := hc.surf hkL (j := 0) (by decide)
  have s4 := hc.surf hkL (j := 4) (by decide)
  simp only [smD, List.getElem?_cons_zero, List.getElem?_cons_succ, hc.at_, Nat.add_zero] at s0 s4
  have hHE := erased12 HM.out ho hk
  have HE := Lib.hid hHE
  have hgl : (M.gone k).length ≤ 2352 := by
    unfold Med.gone
    rw [List.length_map]
    exact Nat.le_trans (List.length_filter_le _ _) (by simp)
  have hgp : 0 < (M.gone k).length := List.length_pos_iff.2 hg
  clear hc ho c0 c1 c3 c4 s4 hHE hg
  have q : (((M.sec k).st : Int) != 1) = false := by rw [bne_eq_false_iff_eq]; omega
  generalize M.n = n at *
  clear h1
  go_enter Tryz.func131, Tryz.ntmps131
  go_wp2_with fail
  refine HH.out.mono ?_
  rintro e w' ⟨rfl, rfl⟩
  go_wp2_with fail
  refine HE.out.mono ?_
  rintro e w3 ⟨v3, rfl, ho3, hb3⟩
  obtain ⟨a3, c3, rfl⟩ := ownD_form ho3
  have hB : decide (0 < ((M.gone k).length : Int)) = true := decide_eq_true (by omega)
  have HB := Lib.hid hb3
  clear ho3 hb3
  go_wp2_with fail
  go_ret
  exact ⟨rfl, HB.out⟩
set_option maxRecDepth 100000 in
set_option maxHeartbeats 4000000 in
theorem clean12_nil {w : World} {g : Nat} {M : Med} {X R : Nat → Prop} {N : Nat} {L : Lay} (h : MedC w g L M X R) (ho : M.Ok N) {k : Nat} (hk : k < M.n) (h1 : (M.sec k).st = 1) (hg : M.gone k = []) (hch : (atD sm0 L.S k).c = none) :
    Calls Tryz.prog 131 #[.pointer (some ⟨g, 0, none⟩), .int .i64 (k : Nat)] w (CleanP (M.cleanR (k : Nat)) w) := by
  have hc := h
  clear h
  have HM : Hid (MedW w g M X R) := Lib.hid ⟨L, hc⟩
  have HH := Lib.hid (has12 hc ho.n.2 (k : Int))
  rw [decide_eq_true (show 0 ≤ (k : Int) ∧ (k : Int) < (M.n : Int) by omega)] at HH
  obtain ⟨c0, c1, c2, c3, c4⟩ := hc.cells
  rw [hc.n] at c2
  have hkL : k < L.S.length := by rw [hc.n]; exact hk
  have hst3 := (ho.sec k hk).st
  have s0 := hc.surf hkL (j := 0) (by decide)
  have s4 := hc.surf hkL (j := 4) (by decide)
  simp only [smD, List.getElem?_cons_zero, List.getElem?_cons_succ, hc.at_, Nat.add_zero] at s0 s4
  have hHE := erased12 HM.out ho hk
  have hcm : ChM w (atD sm0 L.S k).c (M.sec k).ch := by
    have := hc.maps k false hkL
    unfold SM.W at this
    rwa [if_neg (by decide), hc.at_] at this
  rw [hch] at s4 hcm
  have HE := Lib.hid hHE
  have HC := Lib.hid hc
  have HG := Lib.hid hg
  have H1 := Lib.hid h1
  have HCM := Lib.hid hcm
  have q : (((M.sec k).st : Int) != 1) = false := by rw [bne_eq_false_iff_eq]; omega
  have HK : Hid (0 ≤ (k : Int) ∧ (k : Int) < M.n) := Lib.hid (by omega)
  have HLT := Lib.hid hkL
  have HCH := Lib.hid hch
  obtain ⟨n, hn⟩ : ∃ n, n = M.n := ⟨_, rfl⟩
  rw [← hn] at c2
  have hkn : k < n := by omega
  have HNN := Lib.hid hn
  clear hc ho c0 c1 c3 c4 hHE hn hch hcm hg h1 hst3 hk hkL
  go_enter Tryz.func131, Tryz.ntmps131
  go_wp2_with fail
  refine HH.out.mono ?_
  rintro e w' ⟨rfl, rfl⟩
  go_wp2_with fail
  refine HE.out.mono ?_
  rintro e w3 ⟨v3, rfl, ho3, hb3⟩
  rw [HG.out] at ho3
  obtain ⟨a3, c3, rfl⟩ := ownD_form ho3
  have hcc := HC.out.below hb3
  have c2' := hcc.cells.2.2.1
  rw [hcc.n, ← HNN.out] at c2'
  have s4' := hcc.surf HLT.out (j := 4) (by decide)
  simp only [smD, List.getElem?_cons_zero, List.getElem?_cons_succ, HCH.out] at s4'
  have HB := Lib.hid hb3
  clear ho3 hb3 hcc c2 s0 s4 HE HH
  simp only [List.length_nil]
  have hrg := run_range_nilMap (P := Tryz.prog) w3 201 3 5 Tryz.underlying201
  have hnx : ∀ ty, (Instr.next (.pointer (some ⟨w3.heap.size, 0, none⟩)) false ty).run Tryz.prog (w3.alloc (.mapIter none 0 #[] 0)) = _ := fun ty => run_next_nilMap _ ty 0 0 #[]
  go_wp2_with fail
  refine wp_loop_rounds 1 ?_
  rw [rounds_succ]
  have HT : Hid (CleanP (M.cleanR (k : Nat)) w (.returned (.bool true)) (w3.alloc (.mapIter none 0 #[] 0))) := Lib.hid (by
    rw [cleanR_true ⟨HK.out, by rw [Int.toNat_natCast]; exact ⟨H1.out, HG.out, fun j _ => HCM.out j⟩⟩]
    exact ⟨rfl, HB.out.alloc HB.out.size _⟩)
  go_wp2_with fail
  go_ret
  exact HT.out
set_option maxRecDepth 100000 in
set_option maxHeartbeats 4000000 in
theorem clean12_map {w : World} {g : Nat} {M : Med} {X R : Nat → Prop} {N : Nat} {L : Lay} (h : MedC w g L M X R) (ho : M.Ok N) {k : Nat} (hk : k < M.n) (h1 : (M.sec k).st = 1) (hg : M.gone k = []) {b : Nat} (hch : (atD sm0 L.S k).c = some b) :
    Calls Tryz.prog 131 #[.pointer (some ⟨g, 0, none⟩), .int .i64 (k : Nat)] w (CleanP (M.cleanR (k : Nat)) w) := by
  have hc := h
  clear h
  have HM : Hid (MedW w g M X R) := Lib.hid ⟨L, hc⟩
  have HH := Lib.hid (has12 hc ho.n.2 (k : Int))
  rw [decide_eq_true (show 0 ≤ (k : Int) ∧ (k : Int) < (M.n : Int) by omega)] at HH
  obtain ⟨c0, c1, c2, c3, c4⟩ := hc.cells
  rw [hc.n] at c2
  have hkL : k < L.S.length := by rw [hc.n]; exact hk
  have hst3 := (ho.sec k hk).st
  have s0 := hc.surf hkL (j := 0) (by decide)
  have s4 := hc.surf hkL (j := 4) (by decide)
  simp only [smD, List.getElem?_cons_zero, List.getElem?_cons_succ, hc.at_, Nat.add_zero] at s0 s4
  have hHE := erased12 HM.out ho hk
  have hcm : ChM w (atD sm0 L.S k).c (M.sec k).ch := by
    have := hc.maps k false hkL
    unfold SM.W at this
    rwa [if_neg (by decide), hc.at_] at this
  rw [hch] at s4 hcm
  have HE := Lib.hid hHE
  have HC := Lib.hid hc
  have HG := Lib.hid hg
  have H1 := Lib.hid h1
  have HCM := Lib.hid hcm
  have q : (((M.sec k).st : Int) != 1) = false := by rw [bne_eq_false_iff_eq]; omega
  have HK : Hid (0 ≤ (k : Int) ∧ (k : Int) < M.n) := Lib.hid (by omega)
  have HLT := Lib.hid hkL
  have HCH := Lib.hid hch
  obtain ⟨n, hn⟩ : ∃ n, n = M.n := ⟨_, rfl⟩
  rw [← hn] at c2
  have hkn : k < n := by omega
  have HNN := Lib.hid hn
  clear hc ho c0 c1 c3 c4 hHE hn hch hcm hg h1 hst3 hk hkL
  go_enter Tryz.func131, Tryz.ntmps131
  go_wp2_with fail
  refine HH.out.mono ?_
  rintro e w' ⟨rfl, rfl⟩
  go_wp2_with fail
  refine HE.out.mono ?_
  rintro e w3 ⟨v3, rfl, ho3, hb3⟩
  rw [HG.out] at ho3
  obtain ⟨a3, c3, rfl⟩ := ownD_form ho3
  have hcc := HC.out.below hb3
  have c2' := hcc.cells.2.2.1
  rw [hcc.n, ← HNN.out] at c2'
  have s4' := hcc.surf HLT.out (j := 4) (by decide)
  simp only [smD, List.getElem?_cons_zero, List.getElem?_cons_succ, HCH.out] at s4'
  have HB := Lib.hid hb3
  clear ho3 hb3 hcc c2 s0 s4 HE HH
  simp only [List.length_nil]
  obtain ⟨D, hown, hbd, hat⟩ := HCM.out.kept (w' := w3) fun c hc => HB.out.block c (by
    obtain rfl := Option.some.inj hc
    obtain ⟨es, clock, hb⟩ := HCM.out.map
    exact (Array.getElem?_eq_some_iff.1 hb).1)
  have HBD := Lib.hid hbd
  have HAT := Lib.hid hat
  clear hbd hat
  go_wp2_with (first
    | (at_range; refine wpList_range_own _ rfl _ 201 rfl 3 5 lawI12 Tryz.underlying201 _ b 2352 D rfl hown ?_; intro w0 hrg0 hg0 hs0)
    | fail)
  go_frame
  have hb0 : Below w3.heap.size w3 w0 := (Below.refl _ _).grown hg0 (Nat.le_refl _) (fun k hk => by cases hk)
  have HB0 := Lib.hid (HB.out.trans (hb0.mono HB.out.size))
  have HRG := Lib.hid hrg0
  have HZ0 : Hid (∀ j : Nat, j < 2352 → Maps.has D (.int .i64 (j : Nat)) = false → (M.sec k).ch j = 0) := Lib.hid fun j hj hh => by
    have h1 := HAT.out j hj
    rw [Maps.atKey_of_not_has hh] at h1
    have h2 : ((M.sec k).ch j).toNat = 0 := by simp at h1; omega
    exact UInt8.toNat_inj.1 h2
  have HSZ3 := Lib.hid HB.out.size
  clear hb0 hown hg0 hrg0 hs0 c2' s4'
  obtain ⟨r, hr⟩ : ∃ r, r = w3.heap.size := ⟨_, rfl⟩
  have HRE := Lib.hid hr
  rw [← hr] at HRG ⊢
  clear hr
  go_loopw [6] (fun _ wr => ∃ (left : Lit → Bool) (cnt : Nat), wr.ranges Tryz.prog 3 (plainElem Tryz.prog 5) b r 2352 D left cnt ∧ Hid (∀ j : Nat, j < 2352 → left (.int .i64 (j : Nat)) = false → (M.sec k).ch j = 0) ∧ Below w.heap.size w wr) (fun _ wr => wr.rangeLeft b r)
  case atStart => exact ⟨_, _, HRG.out, HZ0, HB0.out⟩
  case round =>
    obtain ⟨left, cnt, hrg, HZ, hb⟩ := hrel
    have HBR := Lib.hid hb
    clear hb HRG HB0 HZ0
    go_wp2_with (first
      | (at_next; refine wpList_next_ranges_ii _ rfl _ rfl 3 5 .i64 .u8 lawI12 Tryz.underlying3 Tryz.underlying5 b r 2352 _ _ _ rfl hrg ?_ ?_)
      | fail)
    · intro _ hl0
      have HT : Hid (CleanP (M.cleanR (k : Nat)) w (.returned (.bool true)) wr) := Lib.hid (by
        rw [cleanR_true ⟨HK.out, by rw [Int.toNat_natCast]; exact ⟨H1.out, HG.out, fun j hj => HZ.out j hj (hl0 _)⟩⟩]
        exact ⟨rfl, HBR.out⟩)
      clear hl0 hrg
      go_wp2_with fail
      go_ret
      exact HT.out
    · intro x c w4 cnt4 hwx hwc hlx hat4 hrg4 hlt4 hg4 hs4 hen4
      have hx := HBD.out x (Maps.has_true_of_atKey hat4)
      obtain ⟨y, rfl⟩ : ∃ y : Nat, x = y := ⟨x.toNat, by omega⟩
      have hy : y < 2352 := by omega
      have hc : c = (((M.sec k).ch y).toNat : Int) := by
        have h1 := HAT.out y hy
        rw [hat4] at h1
        simpa using h1
      subst hc
      have HB4 := Lib.hid (HBR.out.grown hg4 HBR.out.size (fun k hk => by obtain rfl := Option.some.inj hk; have := HSZ3.out; have := HRE.out; omega))
      have HLE := Lib.hid (show cnt4 < cnt from hlt4)
      have HRGE := Lib.hid hrg
      have HRG4 := Lib.hid hrg4
      by_cases h0 : (M.sec k).ch y = 0
      · have q5 : ((((M.sec k).ch y).toNat : Int) != 0) = false := by rw [bne_eq_false_iff_eq, h0]; rfl
        have HZ4 : Hid (∀ j : Nat, j < 2352 → (left (.int .i64 (j : Nat)) && !(Lit.int .i64 (j : Nat)).sameKey (.int .i64 (y : Nat))) = false → (M.sec k).ch j = 0) := Lib.hid fun j hj hl => by
          by_cases e : j = y
          · rw [e]; exact h0
          · refine HZ.out j hj ?_
            have : ¬ ((j : Nat) : Int) = (y : Nat) := by omega
            simpa [Lit.sameKey, this] using hl
        clear hat4 hrg4 hg4 hlx hwx hwc hlt4 hrg h0
        go_wp2_with fail
        go_roundw
        case rel => exact ⟨_, cnt4, HRG4.out, HZ4, HB4.out⟩
        case measure => rw [HRG4.out.left_eq, HRGE.out.left_eq]; exact HLE.out
      · have q5 : ((((M.sec k).ch y).toNat : Int) != 0) = true := by
          rw [bne_iff_ne]
          intro e
          exact h0 (UInt8.toNat_inj.1 (by simpa using e))
        have HT : Hid (CleanP (M.cleanR (k : Nat)) w (.returned (.bool false)) w4) := Lib.hid (by
          rw [cleanR_false fun h => h0 (h.2.2.2 y hy)]
          exact ⟨rfl, HB4.out⟩)
        clear hat4 hrg4 hg4 hlx hwx hwc hlt4 hrg h0
        go_wp2_with fail
        go_ret
        exact HT.out
theorem clean12 {w : World} {g : Nat} {M : Med} {X R : Nat → Prop} {N : Nat} (h : MedW w g M X R) (ho : M.Ok N) (a : Int) :
    Calls Tryz.prog 131 #[.pointer (some ⟨g, 0, none⟩), .int .i64 a] w (CleanP (M.cleanR a) w) := by
  by_cases hr : 0 ≤ a ∧ a < (M.n : Int)
  · obtain ⟨k, rfl⟩ : ∃ k : Nat, a = k := ⟨a.toNat, by omega⟩
    have hk : k < M.n := by omega
    by_cases h1 : (M.sec k).st = 1
    · by_cases hg : M.gone k = []
      · obtain ⟨L, h⟩ := h
        cases hch : (atD sm0 L.S k).c with
        | none => exact clean12_nil h ho hk h1 hg hch
        | some b => exact clean12_map h ho hk h1 hg hch
      · rw [cleanR_false fun h => by
          rw [Int.toNat_natCast] at h
          obtain ⟨_, _, h2, _⟩ := h
          exact hg h2]
        exact clean12_gone h ho hk h1 hg
    · rw [cleanR_false fun h => h1 h.2.1]
      exact clean12_bad h ho hk h1
  · rw [cleanR_false fun h => hr h.1]
    exact clean12_range h ho a hr
end Go.Proofs.YtflmjdjkfognjaaGreat.D12
