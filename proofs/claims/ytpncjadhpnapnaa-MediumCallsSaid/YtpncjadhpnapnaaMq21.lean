/- Chapter 12: rows of marks and of changes: copied, set, read. -/
import Derived.Test.YtpncjadhpnapnaaMq20
import Derived.Laws.CopyOwn
/- Chapter 12: the reference walked: Valid. -/
namespace Go.Proofs.Ytpncjadhpnapnaa.D12
open Go.RowKit Go.Maps C9
open D13 (RdI ixI is)
set_option linter.unusedVariables false

open Classical in
noncomputable def Dam.okB (d : Dam) (n : Nat) : Bool := decide (d.Ok n)
theorem Dam.okB_no {d : Dam} {n : Nat} (h : ¬ d.Ok n) : d.okB n = false := by simp [Dam.okB, h]
theorem Dam.okB_yes {d : Dam} {n : Nat} (h : d.Ok n) : d.okB n = true := by simp [Dam.okB, h]
set_option maxRecDepth 100000 in
set_option maxHeartbeats 4000000 in
theorem rvalid12 {w : World} {vE vC : Value} {d : Dam} (hd : DamV w vE vC d) (n : Nat) (hn : n ≤ 4096) :
    Calls Try.prog 52 #[.int .i64 (n : Nat), damv vE vC d] w fun e w' => e = .returned (.bool (d.okB n)) ∧ Below w.heap.size w w' := by
  obtain ⟨hE, hC, hlba, hlen, hwf⟩ := hd
  obtain ⟨lba, E, C⟩ := d
  simp only at hE hC hlba hlen hwf
  obtain ⟨hEl, ⟨aE, cE, bE, oE, rfl, hEc, hEr⟩, hEw⟩ := hE
  obtain ⟨aC, cC, rfl, hCc⟩ := RdD.form hC
  obtain ⟨bC, oC, hCr⟩ := RdD.at hC
  have HER := Lib.hid hEr
  have HCR := Lib.hid hCr
  have HEW := Lib.hid hEw
  have HCW := Lib.hid hwf
  clear hEr hCr hEw hwf hC
  obtain ⟨w1, hw1⟩ : ∃ w1, w1 = w.alloc (.cells #[.int .i64 lba, .slice aE E.length cE, .slice aC C.length cC] 44) := ⟨_, rfl⟩
  have hA1 := (Below.refl w.heap.size w).alloc (Nat.le_refl _) (.cells #[.int .i64 lba, .slice aE E.length cE, .slice aC C.length cC] 44)
  rw [← hw1] at hA1
  have hB1 : Bx w1 w.heap.size 44 [.int .i64 lba, .slice aE E.length cE, .slice aC C.length cC] := by rw [hw1]; exact Bx.new w _ _
  obtain ⟨b, hb⟩ : ∃ b, b = w.heap.size := ⟨_, rfl⟩
  have hs1 : w1.heap.size = b + 1 := by rw [hw1, hb]; simp
  rw [← hb] at hB1
  have H1 := Lib.hid hB1
  have HA := Lib.hid hA1
  have HB := Lib.hid hb
  have HS := Lib.hid hs1
  have HW : Hid ((w.alloc (.cells #[.int .i64 lba, .slice aE E.length cE, .slice aC C.length cC] 44)) = w1) := Lib.hid (by rw [hw1])
  clear hw1 hA1 hB1  hb
  have HNO : Hid (¬ (⟨lba, E, C⟩ : Dam).Ok n → (⟨lba, E, C⟩ : Dam).okB n = false) := Lib.hid Dam.okB_no
  have HYES : Hid ((⟨lba, E, C⟩ : Dam).Ok n → (⟨lba, E, C⟩ : Dam).okB n = true) := Lib.hid Dam.okB_yes
  generalize (⟨lba, E, C⟩ : Dam).okB n = R at *
  have b0 := H1.out.cell (i := 0) rfl
  have b1 := H1.out.cell (i := 1) rfl
  have b2 := H1.out.cell (i := 2) rfl
  go_enter Try.func52, Try.ntmps52
  unfold damv
  go_upto_region 1 with (fail)
  rw [HW.out, ← HB.out]
  go_wp2_with fail
  go_loopw [5] (fun vk wr => ∃ k : Nat, k ≤ E.length ∧ vk = .int .i64 k ∧ Hid (erK E k) ∧ Bx wr b 44 [.int .i64 lba, .slice aE E.length cE, .slice aC C.length cC] ∧ Below w.heap.size w wr) (fun vk _ => E.length - (RowKit.intOf vk).toNat)
  case atStart => exact ⟨0, by omega, rfl, Lib.hid ⟨fun i hi => by omega, fun i hi => by omega⟩, H1.out, HA.out⟩
  case round =>
    clear b0 b1 b2 HA H1 HW HS
    obtain ⟨k, hk, rfl, HK, hbx, hb⟩ := hrel
    have b1 := hbx.cell (i := 1) rfl
    have H1 := Lib.hid hbx
    have HA := Lib.hid hb
    clear hbx hb
    by_cases hlt : k < E.length
    · obtain ⟨ha, hcell0⟩ := HER.out k hlt
      have hcell := (HA.out.cell (p := ⟨bE, oE + k, none⟩) (World.block_lt_of_cell? w _ hcell0)).trans hcell0
      have hx := HEW.out k hlt
      have hix := fun w' => run_idxS Try.underlying30 Try.sizeInt9 (cap := cE) ha hlt k rfl w'
      simp only [Nat.mul_one] at hix
      by_cases hx0 : ixI E k < 0
      · have HR := Lib.hid (HNO.out fun h2 => erK_not hlt (fun h3 => by have := ((erK_step HK.out).1 h3).1; omega) HK.out h2.2.1)
        generalize ixI E k = x at *
        clear hcell0 ha
        have q0 : decide (x < 0) = true := decide_eq_true hx0
        clear hx0
        go_wp2_with fail
        go_quiet (fail)
        go_wp2_with fail
        go_ret
        exact ⟨by rw [HR.out]; rfl, Below.drewN HA.out _⟩
      by_cases hx1 : 2352 ≤ ixI E k
      · have HR := Lib.hid (HNO.out fun h2 => erK_not hlt (fun h3 => by have := ((erK_step HK.out).1 h3).1; omega) HK.out h2.2.1)
        generalize ixI E k = x at *
        clear hcell0 ha
        have q0 : decide (x < 0) = false := decide_eq_false hx0
        have q1 : decide (2352 ≤ x) = true := decide_eq_true hx1
        clear hx0 hx1
        go_wp2_with fail
        go_quiet (fail)
        go_wp2_with fail
        go_ret
        exact ⟨by rw [HR.out]; rfl, Below.drewN HA.out _⟩
      have hin : 0 ≤ ixI E k ∧ ixI E k < 2352 := by omega
      by_cases h0 : k = 0
      · subst h0
        have HSs := Lib.hid ((erK_step HK.out).2 ⟨hin, fun h => by omega⟩)
        have hix0 := fun w' => run_idxS Try.underlying30 Try.sizeInt9 (cap := cE) ha hlt (0 : Int) rfl w'
        simp only [Nat.zero_mul, Nat.add_zero] at hix0 hcell
        generalize ixI E 0 = x at *
        clear hcell0 hix ha
        have q0 : decide (x < 0) = false := decide_eq_false hx0
        have q1 : decide (2352 ≤ x) = false := decide_eq_false hx1
        clear hx0 hx1 hin
        go_wp2_with fail
        go_quiet (fail)
        go_wp2_with fail
        go_roundw
        case rel => exact ⟨1, by omega, by go_num, HSs.out, H1.out.call (Below.drewN (Below.refl _ _) _), Below.drewN HA.out _⟩
        case measure => simp [RowKit.intOf]; omega
      · have hk1 : k - 1 < E.length := by omega
        have hcellp0 := (HER.out (k - 1) hk1).2
        have hcellp := (HA.out.cell (p := ⟨bE, oE + (k - 1), none⟩) (World.block_lt_of_cell? w _ hcellp0)).trans hcellp0
        have hwk : IntKind.i64.wrap ((k : Int) - 1) = (k : Int) - 1 := IntWalk.i64_in _ (by omega)
        have hixp := fun w' => run_idxS Try.underlying30 Try.sizeInt9 (cap := cE) ha hk1 ((k : Int) - 1) (by omega) w'
        simp only [Nat.mul_one] at hixp
        have hxp := HEW.out (k - 1) hk1
        have h0' : 0 < k := by omega
        have q2 : decide (0 < (k : Int)) = true := decide_eq_true (by omega)
        have q0 : decide (ixI E k < 0) = false := decide_eq_false hx0
        have q1 : decide (2352 ≤ ixI E k) = false := decide_eq_false hx1
        by_cases hle : ixI E k ≤ ixI E (k - 1)
        · have HR := Lib.hid (HNO.out fun h2 => erK_not hlt (fun h3 => by have := ((erK_step HK.out).1 h3).2 h0'; omega) HK.out h2.2.1)
          generalize ixI E k = x at *
          generalize ixI E (k - 1) = y at *
          have q3 : decide (x ≤ y) = true := decide_eq_true hle
          clear hcell0 hcellp0 ha hx0 hx1 hin hle
          go_wp2_with fail
          go_quiet (fail)
          go_wp2_with fail
          go_ret
          exact ⟨by rw [HR.out]; rfl, Below.drewN HA.out _⟩
        · have HSs := Lib.hid ((erK_step HK.out).2 ⟨hin, fun _ => by omega⟩)
          generalize ixI E k = x at *
          generalize ixI E (k - 1) = y at *
          have q3 : decide (x ≤ y) = false := decide_eq_false hle
          clear hcell0 hcellp0 ha hx0 hx1 hin hle
          go_wp2_with fail
          go_quiet (fail)
          go_wp2_with fail
          go_roundw
          case rel => exact ⟨k + 1, by omega, by go_num, HSs.out, H1.out.call (Below.drewN (Below.refl _ _) _), Below.drewN HA.out _⟩
          case measure => simp [RowKit.intOf]; omega
    · have b0 := H1.out.cell (i := 0) rfl
      have b2 := H1.out.cell (i := 2) rfl
      have hE1 := Lib.hid (erK_all (by have : k = E.length := by omega
                                       subst this; exact HK.out))
      clear HK
      have hke : k = E.length := by omega
      subst hke
      go_wp2_with fail
      go_loopw [6] (fun vk wr2 => ∃ k : Nat, k ≤ C.length ∧ vk = .int .i64 k ∧ Hid (chK C k) ∧ Bx wr2 b 44 [.int .i64 lba, .slice aE E.length cE, .slice aC C.length cC] ∧ Below w.heap.size w wr2) (fun vk _ => C.length - (RowKit.intOf vk).toNat)
      case atStart => exact ⟨0, by omega, rfl, Lib.hid fun i hi => by omega, H1.out, HA.out⟩
      case round =>
        clear b0 b1 b2 HA H1
        obtain ⟨k, hk, rfl, HK, hbx, hb⟩ := hrel
        obtain ⟨wo, rfl⟩ : ∃ wo : World, wo = wr := ⟨_, rfl⟩
        have hbs := hb.size
        by_cases hlt : k < C.length
        · obtain ⟨ha, hrange⟩ := HCR.out k hlt
          have hw9 := HCW.out k hlt
          have HN1 := Lib.hid (fun (h : ¬ chOk1 (chA C k)) => HNO.out fun h2 => chK_not hlt h h2.2.2)
          have HSS : Hid (chOk1 (chA C k) → chK C (k + 1)) := Lib.hid fun h m hm => by
            by_cases e : m < k
            · exact HK.out m e
            · have : m = k := by omega
              rw [this]; exact h
          change w.rangeAt bC (oC + k * 2) (chc (chA C k)) at hrange
          generalize chA C k = x at *
          obtain ⟨co, cx⟩ := x
          have hrg : wo.rangeAt bC (oC + k * 2) (chc ⟨co, cx⟩) := fun j u hu => (hb.cell (p := ⟨bC, oC + k * 2 + j, none⟩) (World.block_lt_of_cell? w _ (hrange j u hu))).trans (hrange j u hu)
          clear hrange
          obtain ⟨hc0, hc1⟩ := rdc hrg
          clear hrg
          simp only at hc0 hc1 hw9
          have hix := fun w' => run_idxS Try.underlying42 Try.sizeCh12 (cap := cC) ha hlt k rfl w'
          clear ha
          have hA := (Below.refl wo.heap.size wo).alloc (Nat.le_refl _) (.cells #[.int .i64 co, .int .i64 cx] 105)
          have hb2 := hb.trans (hA.mono hbs)
          have hbx2 := hbx.call hA
          have HB2 := Lib.hid hb2
          have HX2 := Lib.hid hbx2
          have b2 := hbx.cell (i := 2) rfl
          clear hb2 hbx2 hA hbx hb
          by_cases hx0 : co < 0
          · have HR := Lib.hid (HN1.out (fun h => by unfold chOk1 at h; omega))
            have q0 : decide (co < 0) = true := decide_eq_true hx0
            clear hx0
            go_wp2_with fail
            go_ret
            exact ⟨by rw [HR.out]; rfl, HB2.out⟩
          have q0 : decide (co < 0) = false := decide_eq_false hx0
          by_cases hx1 : 2352 ≤ co
          · have HR := Lib.hid (HN1.out (fun h => by unfold chOk1 at h; omega))
            have q1 : decide (2352 ≤ co) = true := decide_eq_true hx1
            clear hx0 hx1
            go_wp2_with fail
            go_ret
            exact ⟨by rw [HR.out]; rfl, HB2.out⟩
          have q1 : decide (2352 ≤ co) = false := decide_eq_false hx1
          by_cases hx2 : cx < 1
          · have HR := Lib.hid (HN1.out (fun h => by unfold chOk1 at h; omega))
            have q2 : decide (cx < 1) = true := decide_eq_true hx2
            clear hx0 hx1 hx2
            go_wp2_with fail
            go_ret
            exact ⟨by rw [HR.out]; rfl, HB2.out⟩
          have q2 : decide (cx < 1) = false := decide_eq_false hx2
          by_cases hx3 : 255 < cx
          · have HR := Lib.hid (HN1.out (fun h => by unfold chOk1 at h; omega))
            have q3 : decide (255 < cx) = true := decide_eq_true hx3
            clear hx0 hx1 hx2 hx3
            go_wp2_with fail
            go_ret
            exact ⟨by rw [HR.out]; rfl, HB2.out⟩
          have q3 : decide (255 < cx) = false := decide_eq_false hx3
          have HR := Lib.hid (HSS.out (by unfold chOk1; simp only; omega))
          clear hx0 hx1 hx2 hx3
          go_wp2_with fail
          go_roundw
          case rel => exact ⟨k + 1, by omega, by go_num, HR.out, HX2.out, HB2.out⟩
          case measure => simp [RowKit.intOf]; omega
        · have hC1 := Lib.hid (chK_all (by have : k = C.length := by omega
                                           subst this; exact HK.out))
          have b0 := hbx.cell (i := 0) rfl
          have b2 := hbx.cell (i := 2) rfl
          have HB2 := Lib.hid hb
          clear hb hbx HK
          by_cases hl0 : 0 ≤ lba
          · have q0 : decide (0 ≤ lba) = true := decide_eq_true hl0
            by_cases hl1 : lba < (n : Int)
            · have HR := Lib.hid (HYES.out ⟨⟨hl0, hl1⟩, hE1.out, hC1.out⟩)
              have q1 : decide (lba < (n : Int)) = true := decide_eq_true hl1
              clear hl0 hl1
              go_wp2_with fail
              go_ret
              exact ⟨by rw [HR.out]; rfl, HB2.out⟩
            · have HR := Lib.hid (HNO.out fun h => hl1 h.1.2)
              have q1 : decide (lba < (n : Int)) = false := decide_eq_false hl1
              clear hl0 hl1
              go_wp2_with fail
              go_ret
              exact ⟨by rw [HR.out]; rfl, HB2.out⟩
          · have HR := Lib.hid (HNO.out fun h => hl0 h.1.1)
            have q0 : decide (0 ≤ lba) = false := decide_eq_false hl0
            clear hl0
            go_wp2_with fail
            go_ret
            exact ⟨by rw [HR.out]; rfl, HB2.out⟩
end Go.Proofs.Ytpncjadhpnapnaa.D12
namespace Go.Proofs.Ytpncjadhpnapnaa.D12
open Go.RowKit Go.Maps C9
open D13 (RdI ixI is)
set_option linter.unusedVariables false

theorem mkE_len (f : Nat → Bool) : (mkE f).length = 2352 := by simp [mkE]
theorem mkC_len (f : Nat → UInt8) : (mkC f).length = 2352 := by simp [mkC]
theorem mkE_get (f : Nat → Bool) {k : Nat} (h : k < 2352) : (mkE f)[k]? = some (f k) := by simp [mkE, h]
theorem mkC_get (f : Nat → UInt8) {k : Nat} (h : k < 2352) : (mkC f)[k]? = some (f k) := by simp [mkC, h]
theorem mkC_ix (f : Nat → UInt8) {k : Nat} (h : k < 2352) : G.ix (mkC f) k = f k := by simp [G.ix, mkC, h]
theorem mkE_congr {f g : Nat → Bool} (h : ∀ k, k < 2352 → f k = g k) : mkE f = mkE g := List.map_congr_left fun k hk => h k (List.mem_range.1 hk)
theorem mkC_congr {f g : Nat → UInt8} (h : ∀ k, k < 2352 → f k = g k) : mkC f = mkC g := List.map_congr_left fun k hk => h k (List.mem_range.1 hk)
theorem mkE_set {f : Nat → Bool} {a : Nat} {b : Bool} (ha : a < 2352) : (mkE f).set a b = mkE (fun k => if k = a then b else f k) := by
  apply List.ext_getElem?
  intro k
  by_cases hk : k < 2352
  · rw [mkE_get _ hk, List.getElem?_set]
    by_cases e : a = k
    · rw [if_pos e, if_pos (by rw [mkE_len]; omega), if_pos e.symm]
    · rw [if_neg e, mkE_get _ hk, if_neg (fun h => e h.symm)]
  · rw [List.getElem?_eq_none (by rw [List.length_set, mkE_len]; omega), List.getElem?_eq_none (by rw [mkE_len]; omega)]
theorem mkC_set {f : Nat → UInt8} {a : Nat} {b : UInt8} (ha : a < 2352) : (mkC f).set a b = mkC (fun k => if k = a then b else f k) := by
  apply List.ext_getElem?
  intro k
  by_cases hk : k < 2352
  · rw [mkC_get _ hk, List.getElem?_set]
    by_cases e : a = k
    · rw [if_pos e, if_pos (by rw [mkC_len]; omega), if_pos e.symm]
    · rw [if_neg e, mkC_get _ hk, if_neg (fun h => e h.symm)]
  · rw [List.getElem?_eq_none (by rw [List.length_set, mkC_len]; omega), List.getElem?_eq_none (by rw [mkC_len]; omega)]
theorem mkE_false : mkE (fun _ => false) = List.replicate 2352 false := by
  unfold mkE
  rw [List.map_const', List.length_range]
theorem mkC_zero : mkC (fun _ => 0) = List.replicate 2352 0 := by
  unfold mkC
  rw [List.map_const', List.length_range]
theorem EpE.len {f : Nat → Bool} {l : List Bool} (h : EpE f l) : l.length ≤ 2352 := by
  rcases h with ⟨e, _⟩ | e
  · rw [e]; exact Nat.zero_le _
  · rw [e]; exact Nat.le_of_eq (mkE_len f)
theorem EpC.len {f : Nat → UInt8} {l : List UInt8} (h : EpC f l) : l.length ≤ 2352 := by
  rcases h with ⟨e, _⟩ | e
  · rw [e]; exact Nat.zero_le _
  · rw [e]; exact Nat.le_of_eq (mkC_len f)
theorem splice_none {α : Type} (X : List α) : Go.splice X 0 [] = X := by simp [Go.splice]
theorem EpE.splice {f : Nat → Bool} {l : List Bool} (h : EpE f l) : Go.splice (bb (List.replicate 2352 false)) 0 (bb l) = bb (mkE f) := by
  rcases h with ⟨e, h⟩ | e
  · rw [e, show mkE f = mkE (fun _ => false) from mkE_congr h, mkE_false]
    exact splice_none _
  · unfold Go.splice
    rw [e, List.take_zero, List.nil_append, bb_length, mkE_len, List.drop_eq_nil_of_le (by rw [bb_length, List.length_replicate]; omega), List.append_nil]
theorem EpC.splice {f : Nat → UInt8} {l : List UInt8} (h : EpC f l) : Go.splice (bs (List.replicate 2352 0)) 0 (bs l) = bs (mkC f) := by
  rcases h with ⟨e, h⟩ | e
  · rw [e, show mkC f = mkC (fun _ => 0) from mkC_congr h, mkC_zero]
    exact splice_none _
  · unfold Go.splice
    rw [e, List.take_zero, List.nil_append, bs_length, mkC_len, List.drop_eq_nil_of_le (by rw [bs_length, List.length_replicate]; omega), List.append_nil]
theorem bb_one (l : List Bool) : ∀ u ∈ bb l, u.oneCell' = true := by
  intro u hu
  simp only [bb, List.mem_map] at hu
  obtain ⟨b, _, rfl⟩ := hu
  rfl
/-- a row of marks copied to a row of false -/
theorem wpList_cpE {P : Program} {w : World} {ops : Array Oper} {rest : List Oper} {o : Oper} {a : Act} {Q : Exit → Act → World → Prop} (hgd : o.guard = none) (d s : Operand) {dT sT : TypeId}
    (ho : o.op = .call { callee := .builtin .copy, args := #[d, s], argTypes := #[dT, sT] }) {elem : TypeId} (hu : P.underlying dT = some (.slice elem)) (hsz : (P.info? elem).map (·.size) = some 1)
    (ae : Option Addr) (ne ce g : Nat) {l : List Bool} {f : Nat → Bool} {w0 : World} (hd : a.eval d = .slice (some ⟨g, 0, none⟩) 2352 2352) (hs : a.eval s = .slice ae ne ce)
    (hg : Bx w g elem (bb (List.replicate 2352 false))) (hr : RdBo w (.slice ae ne ce) l) (hf : EpE f l) (hgw : w0.heap.size ≤ g) (hb : Below w0.heap.size w0 w)
    (h : ∀ w', Bx w' g elem (bb (mkE f)) → Below w0.heap.size w0 w' → wpList P ops Q rest (a.put o.dst (.int .i64 (ne : Nat))) w') : wpList P ops Q (o :: rest) a w := by
  obtain ⟨a1, c1, e1, hc1⟩ := RdD.form hr
  simp only [Value.slice.injEq] at e1
  obtain ⟨rfl, rfl, rfl⟩ := e1
  have hl := hf.len
  refine wpList_copy_splice hgd d s dT sT ho elem hu hsz (some ⟨g, 0, none⟩) ae 2352 2352 l.length ce hd hs g 0 (bb (List.replicate 2352 false)) elem hg (bb l) (by rw [bb_length]; exact (Nat.min_eq_left hl).symm) (fun hp => ⟨rfl, ?_⟩) (by rw [bb_length, bb_length, List.length_replicate]; omega) (bb_one l) w0.heap.size w0 hb hgw fun w' h1 h2 => ?_
  · obtain ⟨b, off, hcell⟩ := RdD.at hr
    rw [bb_length] at hp
    refine ⟨⟨b, off, none⟩, (hcell 0 hp).1, fun j v hv => ?_⟩
    have hj : j < l.length := by
      have := (List.getElem?_eq_some_iff.1 hv).1
      rwa [bb_length] at this
    have hc := (hcell j hj).2 0 (.bool (atD false l j)) rfl
    have ev : v = .bool (atD false l j) := by
      simp only [bb, List.getElem?_map] at hv
      simp only [atD]
      rw [List.getElem?_eq_getElem hj] at hv ⊢
      simpa using hv.symm
    rw [ev]
    rw [Addr.add_lit]
    simpa using hc
  · have h3 := h1.out
    rw [hf.splice] at h3
    have := h w' h3 h2
    rwa [show goInt ((bb l).length : Int) = .int .i64 (l.length : Nat) from by rw [bb_length]; rfl]
/-- a row of changes copied to a row of zeros -/
theorem wpList_cpC {P : Program} {w : World} {ops : Array Oper} {rest : List Oper} {o : Oper} {a : Act} {Q : Exit → Act → World → Prop} (hgd : o.guard = none) (d s : Operand) {dT sT : TypeId}
    (ho : o.op = .call { callee := .builtin .copy, args := #[d, s], argTypes := #[dT, sT] }) {elem : TypeId} (hu : P.underlying dT = some (.slice elem)) (hsz : (P.info? elem).map (·.size) = some 1)
    (ae : Option Addr) (ne ce g : Nat) {l : List UInt8} {f : Nat → UInt8} {w0 : World} (hd : a.eval d = .slice (some ⟨g, 0, none⟩) 2352 2352) (hs : a.eval s = .slice ae ne ce)
    (hg : Bx w g elem (bs (List.replicate 2352 0))) (hr : Rd w (.slice ae ne ce) l) (hf : EpC f l) (hgw : w0.heap.size ≤ g) (hb : Below w0.heap.size w0 w)
    (h : ∀ w', Bx w' g elem (bs (mkC f)) → Below w0.heap.size w0 w' → wpList P ops Q rest (a.put o.dst (.int .i64 (ne : Nat))) w') : wpList P ops Q (o :: rest) a w := by
  obtain ⟨_, a1, c1, b, off, e1, hc1, hcell⟩ := hr
  simp only [Value.slice.injEq] at e1
  obtain ⟨rfl, rfl, rfl⟩ := e1
  have hl := hf.len
  refine wpList_copy_splice hgd d s dT sT ho elem hu hsz (some ⟨g, 0, none⟩) ae 2352 2352 l.length ce hd hs g 0 (bs (List.replicate 2352 0)) elem hg (bs l) (by rw [bs_length]; exact (Nat.min_eq_left hl).symm) (fun hp => ⟨rfl, ?_⟩) (by rw [bs_length, bs_length, List.length_replicate]; omega) (bs_one l) w0.heap.size w0 hb hgw fun w' h1 h2 => ?_
  · rw [bs_length] at hp
    refine ⟨⟨b, off, none⟩, (hcell 0 hp).1, fun j v hv => ?_⟩
    have hj : j < l.length := by
      have := (List.getElem?_eq_some_iff.1 hv).1
      rwa [bs_length] at this
    rw [bs_get hj] at hv
    obtain rfl := Option.some.inj hv
    rw [Addr.add_lit]
    exact (hcell j hj).2
  · have h3 := h1.out
    rw [hf.splice] at h3
    have := h w' h3 h2
    rwa [show goInt ((bs l).length : Int) = .int .i64 (l.length : Nat) from by rw [bs_length]; rfl]
theorem Bx.rdBo {W : World} {g t : Nat} {l : List Bool} (h : Bx W g t (bb l)) : RdBo W (.slice (some ⟨g, 0, none⟩) l.length l.length) l := by
  refine ⟨some ⟨g, 0, none⟩, l.length, g, 0, rfl, Nat.le_refl _, fun i hi => ⟨rfl, fun j u hu => ?_⟩⟩
  cases j with
  | zero =>
    simp only [bD, List.getElem?_cons_zero, Option.some.injEq] at hu
    subst hu
    simp only [Nat.zero_add, Nat.mul_one, Nat.add_zero]
    exact h.cell (i := i) (bb_get (by simp [atD, hi]))
  | succ j => simp [bD] at hu
theorem Bx.rdB {W : World} {g t : Nat} {l : List UInt8} (h : Bx W g t (bs l)) (hl : l.length ≤ 140737488351232) : Rd W (.slice (some ⟨g, 0, none⟩) l.length l.length) l :=
  ⟨hl, some ⟨g, 0, none⟩, l.length, g, 0, rfl, Nat.le_refl _, fun i hi => ⟨rfl, by rw [Nat.zero_add]; exact h.cell (bs_get hi)⟩⟩
/-- a mark more -/
theorem mkE_snoc (f : Nat → Bool) {l : List Int} {k a : Nat} (hk : k < l.length) (hx : ixI l k = (a : Int)) (ha : a < 2352) : (bb (mkE (erF f (l.take k)))).set a (.bool true) = bb (mkE (erF f (l.take (k + 1)))) := by
  rw [bb_set, mkE_set ha, List.take_succ_eq_append_getElem hk, ← D13.ixI_get hk, hx, erF_snoc]
  refine congrArg bb (mkE_congr fun j _ => ?_)
  by_cases e : j = a
  · rw [if_pos e, if_pos (by rw [e])]
  · rw [if_neg e, if_neg (by omega)]
/-- a change more -/
theorem mkC_snoc (f : Nat → UInt8) {l : List (Int × Int)} {k a : Nat} (hk : k < l.length) (hx : (chA l k).1 = (a : Int)) (ha : a < 2352) : (bs (mkC (chF f (l.take k)))).set a (B (chF f (l.take k) a ^^^ b8 (chA l k).2)) = bs (mkC (chF f (l.take (k + 1)))) := by
  have e1 : chA l k = l[k] := by simp [chA, atD, hk]
  rw [bs_set, mkC_set ha, List.take_succ_eq_append_getElem hk, ← e1, chF_snoc]
  refine congrArg bs (mkC_congr fun j _ => ?_)
  unfold ch1
  by_cases e : j = a
  · rw [if_pos e, if_pos (by rw [hx, e]), e]
  · rw [if_neg e, if_neg (by omega)]
end Go.Proofs.Ytpncjadhpnapnaa.D12
