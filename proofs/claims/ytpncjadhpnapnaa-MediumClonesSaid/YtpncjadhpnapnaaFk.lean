/- Chapter 12: Raw of the reference walked. -/
import Derived.Test.YtpncjadhpnapnaaFj
namespace Go.Proofs.Ytpncjadhpnapnaa.D12
open Go.RowKit Go.Maps C9
open D13 (RdI ixI)
set_option linter.unusedVariables false

theorem Try.infoB12 : (Try.prog.info? 5).map (fun i => (i.zero, i.size, i.bytes)) = some (some (.int .u8 0), 1, 1) := by kernel_rfl
def actv (k a b : Int) (sh : Bool) (vs vE vC : Value) (d : Dam) : Value := .agg #[.int .i64 k, .int .i64 a, .int .i64 b, .bool sh, vs, .int .i64 d.lba, vE, vC]
theorem b8_wrap (x : Int) : wrap64 x % 256 = ((b8 x).toNat : Int) := by
  unfold b8 wrap64
  rw [UInt8.toNat_ofNat']
  omega
set_option maxRecDepth 100000 in
set_option maxHeartbeats 2000000 in
theorem raw12 (k a b : Int) (sh : Bool) (vs vE vC : Value) (d : Dam) (hb : In64 b) (w : World) :
    Calls Try.prog 17 #[actv k a b sh vs vE vC d] w fun e w' => e = .returned (.string (str (rawR b sh))) ∧ Below w.heap.size w w' := by
  cases sh with
  | true =>
    go_enter Try.func17, Try.ntmps17
    unfold actv
    go_wp2_with fail
    have hb1 : Below w.heap.size w (w.alloc (.cells #[.int .i64 k, .int .i64 a, .int .i64 b, .bool true, vs, .int .i64 d.lba, vE, vC] 46)) := (Below.refl _ w).alloc (Nat.le_refl _) _
    have hx1 := Bx.new w 46 [.int .i64 k, .int .i64 a, .int .i64 b, .bool true, vs, .int .i64 d.lba, vE, vC]
    obtain ⟨w1, hw1⟩ : ∃ w1, w1 = w.alloc (.cells #[.int .i64 k, .int .i64 a, .int .i64 b, .bool true, vs, .int .i64 d.lba, vE, vC] 46) := ⟨_, rfl⟩
    change Bx (w.alloc (.cells #[.int .i64 k, .int .i64 a, .int .i64 b, .bool true, vs, .int .i64 d.lba, vE, vC] 46)) _ _ _ at hx1
    have hs1 : w1.heap.size = w.heap.size + 1 := by rw [hw1]; simp
    rw [← hw1] at hb1 hx1 ⊢
    rw [← hs1]
    have ho0 : (w1.alloc (.cells #[] 5)).ownsRow w1.heap.size 5 1 (.slice (some ⟨w1.heap.size, 0, none⟩) 0 0) 0 (bs (rawK b 0)) := World.ownsRow_lit w1 #[] 0 (Nat.le_refl _) (by simp) (by simp)
    have hb0 := hb1.alloc hb1.size (.cells #[] 5)
    have hx0 := hx1.alloc (.cells #[] 5)
    have HS := Lib.hid hs1
    clear hb1 hx1 hw1 hs1
    go_loopw [3, 5] (fun vo vk wr => ∃ j : Nat, j ≤ 2351 ∧ vk = .int .i64 j ∧ wr.ownsRow w1.heap.size 5 1 vo j (bs (rawK b j)) ∧ Bx wr w.heap.size 46 [.int .i64 k, .int .i64 a, .int .i64 b, .bool true, vs, .int .i64 d.lba, vE, vC] ∧ Below w.heap.size w wr) (fun _ vk _ => 2351 - (RowKit.intOf vk).toNat)
    case atStart => exact ⟨0, by omega, rfl, ho0, hx0, hb0⟩
    case round =>
      clear ho0 hx0 hb0
      obtain ⟨j, hj, rfl, ho, hx, hbb⟩ := hrel
      by_cases hlt : j < 2351
      · have hbs := hbb.size
        have hc2 := hx.cell (i := 2) rfl
        obtain ⟨c, hcd⟩ : ∃ c, c = b8 (b + (j % 7 : Nat)) := ⟨_, rfl⟩
        have hwp : wrap64 (b + (j : Int) % 7) % 256 = (c.toNat : Int) := by
          rw [hcd]
          have := b8_wrap (b + (j % 7 : Nat))
          push_cast at this ⊢
          exact this
        have HK := Lib.hid (rawK_succ b j)
        rw [← hcd] at HK
        clear hcd
        have hal := (Below.refl wr.heap.size wr).alloc (Nat.le_refl _) (.cells #[B c] 5)
        have ho6 := ownD_keep ho hal
        have hx6 := hx.call hal
        have hrd1 : Rd (wr.alloc (.cells #[B c] 5)) (.slice (some ⟨wr.heap.size, 0, none⟩) 1 1) [c] := Rd.ofOwn' (World.ownsRow_lit wr #[B c] 1 (Nat.le_refl _) (by simp [maxLen]) (by simp)) (by simp)
        have hb6 := hbb.trans (hal.mono hbs)
        have hlt1 := hx6.lt
        have hb6s : w1.heap.size ≤ (wr.alloc (.cells #[B c] 5)).heap.size := by rw [HS.out]; omega
        have HX6 := Lib.hid hx6
        have HB6 := Lib.hid hb6
        have HO6 := Lib.hid ho6
        clear ho hx hbb hal hx6 hb6
        go_wp2_with (refine wpList_appB rfl _ _ rfl Try.underlying52 Try.infoB12 HO6.out rfl hrd1 rfl (by simp; omega) hb6s ?_; intro v7 w7 hown7 hgr7 _)
        have hb7 := HB6.out.grown hgr7 HB6.out.size (fun q hq => by have := ownD_block HO6.out q hq; rw [HS.out] at this; omega)
        have hx7 := (hgr7.block w.heap.size hlt1 (fun e => by have := ownD_block HO6.out _ e.symm; rw [HS.out] at this; omega)).trans HX6.out
        rw [show ([c] : List UInt8).length = 1 from rfl, ← HK.out] at hown7
        clear hgr7
        go_roundw
        case rel => exact ⟨j + 1, by omega, by go_num, hown7, hx7, hb7⟩
        case measure => simp [RowKit.intOf]; omega
      · obtain rfl : j = 2351 := by omega
        have hrd := Rd.ofOwn' ho (by omega)
        obtain ⟨a3, c3, rfl⟩ := hrd.form
        have hcx := run_str (P := Try.prog) Try.underlying52 Try.underlying5 Try.underlying9 hrd
        clear ho hrd
        go_wp2_with fail
        go_ret
        exact ⟨rfl, hbb⟩
  | false =>
    go_enter Try.func17, Try.ntmps17
    unfold actv
    go_wp2_with fail
    have hb1 : Below w.heap.size w (w.alloc (.cells #[.int .i64 k, .int .i64 a, .int .i64 b, .bool false, vs, .int .i64 d.lba, vE, vC] 46)) := (Below.refl _ w).alloc (Nat.le_refl _) _
    have hx1 := Bx.new w 46 [.int .i64 k, .int .i64 a, .int .i64 b, .bool false, vs, .int .i64 d.lba, vE, vC]
    obtain ⟨w1, hw1⟩ : ∃ w1, w1 = w.alloc (.cells #[.int .i64 k, .int .i64 a, .int .i64 b, .bool false, vs, .int .i64 d.lba, vE, vC] 46) := ⟨_, rfl⟩
    change Bx (w.alloc (.cells #[.int .i64 k, .int .i64 a, .int .i64 b, .bool false, vs, .int .i64 d.lba, vE, vC] 46)) _ _ _ at hx1
    have hs1 : w1.heap.size = w.heap.size + 1 := by rw [hw1]; simp
    rw [← hw1] at hb1 hx1 ⊢
    rw [← hs1]
    have ho0 : (w1.alloc (.cells #[] 5)).ownsRow w1.heap.size 5 1 (.slice (some ⟨w1.heap.size, 0, none⟩) 0 0) 0 (bs (rawK b 0)) := World.ownsRow_lit w1 #[] 0 (Nat.le_refl _) (by simp) (by simp)
    have hb0 := hb1.alloc hb1.size (.cells #[] 5)
    have hx0 := hx1.alloc (.cells #[] 5)
    have HS := Lib.hid hs1
    clear hb1 hx1 hw1 hs1
    go_loopw [3, 5] (fun vo vk wr => ∃ j : Nat, j ≤ 2352 ∧ vk = .int .i64 j ∧ wr.ownsRow w1.heap.size 5 1 vo j (bs (rawK b j)) ∧ Bx wr w.heap.size 46 [.int .i64 k, .int .i64 a, .int .i64 b, .bool false, vs, .int .i64 d.lba, vE, vC] ∧ Below w.heap.size w wr) (fun _ vk _ => 2352 - (RowKit.intOf vk).toNat)
    case atStart => exact ⟨0, by omega, rfl, ho0, hx0, hb0⟩
    case round =>
      clear ho0 hx0 hb0
      obtain ⟨j, hj, rfl, ho, hx, hbb⟩ := hrel
      by_cases hlt : j < 2352
      · have hbs := hbb.size
        have hc2 := hx.cell (i := 2) rfl
        obtain ⟨c, hcd⟩ : ∃ c, c = b8 (b + (j % 7 : Nat)) := ⟨_, rfl⟩
        have hwp : wrap64 (b + (j : Int) % 7) % 256 = (c.toNat : Int) := by
          rw [hcd]
          have := b8_wrap (b + (j % 7 : Nat))
          push_cast at this ⊢
          exact this
        have HK := Lib.hid (rawK_succ b j)
        rw [← hcd] at HK
        clear hcd
        have hal := (Below.refl wr.heap.size wr).alloc (Nat.le_refl _) (.cells #[B c] 5)
        have ho6 := ownD_keep ho hal
        have hx6 := hx.call hal
        have hrd1 : Rd (wr.alloc (.cells #[B c] 5)) (.slice (some ⟨wr.heap.size, 0, none⟩) 1 1) [c] := Rd.ofOwn' (World.ownsRow_lit wr #[B c] 1 (Nat.le_refl _) (by simp [maxLen]) (by simp)) (by simp)
        have hb6 := hbb.trans (hal.mono hbs)
        have hlt1 := hx6.lt
        have hb6s : w1.heap.size ≤ (wr.alloc (.cells #[B c] 5)).heap.size := by rw [HS.out]; omega
        have HX6 := Lib.hid hx6
        have HB6 := Lib.hid hb6
        have HO6 := Lib.hid ho6
        clear ho hx hbb hal hx6 hb6
        go_wp2_with (refine wpList_appB rfl _ _ rfl Try.underlying52 Try.infoB12 HO6.out rfl hrd1 rfl (by simp; omega) hb6s ?_; intro v7 w7 hown7 hgr7 _)
        have hb7 := HB6.out.grown hgr7 HB6.out.size (fun q hq => by have := ownD_block HO6.out q hq; rw [HS.out] at this; omega)
        have hx7 := (hgr7.block w.heap.size hlt1 (fun e => by have := ownD_block HO6.out _ e.symm; rw [HS.out] at this; omega)).trans HX6.out
        rw [show ([c] : List UInt8).length = 1 from rfl, ← HK.out] at hown7
        clear hgr7
        go_roundw
        case rel => exact ⟨j + 1, by omega, by go_num, hown7, hx7, hb7⟩
        case measure => simp [RowKit.intOf]; omega
      · obtain rfl : j = 2352 := by omega
        have hrd := Rd.ofOwn' ho (by omega)
        obtain ⟨a3, c3, rfl⟩ := hrd.form
        have hcx := run_str (P := Try.prog) Try.underlying52 Try.underlying5 Try.underlying9 hrd
        clear ho hrd
        go_wp2_with fail
        go_ret
        exact ⟨rfl, hbb⟩
end Go.Proofs.Ytpncjadhpnapnaa.D12
