/- Walks of Product, Eval and their references. -/
import Derived.Test.YtkebnmmcogkldaaScal
import Derived.Test.YtkebnmmcogkldaaG8
namespace Go.Proofs.Ytkebnmmcogkldaa
open Go.RowKit
set_option linter.unusedVariables false

theorem Try.infoU8 : (Try.prog.info? 5).map (fun i => (i.zero, i.size, i.bytes)) = some (some (.int .u8 0), 1, 1) := by kernel_rfl

theorem gmul_at (x y : Int) (a b : UInt8) (w : World) (hx : x = a.toNat) (hy : y = b.toNat) :
    Calls Try.prog 72 #[.int .u8 x, .int .u8 y] w fun e w' => e = .returned (B (G.mul a b)) ∧ w = w' :=
  (mul_at x y a.toNat b.toNat w hx hy (G.lt a) (G.lt b)).mono fun e w' ⟨h1, h2⟩ => ⟨by rw [h1, ← G.toNat_mul], h2⟩

set_option maxRecDepth 100000 in
set_option maxHeartbeats 1000000 in
theorem product_any (vp vq : Value) (p q : List UInt8) (w : World) (hp : Rd w vp p) (hq : Rd w vq q) :
    Calls Try.prog 82 #[vp, vq] w fun e w' => ∃ v, e = .returned v ∧ w'.ownsRow w.heap.size 5 1 v (G.prod p q).length (bs (G.prod p q)) ∧ Below w.heap.size w w' := by
  obtain ⟨i0, hi, hz0, hz1, hz2⟩ := info_parts Try.infoU8
  obtain ⟨hpl, ⟨a, cap, rfl, rfl⟩ | ⟨bp, op, cp, rfl, hp0, hpc⟩⟩ := hp.cases
  · obtain ⟨aq, cq, rfl⟩ : ∃ a c, vq = .slice a q.length c := hq.form
    go_enter Try.func82, Try.ntmps82
    go_wp2_with fail
    go_ret
    rw [G.prod_nil_left]
    exact ⟨_, rfl, World.ownsRow_nil _ _ _ _, Below.refl _ _⟩
  obtain ⟨hql, ⟨a, cap, rfl, rfl⟩ | ⟨bq, oq, cq, rfl, hq0, hqc⟩⟩ := hq.cases
  · have hlp : 0 < p.length := List.length_pos_iff.2 hp0
    have hp1 : ((p.length : Int) == 0) = false := by rw [beq_eq_false_iff_ne]; omega
    clear hpc
    go_enter Try.func82, Try.ntmps82
    go_wp2_with fail
    go_ret
    rw [G.prod_nil_right]
    exact ⟨_, rfl, World.ownsRow_nil _ _ _ _, Below.refl _ _⟩
  have hlp : 0 < p.length := List.length_pos_iff.2 hp0
  have hlq : 0 < q.length := List.length_pos_iff.2 hq0
  have hp1 : ((p.length : Int) == 0) = false := by rw [beq_eq_false_iff_ne]; omega
  have hq1 : ((q.length : Int) == 0) = false := by rw [beq_eq_false_iff_ne]; omega
  have HP := Lib.hid hpc; clear hpc
  have HQ := Lib.hid hqc; clear hqc
  obtain ⟨n, hn⟩ : ∃ n : Nat, n = p.length + q.length - 1 := ⟨_, rfl⟩
  have hnb : n ≤ 281474976702464 := by omega
  have hn1 : n + 1 ≤ p.length + q.length := by omega
  have hn2 : p.length + q.length ≤ n + 1 := by omega
  have Hn : Hid ((p.length : Int) + (q.length : Int) - 1 = n) := Lib.hid (by omega)
  have Hm := Lib.hid hn; clear hn
  have hbp : bp < w.heap.size := World.block_lt_of_cell? w _ (HP.out 0 hlp)
  have hbq : bq < w.heap.size := World.block_lt_of_cell? w _ (HQ.out 0 hlq)
  go_enter Try.func82, Try.ntmps82
  go_wp2_with (refine wpList_make_full _ rfl _ _ 59 rfl w.heap.size 5 i0 _ 1 Try.underlying59 hi hz0 hz1 .i64 .i64 _ _ n rfl rfl Hn.out Hn.out (by rw [hz2]; omega) (by unfold maxLen; omega) (Nat.le_refl _) ?_; intro w1 hown1 hgr1)
  have hb1 : Below w.heap.size w w1 := (Below.refl _ _).grown hgr1 (Nat.le_refl _) (by simp)
  have hown1' : w1.ownsRow w.heap.size 5 1 (.slice (some ⟨w.heap.size, 0, none⟩) n n) n (bs (G.addRows p q 0)) := by
    have e : (madeCells (Value.int .u8 0).cells (n * 1)).toList = bs (G.addRows p q 0) := by
      simp only [Value.cells, toList_madeCells_one, G.addRows, bs_replicate, ← Hm.out, Nat.mul_one]
      rfl
    rw [← e]; exact hown1
  clear hown1 hgr1
  go_loopw [27] (fun vk wr => ∃ k : Nat, k ≤ p.length ∧ vk = .int .i64 k ∧ wr.ownsRow w.heap.size 5 1 (.slice (some ⟨w.heap.size, 0, none⟩) n n) n (bs (G.addRows p q k)) ∧ Below w.heap.size w wr) (fun vk _ => p.length - (intOf vk).toNat)
  case atStart => exact ⟨0, by omega, rfl, hown1', hb1⟩
  case round =>
    clear hown1' hb1
    obtain ⟨k, hk, rfl, hown, hb⟩ := hrel
    obtain ⟨wo, rfl⟩ : ∃ wo : World, wo = wr := ⟨_, rfl⟩
    by_cases hlt : k < p.length
    · have hcp : wo.cell? ⟨bp, op + k, none⟩ = some (B (G.ix p k)) := by rw [hb.cell hbp]; exact HP.out k hlt
      go_wp2_with fail
      go_loopw [34] (fun vj wr => ∃ j : Nat, j ≤ q.length ∧ vj = .int .i64 j ∧ wr.ownsRow w.heap.size 5 1 (.slice (some ⟨w.heap.size, 0, none⟩) n n) n (bs (G.addRow k (G.ix p k) q j (G.addRows p q k))) ∧ Below w.heap.size w wr) (fun vj _ => q.length - (intOf vj).toNat)
      case atStart => exact ⟨0, by omega, rfl, hown, hb⟩
      case round =>
        clear hown hb hcp
        obtain ⟨j, hj, rfl, hown, hb⟩ := hrel
        by_cases hlj : j < q.length
        · have hcq : wr.cell? ⟨bq, oq + j, none⟩ = some (B (G.ix q j)) := by rw [hb.cell hbq]; exact HQ.out j hlj
          have hcl : (G.addRow k (G.ix p k) q j (G.addRows p q k)).length = n := by rw [G.addRow_length, G.addRows_length, Hm.out]
          have hco : wr.cell? ⟨w.heap.size, k + j, none⟩ = some (B (G.ix (G.addRow k (G.ix p k) q j (G.addRows p q k)) (k + j))) := by
            rw [hown.cellAt _ (by omega), bs_get (by omega)]
          have hfo := hown.frozenAt (k + j)
          have Hcl := Lib.hid hcl; clear hcl
          go_wp2_with fail
          have e1 : IntKind.i64.wrap ((k : Int) + (j : Int)) = (k : Int) + (j : Int) := IntWalk.i64_in _ (by omega)
          have e2 : (0 : Int) ≤ (k : Int) + (j : Int) := by omega
          have e3 : (k : Int) + (j : Int) < (n : Int) := by omega
          have e4 : ((k : Int) + (j : Int)).toNat = k + j := by omega
          go_still_tail 11, (by kernel_rfl)
          still_call (flipW (gmul_at _ _ (G.ix p k) (G.ix q j) _ rfl rfl))
          repeat still_step
          refine wpStill_nil ?_
          clear e1 e2 e3 e4
          change wpList _ _ _ _ _ wr.drew
          go_wp2_with fail
          go_roundw
          case rel =>
            refine ⟨j + 1, by omega, by go_num, ?_, (hb.drew).setCell (Nat.le_refl _) _⟩
            have h := hown.drew.stored (k + j) (B (G.ix (G.addRow k (G.ix p k) q j (G.addRows p q k)) (k + j) ^^^ G.mul (G.ix p k) (G.ix q j)))
            rw [bs_set] at h
            rw [xorB]
            exact h.1
          case measure => simp [intOf]; omega
        · go_wp2_with fail
          go_roundw
          case rel =>
            refine ⟨k + 1, by omega, by go_num, ?_, hb⟩
            obtain rfl : j = q.length := by omega
            exact hown
          case measure => simp [intOf]; omega
    · go_wp2_with fail
      go_ret
      refine ⟨_, rfl, ?_, hb⟩
      obtain rfl : k = p.length := by omega
      have e : (G.prod p q).length = n := by rw [G.prod_length p q hp0 hq0, Hm.out]
      rw [e, G.prod_eq hp0 hq0]
      exact hown
end Go.Proofs.Ytkebnmmcogkldaa
