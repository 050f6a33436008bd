/- Walks of Eval, trim and the reference's Product, Eval and Trim. -/
import Derived.Test.YtkebnmmcogkldaaProd
namespace Go.Proofs.Ytkebnmmcogkldaa
open Go.RowKit
set_option linter.unusedVariables false

theorem rgmul_at (x y : Int) (a b : UInt8) (w : World) (hx : x = a.toNat) (hy : y = b.toNat) :
    Calls Try.prog 90 #[.int .u8 x, .int .u8 y] w fun e w' => e = .returned (B (G.mul a b)) ∧ w = w' :=
  (rmul_at x y a.toNat b.toNat w hx hy (G.lt a) (G.lt b)).mono fun e w' ⟨h1, h2⟩ => ⟨by rw [h1, ← G.toNat_mul], h2⟩

theorem Try.sizeU8 : (Try.prog.info? 5).map (·.size) = some 1 := by kernel_rfl

/-- the closure of Eval -/
theorem evalStep_any (s c x : UInt8) (b : Nat) (w : World) (hc : w.cell? ⟨b, 0, none⟩ = some (B x)) :
    Calls Try.prog 99 #[B s, B c, .pointer (some ⟨b, 0, none⟩)] w fun e w' => e = .returned (B (G.mul s x ^^^ c)) ∧ w = w' := by
  go_enter Try.func99, Try.ntmps99
  go_wp2_with (go_at_call 72; refine (gmul_at _ _ s x _ rfl rfl).mono ?_; rintro e w' ⟨rfl, rfl⟩)
  go_ret
  exact ⟨retI (xorB _ _), rfl⟩

theorem evalA_snoc (x : UInt8) (p : List UInt8) (c : UInt8) : ∀ s, G.evalA x s (p ++ [c]) = G.mul (G.evalA x s p) x ^^^ c := by
  induction p with
  | nil => intro s; rfl
  | cons d p ih => intro s; exact ih _
theorem take_succ_ix (l : List UInt8) (k : Nat) (h : k < l.length) : l.take (k + 1) = l.take k ++ [G.ix l k] := by
  rw [List.take_succ_eq_append_getElem h]; simp [G.ix, h]
theorem evalA_take (x s : UInt8) (l : List UInt8) (k : Nat) (h : k < l.length) : G.evalA x s (l.take (k + 1)) = G.mul (G.evalA x s (l.take k)) x ^^^ G.ix l k := by
  rw [take_succ_ix l k h, evalA_snoc]

set_option maxRecDepth 100000 in
set_option maxHeartbeats 1000000 in
theorem fold_any (vp : Value) (p : List UInt8) (s x : UInt8) (b : Nat) (w : World) (hp : Rd w vp p) (hc : w.cell? ⟨b, 0, none⟩ = some (B x)) :
    Calls Try.prog 98 #[vp, B s, .func (.func 99) #[] #[.pointer (some ⟨b, 0, none⟩)]] w fun e w' => e = .returned (B (G.evalA x s p)) ∧ w = w' := by
  obtain ⟨h0, a, cap, bp, op, rfl, hcap, hcell⟩ := hp
  have HC := Lib.hid hcell; clear hcell
  go_enter Try.func98, Try.ntmps98
  go_wp2_with fail
  go_loop [1, 11] (fun vs vk => ∃ k : Nat, k ≤ p.length ∧ vk = .int .i64 k ∧ vs = B (G.evalA x s (p.take k))) (fun _ vk => p.length - (intOf vk).toNat)
  case atStart => exact ⟨0, by omega, rfl, rfl⟩
  case round =>
    obtain ⟨k, hk, rfl, rfl⟩ := hrel
    by_cases hlt : k < p.length
    · obtain ⟨ha, hcp⟩ := HC.out k hlt
      have hix := run_idx (P := Try.prog) Try.underlying59 Try.sizeU8 (cap := cap) ha hlt _ rfl w
      have Ha := Lib.hid ha; clear ha
      have Hs := Lib.hid (evalA_take x s p k hlt)
      go_wp2_with (go_at_call 99; refine (evalStep_any _ _ x b _ hc).mono ?_; rintro e w' ⟨rfl, rfl⟩)
      go_round
      case rel => exact ⟨k + 1, by omega, by go_num, by rw [Hs.out]⟩
      case measure => simp [intOf]; omega
    · go_wp2_with fail
      go_ret
      exact ⟨by rw [List.take_of_length_le (by omega)]; rfl, rfl⟩

theorem fold_at (vp : Value) (y : Int) (p : List UInt8) (s x : UInt8) (b : Nat) (w : World) (hp : Rd w vp p) (hc : w.cell? ⟨b, 0, none⟩ = some (B x)) (hy : y = s.toNat) :
    Calls Try.prog 98 #[vp, .int .u8 y, .func (.func 99) #[] #[.pointer (some ⟨b, 0, none⟩)]] w fun e w' => e = .returned (B (G.evalA x s p)) ∧ w = w' := by
  subst hy; exact fold_any vp p s x b w hp hc

set_option maxHeartbeats 1000000 in
theorem eval_any (vp : Value) (p : List UInt8) (x : UInt8) (w : World) (hp : Rd w vp p) :
    Calls Try.prog 71 #[vp, B x] w fun e w' => e = .returned (B (G.eval p x)) ∧ Below w.heap.size w w' := by
  go_enter Try.func71, Try.ntmps71
  go_wp2_with fail
  refine (fold_at _ _ p 0 x w.heap.size _ (hp.keep ((Below.refl _ _).alloc (Nat.le_refl _) _)) (by simp [World.cell?_alloc_at]) rfl).mono ?_
  rintro e w1 ⟨rfl, rfl⟩
  go_wp2_with fail
  go_ret
  exact ⟨rfl, (Below.refl _ _).alloc (Nat.le_refl _) _⟩

set_option maxRecDepth 100000 in
set_option maxHeartbeats 1000000 in
theorem reval_any (vp : Value) (p : List UInt8) (x : UInt8) (w : World) (hp : Rd w vp p) :
    Calls Try.prog 113 #[vp, B x] w fun e w' => e = .returned (B (G.eval p x)) ∧ Below w.heap.size w w' := by
  obtain ⟨h0, a, cap, bp, op, rfl, hcap, hcell⟩ := hp
  have HC := Lib.hid hcell; clear hcell
  go_enter Try.func113, Try.ntmps113
  go_wp2_with fail
  go_loopw [5, 6] (fun vs vk wr => ∃ k : Nat, k ≤ p.length ∧ vk = .int .i64 k ∧ vs = B (G.evalA x 0 (p.take k)) ∧ Below w.heap.size w wr) (fun _ vk _ => p.length - (intOf vk).toNat)
  case atStart => exact ⟨0, by omega, rfl, rfl, Below.refl _ _⟩
  case round =>
    obtain ⟨k, hk, rfl, rfl, hb⟩ := hrel
    by_cases hlt : k < p.length
    · obtain ⟨ha, hcp⟩ := HC.out k hlt
      have hcw : wr.cell? ⟨bp, op + k, none⟩ = some (B (G.ix p k)) := by rw [hb.cell (World.block_lt_of_cell? w _ hcp)]; exact hcp
      have hix := fun w' => run_idx (P := Try.prog) Try.underlying59 Try.sizeU8 (cap := cap) ha hlt _ rfl w'
      have Ha := Lib.hid ha; clear ha hcp
      have Hs := Lib.hid (evalA_take x 0 p k hlt)
      go_wp2_with fail
      go_quiet ((go_at_call 90; exact Calls.quiet_of_same (flipW (rgmul_at _ _ _ x _ rfl rfl))))
      go_wp2_with fail
      go_roundw
      case rel => exact ⟨k + 1, by omega, by go_num, by rw [Hs.out, xorB], Below.drewN hb _⟩
      case measure => simp [intOf]; omega
    · go_wp2_with fail
      go_ret
      exact ⟨by rw [List.take_of_length_le (by omega)]; rfl, hb⟩

def trimL (l : List UInt8) : List UInt8 := l.dropWhile (· == 0)
theorem trim_drop (l : List UInt8) (k : Nat) (h : k < l.length) (h0 : G.ix l k = 0) : trimL (l.drop k) = trimL (l.drop (k + 1)) := by
  have e : l.drop k = G.ix l k :: l.drop (k + 1) := by rw [List.drop_eq_getElem_cons h]; simp [G.ix, h]
  rw [e, h0]; simp [trimL]
theorem trim_drop_ne (l : List UInt8) (k : Nat) (h : k < l.length) (h0 : G.ix l k ≠ 0) : trimL (l.drop k) = l.drop k := by
  have e : l.drop k = G.ix l k :: l.drop (k + 1) := by rw [List.drop_eq_getElem_cons h]; simp [G.ix, h]
  rw [e]; simp [trimL, h0]

set_option maxRecDepth 100000 in
set_option maxHeartbeats 1000000 in
theorem trim_any (vp : Value) (p : List UInt8) (w : World) (hp : Rd w vp p) :
    Calls Try.prog 84 #[vp] w fun e w' => ∃ v, e = .returned v ∧ Rd w v (trimL p) ∧ w = w' := by
  go_enter Try.func84, Try.ntmps84
  go_wp2_with fail
  go_loop [0] (fun vs => ∃ l : List UInt8, Rd w vs l ∧ trimL l = trimL p) (fun vs => slen vs)
  case atStart => exact ⟨p, hp, rfl⟩
  case round =>
    obtain ⟨l, hl, ht⟩ := hrel
    have Ht := Lib.hid ht; clear ht
    have hl' := hl
    obtain ⟨h0, a, cap, bp, op, rfl, hcap, hcell⟩ := hl
    have HC := Lib.hid hcell; clear hcell
    by_cases hlt : 0 < l.length
    · obtain ⟨ha, hcp⟩ := HC.out 0 hlt
      have hix := run_idx (P := Try.prog) Try.underlying59 Try.sizeU8 (cap := cap) ha hlt 0 rfl w
      have Ha := Lib.hid ha; clear ha
      simp only [Nat.add_zero] at hcp hix
      obtain ⟨v', hv', _, hcut, _⟩ := run_cut (P := Try.prog) Try.underlying59 Try.sizeU8 hl' 1 l.length hlt (Nat.le_refl _)
      have hcut := hcut rfl 1 w rfl
      rw [List.take_length] at hv'
      by_cases hz : G.ix l 0 = 0
      · have hz1 : (((G.ix l 0).toNat : Int) == 0) = true := by rw [hz]; rfl
        have Hz := Lib.hid hz; clear hz
        have Hv := Lib.hid hv'; clear hv'
        go_wp2_with fail
        go_round
        case rel =>
          have e := trim_drop l 0 hlt Hz.out
          rw [List.drop_zero] at e
          exact ⟨_, Hv.out, by rw [← Ht.out, e]⟩
        case measure =>
          obtain ⟨a', c', e'⟩ := Hv.out.form
          rw [e']
          simp [slen]
          omega
      · have hz1 : (((G.ix l 0).toNat : Int) == 0) = false := by rw [beq_eq_false_iff_ne]; intro e; exact hz (G.ext (by simpa using e))
        have Hz := Lib.hid hz; clear hz
        go_wp2_with fail
        go_ret
        refine ⟨_, rfl, ?_, rfl⟩
        have e := trim_drop_ne l 0 hlt Hz.out
        rw [List.drop_zero] at e
        rw [← Ht.out, e]
        exact hl'
    · go_wp2_with fail
      go_ret
      refine ⟨_, rfl, ?_, rfl⟩
      obtain rfl : l = [] := List.eq_nil_of_length_eq_zero (by omega)
      rw [← Ht.out]
      exact hl'

set_option maxRecDepth 100000 in
set_option maxHeartbeats 1000000 in
theorem rtrim_any (vp : Value) (p : List UInt8) (w : World) (hp : Rd w vp p) :
    Calls Try.prog 88 #[vp] w fun e w' => ∃ v, e = .returned v ∧ Rd w' v (trimL p) ∧ Below w.heap.size w w' := by
  have hp' := hp
  obtain ⟨h0, a, cap, bp, op, rfl, hcap, hcell⟩ := hp
  have HC := Lib.hid hcell; clear hcell
  go_enter Try.func88, Try.ntmps88
  go_wp2_with fail
  go_loop [3] (fun vk => ∃ k : Nat, k ≤ p.length ∧ vk = .int .i64 k ∧ Hid (trimL (p.drop k) = trimL p)) (fun vk => p.length - (intOf vk).toNat)
  case atStart => exact ⟨0, by omega, rfl, Lib.hid (by rw [List.drop_zero])⟩
  case round =>
    obtain ⟨k, hk, rfl, Ht⟩ := hrel
    by_cases hlt : k < p.length
    · obtain ⟨ha, hcp⟩ := HC.out k hlt
      have hix := run_idx (P := Try.prog) Try.underlying59 Try.sizeU8 (cap := cap) ha hlt _ rfl w
      have Ha := Lib.hid ha; clear ha
      obtain ⟨v', hv', _, hcut, _⟩ := run_cut (P := Try.prog) Try.underlying59 Try.sizeU8 hp' k p.length (by omega) (Nat.le_refl _)
      have hcut := hcut rfl k w rfl
      rw [List.take_length] at hv'
      have Hv := Lib.hid hv'; clear hv'
      by_cases hz : G.ix p k = 0
      · have hz1 : (((G.ix p k).toNat : Int) != 0) = false := by rw [hz]; rfl
        have Hz := Lib.hid hz; clear hz
        go_wp2_with fail
        go_round
        case rel => exact ⟨k + 1, by omega, by go_num, Lib.hid (by rw [← trim_drop p k hlt Hz.out, Ht.out])⟩
        case measure => simp [intOf]; omega
      · have hz1 : (((G.ix p k).toNat : Int) != 0) = true := by rw [bne_iff_ne]; intro e; exact hz (G.ext (by simpa using e))
        have Hz := Lib.hid hz; clear hz
        go_wp2_with fail
        go_ret
        refine ⟨_, rfl, ?_, Below.refl _ _⟩
        rw [← Ht.out, trim_drop_ne p k hlt Hz.out]
        exact Hv.out
    · go_wp2_with fail
      go_ret
      refine ⟨_, rfl, ?_, (Below.refl _ _).alloc (Nat.le_refl _) _⟩
      rw [← Ht.out, List.drop_of_length_le (by omega)]
      exact Rd.empty _ _ _

set_option maxRecDepth 100000 in
set_option maxHeartbeats 1000000 in
theorem rproduct_any (vp vq : Value) (p q : List UInt8) (w : World) (hp : Rd w vp p) (hq : Rd w vq q) :
    Calls Try.prog 86 #[vp, vq] w fun e w' => ∃ v, e = .returned v ∧ w'.ownsRow w.heap.size 5 1 v (G.prod p q).length (bs (G.prod p q)) ∧ Below w.heap.size w w' := by
  obtain ⟨i0, hi, hz0, hz1, hz2⟩ := info_parts Try.infoU8
  obtain ⟨hpl, ⟨a, cap, rfl, rfl⟩ | ⟨bp, op, cp, rfl, hp0, hpc⟩⟩ := hp.cases
  · obtain ⟨aq, cq, rfl⟩ : ∃ a c, vq = .slice a q.length c := hq.form
    go_enter Try.func86, Try.ntmps86
    go_wp2_with fail
    go_ret
    rw [G.prod_nil_left]
    exact ⟨_, rfl, World.ownsRow_lit _ _ 0 (Nat.le_refl _) (by simp) (by simp), (Below.refl _ _).alloc (Nat.le_refl _) _⟩
  obtain ⟨hql, ⟨a, cap, rfl, rfl⟩ | ⟨bq, oq, cq, rfl, hq0, hqc⟩⟩ := hq.cases
  · have hlp : 0 < p.length := List.length_pos_iff.2 hp0
    have hp1 : ((p.length : Int) == 0) = false := by rw [beq_eq_false_iff_ne]; omega
    clear hpc
    go_enter Try.func86, Try.ntmps86
    go_wp2_with fail
    go_ret
    rw [G.prod_nil_right]
    exact ⟨_, rfl, World.ownsRow_lit _ _ 0 (Nat.le_refl _) (by simp) (by simp), (Below.refl _ _).alloc (Nat.le_refl _) _⟩
  have hlp : 0 < p.length := List.length_pos_iff.2 hp0
  have hlq : 0 < q.length := List.length_pos_iff.2 hq0
  have hp1 : ((p.length : Int) == 0) = false := by rw [beq_eq_false_iff_ne]; omega
  have hq1 : ((q.length : Int) == 0) = false := by rw [beq_eq_false_iff_ne]; omega
  have HP := Lib.hid hpc; clear hpc
  have HQ := Lib.hid hqc; clear hqc
  obtain ⟨n, hn⟩ : ∃ n : Nat, n = p.length + q.length - 1 := ⟨_, rfl⟩
  have hnb : n ≤ 281474976702464 := by omega
  have hn1 : n + 1 ≤ p.length + q.length := by omega
  have hn2 : p.length + q.length ≤ n + 1 := by omega
  have Hn : Hid ((p.length : Int) + (q.length : Int) - 1 = n) := Lib.hid (by omega)
  have Hm := Lib.hid hn; clear hn
  have hbp : bp < w.heap.size := World.block_lt_of_cell? w _ (HP.out 0 hlp)
  have hbq : bq < w.heap.size := World.block_lt_of_cell? w _ (HQ.out 0 hlq)
  go_enter Try.func86, Try.ntmps86
  go_wp2_with (refine wpList_make_full _ rfl _ _ 59 rfl w.heap.size 5 i0 _ 1 Try.underlying59 hi hz0 hz1 .i64 .i64 _ _ n rfl rfl Hn.out Hn.out (by rw [hz2]; omega) (by unfold maxLen; omega) (Nat.le_refl _) ?_; intro w1 hown1 hgr1)
  have hb1 : Below w.heap.size w w1 := (Below.refl _ _).grown hgr1 (Nat.le_refl _) (by simp)
  have hown1' : w1.ownsRow w.heap.size 5 1 (.slice (some ⟨w.heap.size, 0, none⟩) n n) n (bs (G.addRows p q 0)) := by
    have e : (madeCells (Value.int .u8 0).cells (n * 1)).toList = bs (G.addRows p q 0) := by
      simp only [Value.cells, toList_madeCells_one, G.addRows, bs_replicate, ← Hm.out, Nat.mul_one]
      rfl
    rw [← e]; exact hown1
  clear hown1 hgr1
  go_loopw [6, 7] (fun vk _ wr => ∃ k : Nat, k ≤ p.length ∧ vk = .int .i64 k ∧ wr.ownsRow w.heap.size 5 1 (.slice (some ⟨w.heap.size, 0, none⟩) n n) n (bs (G.addRows p q k)) ∧ Below w.heap.size w wr) (fun vk _ _ => p.length - (intOf vk).toNat)
  case atStart => exact ⟨0, by omega, rfl, hown1', hb1⟩
  case round =>
    clear hown1' hb1
    obtain ⟨k, hk, rfl, hown, hb⟩ := hrel
    obtain ⟨wo, rfl⟩ : ∃ wo : World, wo = wr := ⟨_, rfl⟩
    by_cases hlt : k < p.length
    · go_wp2_with fail
      go_loopw [7] (fun vj wr => ∃ j : Nat, j ≤ q.length ∧ vj = .int .i64 j ∧ wr.ownsRow w.heap.size 5 1 (.slice (some ⟨w.heap.size, 0, none⟩) n n) n (bs (G.addRow k (G.ix p k) q j (G.addRows p q k))) ∧ Below w.heap.size w wr) (fun vj _ => q.length - (intOf vj).toNat)
      case atStart => exact ⟨0, by omega, rfl, hown, hb⟩
      case round =>
        clear hown hb
        obtain ⟨j, hj, rfl, hown, hb⟩ := hrel
        by_cases hlj : j < q.length
        · have hcq : wr.cell? ⟨bq, oq + j, none⟩ = some (B (G.ix q j)) := by rw [hb.cell hbq]; exact HQ.out j hlj
          have hcp : wr.cell? ⟨bp, op + k, none⟩ = some (B (G.ix p k)) := by rw [hb.cell hbp]; exact HP.out k hlt
          have hcl : (G.addRow k (G.ix p k) q j (G.addRows p q k)).length = n := by rw [G.addRow_length, G.addRows_length, Hm.out]
          have hco : wr.cell? ⟨w.heap.size, k + j, none⟩ = some (B (G.ix (G.addRow k (G.ix p k) q j (G.addRows p q k)) (k + j))) := by
            rw [hown.cellAt _ (by omega), bs_get (by omega)]
          have hfo := hown.frozenAt (k + j)
          have Hcl := Lib.hid hcl; clear hcl
          go_wp2_with fail
          have e1 : IntKind.i64.wrap ((k : Int) + (j : Int)) = (k : Int) + (j : Int) := IntWalk.i64_in _ (by omega)
          have e2 : (0 : Int) ≤ (k : Int) + (j : Int) := by omega
          have e3 : (k : Int) + (j : Int) < (n : Int) := by omega
          have e4 : ((k : Int) + (j : Int)).toNat = k + j := by omega
          have e5 : (k : Int) < (p.length : Int) := by omega
          have e6 : (j : Int) < (q.length : Int) := by omega
          go_still_tail 21, (by kernel_rfl)
          still_call (flipW (rgmul_at _ _ (G.ix p k) (G.ix q j) _ rfl rfl))
          repeat still_step
          refine wpStill_nil ?_
          clear e1 e2 e3 e4 e5 e6
          change wpList _ _ _ _ _ wr.drew
          go_wp2_with fail
          go_roundw
          case rel =>
            refine ⟨j + 1, by omega, by go_num, ?_, (hb.drew).setCell (Nat.le_refl _) _⟩
            have h := hown.drew.stored (k + j) (B (G.ix (G.addRow k (G.ix p k) q j (G.addRows p q k)) (k + j) ^^^ G.mul (G.ix p k) (G.ix q j)))
            rw [bs_set] at h
            rw [xorB]
            exact h.1
          case measure => simp [intOf]; omega
        · go_wp2_with fail
          go_roundw
          case rel =>
            refine ⟨k + 1, by omega, by go_num, ?_, hb⟩
            obtain rfl : j = q.length := by omega
            exact hown
          case measure => simp [intOf]; omega
    · go_wp2_with fail
      go_ret
      refine ⟨_, rfl, ?_, hb⟩
      obtain rfl : k = p.length := by omega
      have e : (G.prod p q).length = n := by rw [G.prod_length p q hp0 hq0, Hm.out]
      rw [e, G.prod_eq hp0 hq0]
      exact hown
end Go.Proofs.Ytkebnmmcogkldaa
