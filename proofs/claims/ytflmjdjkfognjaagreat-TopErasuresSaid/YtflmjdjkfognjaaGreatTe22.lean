/- Parts: XIb XIc -/
import Derived.Test.YtflmjdjkfognjaaGreatTe20
import Derived.Test.YtflmjdjkfognjaaGreatTe21
import Derived.Test.YtflmjdjkfognjaaGreatTe05
import Derived.Sort.LoopGhostIn
import Derived.Outline
import Derived.Test.YtflmjdjkfognjaaGreatChecked
import Derived.Test.YtflmjdjkfognjaaGreatTe07
import Derived.Test.YtflmjdjkfognjaaGreatTe17
import Derived.Sort.CutIn
namespace Go.Proofs.YtflmjdjkfognjaaGreat.T7
open Go Go.RowKit
set_option linter.unusedVariables false
def rs (r : Nat) : Nat := (r / 2) ||| (((r % 2) ^^^ (r / 2 % 2)) * 16384)
def reg : Nat → Nat
  | 0 => 1
  | k + 1 => rs (reg k)
theorem rs_lt {r : Nat} (h : r < 32768) : rs r < 32768 := by
  unfold rs
  have hx : (r % 2) ^^^ (r / 2 % 2) < 2 := Nat.xor_lt_two_pow (n := 1) (by omega) (by omega)
  exact Nat.or_lt_two_pow (n := 15) (by omega) (by omega)
theorem reg_lt : ∀ k, reg k < 32768
  | 0 => by decide
  | k + 1 => rs_lt (reg_lt k)
theorem i64_and16 (a b : Nat) (ha : a < 65536) (hb : b < 65536) : bits .and .i64 (a : Int) (b : Int) = ((a &&& b : Nat) : Int) := by
  have hx : a &&& b ≤ a := Nat.and_le_left
  show IntKind.i64.wrap ((BitVec.ofInt 64 (a : Int) &&& BitVec.ofInt 64 (b : Int)).toNat : Int) = _
  rw [BitVec.toNat_and, ofInt_u64 a (by omega), ofInt_u64 b (by omega)]
  exact IntWalk.i64_in _ (by omega)
theorem i64_or16 (a b : Nat) (ha : a < 65536) (hb : b < 65536) : bits .or .i64 (a : Int) (b : Int) = ((a ||| b : Nat) : Int) := by
  have hx : a ||| b < 2 ^ 16 := Nat.or_lt_two_pow (by omega) (by omega)
  show IntKind.i64.wrap ((BitVec.ofInt 64 (a : Int) ||| BitVec.ofInt 64 (b : Int)).toNat : Int) = _
  rw [BitVec.toNat_or, ofInt_u64 a (by omega), ofInt_u64 b (by omega)]
  exact IntWalk.i64_in _ (by omega)
theorem i64_xor16 (a b : Nat) (ha : a < 65536) (hb : b < 65536) : bits .xor .i64 (a : Int) (b : Int) = ((a ^^^ b : Nat) : Int) := by
  have hx : a ^^^ b < 2 ^ 16 := Nat.xor_lt_two_pow (by omega) (by omega)
  show IntKind.i64.wrap ((BitVec.ofInt 64 (a : Int) ^^^ BitVec.ofInt 64 (b : Int)).toNat : Int) = _
  rw [BitVec.toNat_xor, ofInt_u64 a (by omega), ofInt_u64 b (by omega)]
  exact IntWalk.i64_in _ (by omega)
theorem and1_16 {x : Nat} (h : x < 65536) : bits .and .i64 (x : Int) 1 = ((x % 2 : Nat) : Int) := by
  have e := i64_and16 x 1 h (by omega)
  rw [Nat.and_one_is_mod] at e
  exact e
set_option maxRecDepth 100000 in
theorem registers_any (w : World) : Calls Tryz.prog 165 #[] w fun e w' => e = .returned (.func (.func 210) #[] #[]) ∧ w = w' := by
  go_enter Tryz.func165, Tryz.ntmps165
  go_wp2_with fail
  go_ret
  exact ⟨rfl, rfl⟩
def GR (k : Nat) (v : Value) (W : World) : Prop := v = .int .i64 (reg k : Nat)
set_option maxRecDepth 100000 in
set_option maxHeartbeats 2000000 in
theorem regs_gives (n N : Nat) (hn : 2 ≤ n) (w : World) : GivesN Fence.wide n Tryz.prog 210 #[] N GR w := fun l J Jx W hW hNJ hJ hY h0 => by
  refine callsIn_of_wp Tryz.func210 rfl trivial ?_ rfl
  simp only [Tryz.ntmps210, List.size_toArray, List.length_cons, List.length_nil, Nat.reduceAdd, Nat.reduceSub, Array.replicate_succ, Array.replicate_zero, List.push_toArray, List.append_toArray, List.nil_append, List.cons_append]
  have hW0 := hW.size
  have hn1 : 1 ≤ n := by omega
  have hn2 : 1 ≤ n - 1 := by omega
  clear hW
  have hN0 : 0 < N := by
    rcases Nat.eq_zero_or_pos N with h | h
    · subst h; exact absurd h0 (hNJ _)
    · exact h
  gi_wp2
  gi_loopg [2] N (fun m v wr => ∃ k : Nat, m + k = N ∧ k < N ∧ v = .int .i64 (reg k : Nat) ∧ J k wr ∧ w.heap.size ≤ wr.heap.size)
  case atStart => exact ⟨0, by omega, hN0, rfl, h0, hW0⟩
  case round =>
    obtain ⟨k, hk, hkN, rfl, hJk, hs⟩ := hrel
    clear h0 hW0
    have hr := reg_lt k
    have hgr : GR k (.int .i64 (reg k : Nat)) wr := rfl
    have HRS : Hid (reg (k + 1) = rs (reg k)) := Lib.hid rfl
    have HRU : Hid (rs (reg k) = (reg k / 2) ||| (((reg k % 2) ^^^ (reg k / 2 % 2)) * 16384)) := Lib.hid rfl
    generalize hrk : reg k = r at *
    have hx : (r % 2) ^^^ (r / 2 % 2) < 2 := Nat.xor_lt_two_pow (n := 1) (by omega) (by omega)
    have e1 := and1_16 (x := r) (by omega)
    have e2 := and1_16 (x := r / 2) (by omega)
    have e3 := i64_xor16 (r % 2) (r / 2 % 2) (by omega) (by omega)
    obtain ⟨x, hxx⟩ : ∃ x, x = (r % 2) ^^^ (r / 2 % 2) := ⟨_, rfl⟩
    rw [← hxx] at hx e3 HRU
    have e4 := i64_or16 (r / 2) (x * 16384) (by omega) (by omega)
    clear hxx hrk
    obtain ⟨fn, tmps, assign, body, hy, hR⟩ := hY k (.int .i64 (r : Nat)) wr hkN hJk hgr
    have E1 := Lib.hid e1
    have E2 := Lib.hid e2
    have E3 := Lib.hid e3
    have E4 := Lib.hid e4
    clear e1 e2 e3 e4
    gi_wp2
    refine hR.mono ?_
    rintro e W3 (⟨rfl, hJ3, hs3⟩ | ⟨rfl, hJx3⟩)
    · have e1 := E1.out
      have e2 := E2.out
      have e3 := E3.out
      have e4 := E4.out
      gi_wp2
      gi_roundg (gk - 1)
      case measure => omega
      case rel =>
        refine ⟨k + 1, by omega, ?_, congrArg (Value.int .i64) ?_, hJ3, by omega⟩
        · rcases Nat.lt_or_ge (k + 1) N with h | h
          · exact h
          · have h2 : k + 1 = N := by omega
            rw [h2] at hJ3
            exact absurd hJ3 (hNJ _)
        · rw [HRS.out, HRU.out]
          have a2 : bits .and .i64 ((r : Int) / 2) 1 = ((r / 2 % 2 : Nat) : Int) := E2.out
          have a3 : bits .xor .i64 ((r : Int) % 2) ((r / 2 % 2 : Nat) : Int) = (x : Int) := E3.out
          have a4 : bits .or .i64 ((r : Int) / 2) ((x : Int) * 16384) = ((r / 2 ||| x * 16384 : Nat) : Int) := E4.out
          have a5 : wrap64 ((x : Int) * 16384) = (x : Int) * 16384 := by unfold wrap64; omega
          rw [a2, a3, a5, a4]
    · gi_wp2
      go_end0
      exact ⟨⟨_, rfl⟩, hJx3⟩
end Go.Proofs.YtflmjdjkfognjaaGreat.T7
namespace Go.Proofs.YtflmjdjkfognjaaGreat.T7
open Go Go.RowKit W8
set_option linter.unusedVariables false
attribute [local go_sem] Oper.semAt_some
theorem Tryz.infoU8s : (Tryz.prog.info? 5).map (fun i => (i.zero, i.size, i.bytes)) = some (some (.int .u8 0), 1, 1) := by kernel_rfl
def kbN (p : Nat) : Nat → Nat
  | 0 => 0
  | m + 1 => kbN p m ||| ((reg (8 * p + m) % 2) * 2 ^ m)
theorem kbN_lt (p : Nat) : ∀ m, kbN p m < 2 ^ m
  | 0 => by simp [kbN]
  | m + 1 => by
    have h := kbN_lt p m
    refine Nat.or_lt_two_pow (Nat.lt_of_lt_of_le h (Nat.pow_le_pow_right (by omega) (by omega))) ?_
    have h2 : reg (8 * p + m) % 2 ≤ 1 := by omega
    calc (reg (8 * p + m) % 2) * 2 ^ m ≤ 1 * 2 ^ m := Nat.mul_le_mul_right _ h2
      _ < 2 ^ (m + 1) := by rw [Nat.pow_succ]; have := Nat.two_pow_pos m; omega
theorem kbN_256 (p : Nat) {m : Nat} (h : m ≤ 8) : kbN p m < 256 := Nat.lt_of_lt_of_le (kbN_lt p m) (Nat.pow_le_pow_right (n := 2) (by omega) h)
def kbU (p m : Nat) : UInt8 := UInt8.ofNat (kbN p m)
theorem kbU_nat (p : Nat) {m : Nat} (h : m ≤ 8) : (kbU p m).toNat = kbN p m := by
  have := kbN_256 p h
  unfold kbU
  rw [UInt8.toNat_ofNat']
  omega
def seqK (n i : Nat) : List UInt8 := (List.range n).map fun p => kbU p (min 8 (i - 8 * p))
theorem seqK_len (n i : Nat) : (seqK n i).length = n := by simp [seqK]
theorem seqK_zero (n : Nat) : seqK n 0 = List.replicate n 0 := by
  apply List.ext_getElem?
  intro p
  by_cases h : p < n
  · simp [seqK, h, kbU, kbN]
  · rw [List.getElem?_eq_none (by rw [seqK_len]; omega), List.getElem?_eq_none (by simp; omega)]
theorem seqK_at {n i p : Nat} (h : p < n) : (seqK n i)[p]? = some (kbU p (min 8 (i - 8 * p))) := by simp [seqK, h]
theorem seqK_ix {n i : Nat} (h : i < 8 * n) : G.ix (seqK n i) (i / 8) = kbU (i / 8) (i % 8) := by
  have hp : i / 8 < n := by omega
  unfold G.ix
  rw [List.getD_eq_getElem?_getD, seqK_at hp, show min 8 (i - 8 * (i / 8)) = i % 8 from by omega]
  rfl
theorem seqK_step {n i : Nat} (h : i < 8 * n) : (seqK n i).set (i / 8) (kbU (i / 8) (i % 8 + 1)) = seqK n (i + 1) := by
  have hp : i / 8 < n := by omega
  apply List.ext_getElem?
  intro p
  by_cases hn : p < n
  · rw [seqK_at hn, List.getElem?_set]
    by_cases e : i / 8 = p
    · rw [if_pos e, if_pos (by rw [seqK_len]; exact hp), ← e, show min 8 (i + 1 - 8 * (i / 8)) = i % 8 + 1 from by omega]
    · rw [if_neg e, seqK_at hn, show min 8 (i - 8 * p) = min 8 (i + 1 - 8 * p) from by omega]
  · rw [List.getElem?_eq_none (by rw [List.length_set, seqK_len]; omega), List.getElem?_eq_none (by rw [seqK_len]; omega)]
def scrKey (n : Nat) : List UInt8 := (List.range n).map fun p => kbU p 8
theorem seqK_all (n : Nat) : seqK n (8 * n) = scrKey n := by
  unfold seqK scrKey
  refine List.map_congr_left fun p hp => ?_
  have := List.mem_range.1 hp
  rw [show min 8 (8 * n - 8 * p) = 8 from by omega]
theorem key_nat (i : Nat) : kbN (i / 8) (i % 8 + 1) = kbN (i / 8) (i % 8) ||| ((reg i % 2) * 2 ^ (i % 8)) := by
  show kbN (i / 8) (i % 8) ||| ((reg (8 * (i / 8) + i % 8) % 2) * 2 ^ (i % 8)) = _
  rw [show 8 * (i / 8) + i % 8 = i from by omega]
theorem registers_in (n : Nat) (w : World) : CallsIn Fence.wide n Tryz.prog 165 #[] w fun e w' => e = .returned (.func (.func 210) #[] #[]) ∧ w = w' := callsIn_wide.2 (registers_any w)
theorem GR.stays (B k : Nat) (v : Value) : Stays B (GR k v) := Stays.const _ _
def anyT (r : Nat) (W W' : World) : Prop := True
theorem anyT_mk (r : Nat) (w w' : World) : anyT r w w' := trivial
theorem Tryz.sizeU8s : (Tryz.prog.info? 5).map (·.size) = some 1 := by kernel_rfl
def seqC (W1 : World) (p : Addr) (v : Value) (r : Nat) (W : World) : Prop := W = if r = 0 then W1.drew else W1.drew.setCell p v
theorem seqC_0 {W1 W : World} {p : Addr} {v : Value} {r : Nat} (h : seqC W1 p v r W) (hr : r ≤ 0) : W = W1.drew := by
  unfold seqC at h
  rwa [if_pos (by omega)] at h
theorem shl_one {r m : Nat} (hm : m < 8) : IntKind.u8.wrap (((r % 2 : Nat) : Int) * 2 ^ min m 8) = (((r % 2) * 2 ^ m : Nat) : Int) := by
  have h2 : (r % 2) * 2 ^ m ≤ 1 * 2 ^ m := Nat.mul_le_mul_right _ (by omega)
  have h3 : 2 ^ m ≤ 2 ^ 7 := Nat.pow_le_pow_right (by omega) (by omega)
  rw [Nat.min_eq_left (by omega), show ((r % 2 : Nat) : Int) * 2 ^ m = (((r % 2) * 2 ^ m : Nat) : Int) from by push_cast; rfl]
  exact IntWalk.u8_in _ (by omega)
theorem u8_or_one {a r m : Nat} (ha : a < 256) (hm : m < 8) : bits .or .u8 (a : Int) (((r % 2) * 2 ^ m : Nat) : Int) = ((a ||| (r % 2) * 2 ^ m : Nat) : Int) := by
  refine u8_or_nat a _ ha ?_
  have h2 : (r % 2) * 2 ^ m ≤ 1 * 2 ^ m := Nat.mul_le_mul_right _ (by omega)
  have h3 : 2 ^ m ≤ 2 ^ 7 := Nat.pow_le_pow_right (by omega) (by omega)
  omega
def sqV (b c g n ix old ry p m rb sh nw : Nat) (i : Nat) (v : Value) (W : World) : Prop := match i with
  | 0 => v = .slice (some ⟨g, 0, none⟩) n n
  | 1 => v = .int .i64 (ix : Nat)
  | 2 => v = .int .i64 (p : Nat)
  | 3 => v = .pointer (some ⟨g, p, none⟩)
  | 4 => v = .int .u8 (old : Nat)
  | 5 => v = .int .i64 (ry : Nat)
  | 6 => v = .int .i64 (rb : Nat)
  | 7 => v = .int .u8 (rb : Nat)
  | 8 => v = .int .i64 (ix : Nat)
  | 9 => v = .int .i64 (m : Nat)
  | 10 => v = .int .u8 (sh : Nat)
  | 11 => v = .int .u8 (nw : Nat)
  | 12 => v = .pointer (some ⟨g, p, none⟩)
  | _ => True
def sqVE : Nat → Option Nat
  | 13 => some 0
  | _ => none
theorem sqV_keep (b c g n ix old ry p m rb sh nw : Nat) (i r : Nat) (v : Value) (W W' : World) (hk : ∀ k, sqVE i = some k → k < r) (hR : (anyT) r W W') (h : sqV b c g n ix old ry p m rb sh nw i v W) : sqV b c g n ix old ry p m rb sh nw i v W' := by
  unfold sqV at h ⊢
  split at h <;> first | exact h
set_option maxRecDepth 100000 in
set_option maxHeartbeats 4000000 in
theorem sequence_any (n : Nat) (hn1 : 1 ≤ n) (hn : n ≤ 100000) (w : World) :
    Calls Tryz.prog 92 #[.int .i64 (n : Nat)] w fun e w' => ∃ g, e = .returned (.slice (some ⟨g, 0, none⟩) n n) ∧ w.heap.size ≤ g ∧ Bx w' g 5 (bs (scrKey n)) ∧ Below w.heap.size w w' := by
  refine (callsIn_wide (n := 5)).1 ?_
  refine callsIn_of_wp_marks Tryz.func92 rfl trivial ?_ rfl
  simp only [Tryz.ntmps92, List.size_toArray, List.length_cons, List.length_nil, Nat.reduceAdd, Nat.reduceSub, Array.replicate_succ, Array.replicate_zero, List.push_toArray, List.append_toArray, List.nil_append, List.cons_append]
  obtain ⟨b, hb⟩ : ∃ b, b = w.heap.size := ⟨_, rfl⟩
  obtain ⟨w1, hw1⟩ : ∃ w1, w1 = w.alloc (.cells #[.int .i64 (n : Nat)] 3) := ⟨_, rfl⟩
  have hA1 := (Below.refl w.heap.size w).alloc (Nat.le_refl _) (.cells #[.int .i64 (n : Nat)] 3)
  rw [← hw1] at hA1
  have hx1 : Bx w1 b 3 [.int .i64 (n : Nat)] := by rw [hw1, hb]; exact Bx.new w _ _
  have hs1 : w1.heap.size = b + 1 := by rw [hw1, hb]; simp
  obtain ⟨i0, hi, hz0, hz1, hz2⟩ := info_parts Tryz.infoU8s
  obtain ⟨w2, hmk, r1, r2⟩ := run_make_full (P := Tryz.prog) (w := w1) (b + 1) 123 5 i0 _ 1 Tryz.underlying123 hi hz0 hz1 .i64 .i64 n (by rw [hz2]; omega) (by unfold maxLen; omega) (by omega)
  have r1' := Bx.ofOwn (own_zeros r1)
  rw [hs1] at hmk r1'
  have hb2 := (Below.refl w1.heap.size w1).grown r2 (Nat.le_refl _) (fun k hk => by cases hk)
  have hx2 := hx1.call hb2
  have hA2 := hA1.trans (hb2.mono hA1.size)
  obtain ⟨g, hg⟩ : ∃ g, g = b + 1 := ⟨_, rfl⟩
  rw [← hg] at hmk r1'
  obtain ⟨c, hc⟩ : ∃ c, c = w2.heap.size := ⟨_, rfl⟩
  have hgc : g < c := by rw [hc]; exact r1'.lt
  obtain ⟨w4, hw4⟩ : ∃ w4, w4 = (w2.alloc (.cells #[.slice (some ⟨g, 0, none⟩) n n] 123)).alloc (.cells #[.int .i64 0] 3) := ⟨_, rfl⟩
  have hx3 : Bx w4 c 123 [.slice (some ⟨g, 0, none⟩) n n] := by rw [hw4, hc]; exact (Bx.new w2 _ _).alloc _
  have hx4 : Bx w4 (c + 1) 3 [.int .i64 0] := by
    have := Bx.new (w2.alloc (.cells #[.slice (some ⟨g, 0, none⟩) n n] 123)) 3 [.int .i64 0]
    rw [hw4, hc]
    rwa [World.size_alloc] at this
  have hA4 := ((Below.refl w2.heap.size w2).alloc (Nat.le_refl _) (.cells #[.slice (some ⟨g, 0, none⟩) n n] 123)).alloc (by simp) (.cells #[.int .i64 0] 3)
  rw [← hw4] at hA4
  have hx5 := hx2.call hA4
  have hr5 := r1'.call hA4
  rw [← seqK_zero] at hr5
  have hA5 := hA2.trans (hA4.mono hA2.size)
  have hs4 : w4.heap.size = c + 1 + 1 := by rw [hw4, hc]; simp
  have HW4 : Hid ((w2.alloc (.cells #[.slice (some ⟨g, 0, none⟩) n n] 123)).alloc (.cells #[.int .i64 0] 3) = w4) := Lib.hid hw4.symm
  have HW1 : Hid (w.alloc (.cells #[.int .i64 (n : Nat)] 3) = w1) := Lib.hid hw1.symm
  have HC := Lib.hid hc
  have HB := Lib.hid hb
  have hq0 := hx1.cell (i := 0) rfl
  have hbg : b < g := by omega
  have hbw : w.heap.size ≤ g := by omega
  have hbw2 : w.heap.size ≤ c := by omega
  have HX5 := Lib.hid hx5
  have HR5 := Lib.hid hr5
  have HX3 := Lib.hid hx3
  have HX4 := Lib.hid hx4
  have HA5 := Lib.hid hA5
  have HS4 := Lib.hid hs4
  clear hb hx1 hx2 hA1 hA2 hA4 hx5 hr5 hx3 hx4 hA5 r1 r1' r2 hb2 hw1 hw4 hc hs1 hs4 hi hz0 hz1 hz2 hg
  gi_upto_region 1 with (fail)
  rw [HW1.out, ← HB.out]
  gi_wp2_with (refine ⟨trivial, ?_⟩; gi_at_call 165; refine (registers_in 4 _).mono ?_; rintro e w' ⟨rfl, rfl⟩)
  rw [HW4.out, ← HC.out]
  have hseq := regs_gives 4 (8 * n + 1) (by omega) w4
  clear hmk hq0
  refine wpIn_range_givesN1 (n := 5) rfl (by omega) (gf := 210) (lb := #[]) rfl trivial (enters_of Tryz.func210 (by kernel_rfl) rfl) hseq rfl
    (fun k W => ((k ≤ 8 * n) ∧ Bx W b 3 [.int .i64 (n : Nat)] ∧ Bx W g 5 (bs (seqK n k)) ∧ Bx W c 123 [.slice (some ⟨g, 0, none⟩) n n] ∧ Bx W (c + 1) 3 [.int .i64 (k : Nat)]) ∧ Below w.heap.size w W)
    (fun cd W => ((cd = .exit 0) ∧ Bx W g 5 (bs (scrKey n)) ∧ Bx W c 123 [.slice (some ⟨g, 0, none⟩) n n]) ∧ Below w.heap.size w W)
    (fun v => { tmps := #[.int .i64 (n : Nat), .pointer (some ⟨b, 0, none⟩), .slice none 0 0, .pointer (some ⟨c, 0, none⟩), .pointer (some ⟨c + 1, 0, none⟩), v, .int .i64 (n : Nat), .slice (some ⟨g, 0, none⟩) n n, .func (.func 210) #[] #[], v, undef, undef, undef, undef, undef, undef, undef, undef, undef, undef, undef, undef, undef, undef, undef, undef, undef, undef, undef, undef], defers := [] })
    (fun k => ((Stays.const _ _).and ((stays_bx _ _ _ _).and ((stays_bx _ _ _ _).and ((stays_bx _ _ _ _).and (stays_bx _ _ _ _))))).and (stays_below (Nat.le_refl _) (by rw [HS4.out]; omega)))
    (fun c => ((Stays.const _ _).and ((stays_bx _ _ _ _).and (stays_bx _ _ _ _))).and (stays_below (Nat.le_refl _) (by rw [HS4.out]; omega)))
    (fun k v => GR.stays _ _ _) ⟨⟨by omega, HX5.out, HR5.out, HX3.out, HX4.out⟩, HA5.out⟩ (fun W h => by have := h.1.1; omega) ?assign ?body ?stop
  case assign =>
    intro l v W K _ hK
    gi_wp2
    exact hK
  case body =>
    rintro l i v W1 hk ⟨⟨hi8, x1, xr, x3, x4⟩, hbz⟩ rfl
    have HBZ := Lib.hid hbz
    have HXR := Lib.hid xr
    have HX1 := Lib.hid x1
    have HXC := Lib.hid x3
    have HXI := Lib.hid x4
    have c1 := x1.cell (i := 0) rfl
    have c3 := x3.cell (i := 0) rfl
    have c4 := x4.cell (i := 0) rfl
    have hrl := reg_lt i
    have HKN := Lib.hid (key_nat i)
    generalize reg i = ry at *
    have hw1 : IntKind.i64.wrap (8 * (n : Int)) = 8 * (n : Int) := IntWalk.i64_in _ (by omega)
    clear hbz xr x1 x3 x4 hseq HX5 HR5 HX3 HX4 HA5
    by_cases hlt : i < 8 * n
    · have hpn : i / 8 < n := by omega
      have hq : ((i : Int) == 8 * (n : Int)) = false := beq_eq_false_iff_ne.2 (by omega)
      have hkl := kbN_256 (i / 8) (m := i % 8) (by omega)
      have hcell : W1.cell? ⟨g, i / 8, none⟩ = some (.int .u8 (kbN (i / 8) (i % 8) : Nat)) := by
        have h1 := HXR.out.cell (i := i / 8) (bs_get (by rw [seqK_len]; exact hpn))
        rw [seqK_ix hlt] at h1
        rw [h1]
        unfold B
        rw [kbU_nat _ (by omega)]
      have hfree := HXR.out.free (i / 8)
      have HST : Hid (Bx (W1.setCell ⟨g, i / 8, none⟩ (.int .u8 ((kbN (i / 8) (i % 8) ||| (ry % 2) * 2 ^ (i % 8) : Nat) : Int))) g 5 (bs (seqK n (i + 1)))) := Lib.hid (by
        have h1 := HXR.out.set (i / 8) (B (kbU (i / 8) (i % 8 + 1)))
        rw [bs_set, seqK_step hlt] at h1
        have e : B (kbU (i / 8) (i % 8 + 1)) = .int .u8 ((kbN (i / 8) (i % 8) ||| (ry % 2) * 2 ^ (i % 8) : Nat) : Int) := by
          unfold B
          rw [kbU_nat _ (by omega), HKN.out]
        rwa [e] at h1)
      generalize kbN (i / 8) (i % 8) = old at *
      have hpe : (i : Int) / 8 = ((i / 8 : Nat) : Int) := rfl
      have hme : (i : Int) % 8 = ((i % 8 : Nat) : Int) := rfl
      have hre : (ry : Int) % 2 = ((ry % 2 : Nat) : Int) := rfl
      have hta : (i : Int).tmod 8 = ((i % 8 : Nat) : Int) := by rw [Int.tmod_eq_emod_of_nonneg (by omega)]; rfl
      have hea := and1_16 (x := ry) (by omega)
      have hm8 : i % 8 < 8 := by omega
      have hr2 : ry % 2 < 2 := by omega
      have HE3 := Lib.hid (u8_or_one (a := old) (r := ry) (m := i % 8) hkl (by omega))
      generalize i / 8 = p at *
      generalize i % 8 = m at *
      have HE4 := Lib.hid (shl_one (r := ry) hm8)
      generalize ry % 2 = rb at *
      have HP := Lib.hid hpe
      have HM := Lib.hid hme
      have HRB := Lib.hid hre
      have HTM := Lib.hid hta
      have HEA := Lib.hid hea
      clear hta hea
      have HPW : Hid (IntKind.i64.wrap (p : Int) = (p : Int)) := Lib.hid (IntWalk.i64_in _ (by omega))
      have HMW : Hid (IntKind.i64.wrap (m : Int) = (m : Int)) := Lib.hid (IntWalk.i64_in _ (by omega))
      have HRW : Hid (IntKind.u8.wrap (rb : Int) = (rb : Int)) := Lib.hid (IntWalk.u8_in _ (by omega))
      generalize hsh : rb * 2 ^ m = sh at *
      generalize hnw : old ||| sh = nw at *
      have HNW := HE3
      have HSH := HE4
      clear hpe hme hre hm8 hr2 hsh hnw HE3 HE4
      have HQ : Hid (W1.drew.cell? ⟨c, 0, none⟩ = some (.slice (some ⟨g, 0, none⟩) n n) ∧ W1.drew.cell? ⟨c + 1, 0, none⟩ = some (.int .i64 (i : Nat)) ∧ W1.drew.cell? ⟨g, p, none⟩ = some (.int .u8 (old : Nat)) ∧ W1.drew.frozen? ⟨g, p, none⟩ = false) := Lib.hid ⟨c3, c4, hcell, hfree⟩
      gi_upto_region 6 with (fail)
      refine wpIn_region_seq (by rintro ⟨_, _, h⟩; exact h) (by kernel_rfl) (by kernel_rfl) (anyT) (seqC W1 ⟨g, p, none⟩ (.int .u8 (nw : Nat))) (sqV b c g n i old ry p m rb sh nw) (fun _ => false) sqVE 1 (by kernel_rfl) (by kernel_rfl) (.inl (by kernel_rfl)) (sqV_keep b c g n i old ry p m rb sh nw) (rfl) ⟨?_, ?_, ?_, ?_, ?_, ?_, ?_, ?_, ?_, ?_, ?_, ?_, ?_, ?_, trivial⟩ ?_
      · intro r a W hc hsz hold hdep hnot hlo hhi hrk
        have o3 : a.tmps.getD 3 undef = .pointer (some ⟨c, 0, none⟩) := hold 3 (by kernel_rfl)
        obtain rfl := seqC_0 hc (hhi 13 0 rfl (by kernel_rfl))
        have q0 := HQ.out.1
        clear hsz hold hdep hnot hlo hhi hrk
        refine stepR_do rfl (wanted_none rfl) ?_
        refine stepS_val (v := .slice (some ⟨g, 0, none⟩) n n) (anyT_mk _ _ _) hc rfl fun K hK => ?_
        go_simp
        exact hK
      · intro r a W hc hsz hold hdep hnot hlo hhi hrk
        have o4 : a.tmps.getD 4 undef = .pointer (some ⟨c + 1, 0, none⟩) := hold 4 (by kernel_rfl)
        obtain rfl := seqC_0 hc (hhi 13 0 rfl (by kernel_rfl))
        have q0 := HQ.out.2.1
        clear hsz hold hdep hnot hlo hhi hrk
        refine stepR_do rfl (wanted_none rfl) ?_
        refine stepS_val (v := .int .i64 (i : Nat)) (anyT_mk _ _ _) hc rfl fun K hK => ?_
        go_simp
        exact hK
      · intro r a W hc hsz hold hdep hnot hlo hhi hrk
        have d1 : a.tmps.getD 15 undef = .int .i64 (i : Nat) := hdep 1 (by kernel_rfl) rfl _ rfl
        clear hsz hold hdep hnot hlo hhi hrk
        refine stepR_do rfl (wanted_none rfl) ?_
        refine stepS_val (v := .int .i64 (p : Nat)) (anyT_mk _ _ _) hc rfl fun K hK => ?_
        go_simp
        first
          | exact hK
          | (rw [HP.out, HPW.out]
             exact hK)
          | (rw [HP.out]
             exact hK)
      · intro r a W hc hsz hold hdep hnot hlo hhi hrk
        have d0 : a.tmps.getD 14 undef = .slice (some ⟨g, 0, none⟩) n n := hdep 0 (by kernel_rfl) rfl _ rfl
        have d2 : a.tmps.getD 16 undef = .int .i64 (p : Nat) := hdep 2 (by kernel_rfl) rfl _ rfl
        have q1 := fun w' => run_idxS Tryz.underlying123 Tryz.sizeU8s (a := some ⟨g, 0, none⟩) (n := n) (cap := n) (k := p) (b := g) (off := 0) rfl hpn (p : Int) rfl w'
        simp only [Nat.mul_one, Nat.zero_add] at q1
        clear hsz hold hdep hnot hlo hhi hrk
        refine stepR_do rfl (wanted_none rfl) ?_
        refine stepS_val (v := .pointer (some ⟨g, p, none⟩)) (anyT_mk _ _ _) hc rfl fun K hK => ?_
        go_simp
        exact hK
      · intro r a W hc hsz hold hdep hnot hlo hhi hrk
        have d3 : a.tmps.getD 17 undef = .pointer (some ⟨g, p, none⟩) := hdep 3 (by kernel_rfl) rfl _ rfl
        obtain rfl := seqC_0 hc (hhi 13 0 rfl (by kernel_rfl))
        have q0 := HQ.out.2.2.1
        clear hsz hold hdep hnot hlo hhi hrk
        refine stepR_do rfl (wanted_none rfl) ?_
        refine stepS_val (v := .int .u8 (old : Nat)) (anyT_mk _ _ _) hc rfl fun K hK => ?_
        go_simp
        exact hK
      · intro r a W hc hsz hold hdep hnot hlo hhi hrk
        have o5 : a.tmps.getD 5 undef = .int .i64 (ry : Nat) := hold 5 (by kernel_rfl)
        clear hsz hold hdep hnot hlo hhi hrk
        refine stepR_do rfl (wanted_none rfl) ?_
        refine stepS_val (v := .int .i64 (ry : Nat)) (anyT_mk _ _ _) hc rfl fun K hK => ?_
        go_simp
        exact hK
      · intro r a W hc hsz hold hdep hnot hlo hhi hrk
        have d5 : a.tmps.getD 19 undef = .int .i64 (ry : Nat) := hdep 5 (by kernel_rfl) rfl _ rfl
        clear hsz hold hdep hnot hlo hhi hrk
        refine stepR_do rfl (wanted_none rfl) ?_
        refine stepS_val (v := .int .i64 (rb : Nat)) (anyT_mk _ _ _) hc rfl fun K hK => ?_
        go_simp
        first
          | exact hK
          | (rw [HEA.out]
             exact hK)
          | (rw [HEA.out]
             exact hK)
      · intro r a W hc hsz hold hdep hnot hlo hhi hrk
        have d6 : a.tmps.getD 20 undef = .int .i64 (rb : Nat) := hdep 6 (by kernel_rfl) rfl _ rfl
        clear hsz hold hdep hnot hlo hhi hrk
        refine stepR_do rfl (wanted_none rfl) ?_
        refine stepS_val (v := .int .u8 (rb : Nat)) (anyT_mk _ _ _) hc rfl fun K hK => ?_
        go_simp
        first
          | exact hK
          | (rw [HRW.out]
             exact hK)
          | (rw [HRW.out]
             exact hK)
      · intro r a W hc hsz hold hdep hnot hlo hhi hrk
        have o4 : a.tmps.getD 4 undef = .pointer (some ⟨c + 1, 0, none⟩) := hold 4 (by kernel_rfl)
        obtain rfl := seqC_0 hc (hhi 13 0 rfl (by kernel_rfl))
        have q0 := HQ.out.2.1
        clear hsz hold hdep hnot hlo hhi hrk
        refine stepR_do rfl (wanted_none rfl) ?_
        refine stepS_val (v := .int .i64 (i : Nat)) (anyT_mk _ _ _) hc rfl fun K hK => ?_
        go_simp
        exact hK
      · intro r a W hc hsz hold hdep hnot hlo hhi hrk
        have d8 : a.tmps.getD 22 undef = .int .i64 (i : Nat) := hdep 8 (by kernel_rfl) rfl _ rfl
        clear hsz hold hdep hnot hlo hhi hrk
        refine stepR_do rfl (wanted_none rfl) ?_
        refine stepS_val (v := .int .i64 (m : Nat)) (anyT_mk _ _ _) hc rfl fun K hK => ?_
        go_simp
        first
          | exact hK
          | (rw [HTM.out]
             exact hK)
          | (rw [HTM.out]
             exact hK)
      · intro r a W hc hsz hold hdep hnot hlo hhi hrk
        have d7 : a.tmps.getD 21 undef = .int .u8 (rb : Nat) := hdep 7 (by kernel_rfl) rfl _ rfl
        have d9 : a.tmps.getD 23 undef = .int .i64 (m : Nat) := hdep 9 (by kernel_rfl) rfl _ rfl
        clear hsz hold hdep hnot hlo hhi hrk
        refine stepR_do rfl (wanted_none rfl) ?_
        refine stepS_val (v := .int .u8 (sh : Nat)) (anyT_mk _ _ _) hc rfl fun K hK => ?_
        go_simp
        first
          | exact hK
          | (rw [HSH.out]
             exact hK)
          | (rw [HSH.out]
             exact hK)
      · intro r a W hc hsz hold hdep hnot hlo hhi hrk
        have d4 : a.tmps.getD 18 undef = .int .u8 (old : Nat) := hdep 4 (by kernel_rfl) rfl _ rfl
        have d10 : a.tmps.getD 24 undef = .int .u8 (sh : Nat) := hdep 10 (by kernel_rfl) rfl _ rfl
        clear hsz hold hdep hnot hlo hhi hrk
        refine stepR_do rfl (wanted_none rfl) ?_
        refine stepS_val (v := .int .u8 (nw : Nat)) (anyT_mk _ _ _) hc rfl fun K hK => ?_
        go_simp
        first
          | exact hK
          | (rw [HNW.out]
             exact hK)
          | (rw [HNW.out]
             exact hK)
      · intro r a W hc hsz hold hdep hnot hlo hhi hrk
        have d0 : a.tmps.getD 14 undef = .slice (some ⟨g, 0, none⟩) n n := hdep 0 (by kernel_rfl) rfl _ rfl
        have d2 : a.tmps.getD 16 undef = .int .i64 (p : Nat) := hdep 2 (by kernel_rfl) rfl _ rfl
        have q1 := fun w' => run_idxS Tryz.underlying123 Tryz.sizeU8s (a := some ⟨g, 0, none⟩) (n := n) (cap := n) (k := p) (b := g) (off := 0) rfl hpn (p : Int) rfl w'
        simp only [Nat.mul_one, Nat.zero_add] at q1
        clear hsz hold hdep hnot hlo hhi hrk
        refine stepR_do rfl (wanted_none rfl) ?_
        refine stepS_val (v := .pointer (some ⟨g, p, none⟩)) (anyT_mk _ _ _) hc rfl fun K hK => ?_
        go_simp
        exact hK
      · intro r a W hc hsz hold hdep hnot hlo hhi hrk
        have hr := hrk 0 rfl
        subst hr
        have d12 : a.tmps.getD 26 undef = .pointer (some ⟨g, p, none⟩) := hdep 12 (by kernel_rfl) rfl _ rfl
        have d11 : a.tmps.getD 25 undef = .int .u8 (nw : Nat) := hdep 11 (by kernel_rfl) rfl _ rfl
        clear hsz hold hdep hnot hlo hhi hrk
        refine stepR_do rfl (wanted_none rfl) ?_
        refine stepS_new (v := undef) (w' := W.setCell ⟨g, p, none⟩ (.int .u8 (nw : Nat))) (anyT_mk _ _ _) (show seqC _ _ _ 1 _ from ?_) trivial fun K hK => ?_
        · obtain rfl := seqC_0 hc (Nat.le_refl _)
          rfl
        · obtain rfl := seqC_0 hc (Nat.le_refl _)
          have q0 := HQ.out.2.2.1
          have q1 := HQ.out.2.2.2
          go_simp
          exact hK
      · intro a W hC hd hsz hold hval
        have d0 : a.tmps.getD 0 undef = .int .i64 (n : Nat) := hold 0 (by kernel_rfl)
        have d1 : a.tmps.getD 1 undef = .pointer (some ⟨b, 0, none⟩) := hold 1 (by kernel_rfl)
        have d2 : a.tmps.getD 2 undef = .slice none 0 0 := hold 2 (by kernel_rfl)
        have d3 : a.tmps.getD 3 undef = .pointer (some ⟨c, 0, none⟩) := hold 3 (by kernel_rfl)
        have d4 : a.tmps.getD 4 undef = .pointer (some ⟨c + 1, 0, none⟩) := hold 4 (by kernel_rfl)
        clear hold
        obtain ⟨tm, df⟩ := a
        replace hd : df = [] := hd
        replace hsz : tm.size = 30 := hsz
        replace d0 : tm.getD 0 undef = .int .i64 (n : Nat) := d0
        replace d1 : tm.getD 1 undef = .pointer (some ⟨b, 0, none⟩) := d1
        replace d2 : tm.getD 2 undef = .slice none 0 0 := d2
        replace d3 : tm.getD 3 undef = .pointer (some ⟨c, 0, none⟩) := d3
        replace d4 : tm.getD 4 undef = .pointer (some ⟨c + 1, 0, none⟩) := d4
        subst hd
        have e : tm = List.toArray (tm.getD 0 undef :: tm.getD 1 undef :: tm.getD 2 undef :: tm.getD 3 undef :: tm.getD 4 undef :: tm.getD 5 undef :: tm.getD 6 undef :: tm.getD 7 undef :: tm.getD 8 undef :: tm.getD 9 undef :: tm.getD 10 undef :: tm.getD 11 undef :: tm.getD 12 undef :: tm.getD 13 undef :: tm.getD 14 undef :: tm.getD 15 undef :: tm.getD 16 undef :: tm.getD 17 undef :: tm.getD 18 undef :: tm.getD 19 undef :: tm.getD 20 undef :: tm.getD 21 undef :: tm.getD 22 undef :: tm.getD 23 undef :: tm.getD 24 undef :: tm.getD 25 undef :: tm.getD 26 undef :: tm.getD 27 undef :: tm.getD 28 undef :: tm.getD 29 undef :: []) := arr_eq tm 30 hsz
        rw [d0, d1, d2, d3, d4] at e
        clear d0 d1 d2 d3 d4 hsz
        generalize tm.getD 5 undef = v5 at e
        generalize tm.getD 6 undef = v6 at e
        generalize tm.getD 7 undef = v7 at e
        generalize tm.getD 8 undef = v8 at e
        generalize tm.getD 9 undef = v9 at e
        generalize tm.getD 10 undef = v10 at e
        generalize tm.getD 11 undef = v11 at e
        generalize tm.getD 12 undef = v12 at e
        generalize tm.getD 13 undef = v13 at e
        generalize tm.getD 14 undef = v14 at e
        generalize tm.getD 15 undef = v15 at e
        generalize tm.getD 16 undef = v16 at e
        generalize tm.getD 17 undef = v17 at e
        generalize tm.getD 18 undef = v18 at e
        generalize tm.getD 19 undef = v19 at e
        generalize tm.getD 20 undef = v20 at e
        generalize tm.getD 21 undef = v21 at e
        generalize tm.getD 22 undef = v22 at e
        generalize tm.getD 23 undef = v23 at e
        generalize tm.getD 24 undef = v24 at e
        generalize tm.getD 25 undef = v25 at e
        generalize tm.getD 26 undef = v26 at e
        generalize tm.getD 27 undef = v27 at e
        generalize tm.getD 28 undef = v28 at e
        generalize tm.getD 29 undef = v29 at e
        subst e
        obtain rfl : W = W1.drew.setCell ⟨g, p, none⟩ (.int .u8 (nw : Nat)) := hC
        have hdr := (Below.refl W1.heap.size W1).drew
        have hsz : w.heap.size ≤ W1.heap.size := HBZ.out.size
        have y1 := (HX1.out.call hdr).far (p := ⟨g, p, none⟩) (by simp only; omega) (.int .u8 (nw : Nat))
        have y3 := (HXC.out.call hdr).far (p := ⟨g, p, none⟩) (by simp only; omega) (.int .u8 (nw : Nat))
        have y4 := (HXI.out.call hdr).far (p := ⟨g, p, none⟩) (by simp only; omega) (.int .u8 (nw : Nat))
        have yr : Bx (W1.drew.setCell ⟨g, p, none⟩ (.int .u8 (nw : Nat))) g 5 (bs (seqK n (i + 1))) := HST.out
        have yb := (HBZ.out.drew).setCell (p := ⟨g, p, none⟩) (by simp only; omega) (.int .u8 (nw : Nat))
        have yk : KeepsFrom w4.heap.size W1 (W1.drew.setCell ⟨g, p, none⟩ (.int .u8 (nw : Nat))) := (kf_below hdr).trans (kf_set _ _ _ _)
        clear hval
        generalize W1.drew.setCell ⟨g, p, none⟩ (.int .u8 (nw : Nat)) = W2 at *
        have c4 := y4.cell (i := 0) rfl
        have f4 := y4.free 0
        have hwi : IntKind.i64.wrap ((i : Int) + 1) = (i : Int) + 1 := IntWalk.i64_in _ (by omega)
        have Y1 := Lib.hid (y1.far (p := ⟨c + 1, 0, none⟩) (by simp only; omega) (.int .i64 ((i : Int) + 1)))
        have Y3 := Lib.hid (y3.far (p := ⟨c + 1, 0, none⟩) (by simp only; omega) (.int .i64 ((i : Int) + 1)))
        have YR := Lib.hid (yr.far (p := ⟨c + 1, 0, none⟩) (by simp only; omega) (.int .i64 ((i : Int) + 1)))
        have Y4 := Lib.hid (y4.set 0 (.int .i64 ((i : Int) + 1)))
        have YB := Lib.hid (yb.setCell (p := ⟨c + 1, 0, none⟩) (by simp only; omega) (.int .i64 ((i : Int) + 1)))
        have YK := Lib.hid (yk.trans (kf_set w4.heap.size W2 ⟨c + 1, 0, none⟩ (.int .i64 ((i : Int) + 1))))
        clear y1 y3 y4 yr yb yk
        gi_wp2
        exact ⟨YK.out, ⟨by omega, Y1.out, YR.out, Y3.out, Y4.out⟩, YB.out⟩
    · obtain rfl : i = 8 * n := by omega
      have hq : (((8 * n : Nat) : Int) == 8 * (n : Int)) = true := beq_iff_eq.2 (by omega)
      have hq2 : ((8 * n : Nat) : Int) = 8 * (n : Int) := by omega
      have hxr := HXR.out
      rw [seqK_all] at hxr
      have HXR2 := Lib.hid hxr
      clear hxr
      gi_wp2
      exact ⟨KeepsFrom.refl _ _, ⟨rfl, HXR2.out, HXC.out⟩, HBZ.out⟩
  case stop =>
    rintro D cd W hD ⟨⟨rfl, hx, hx3⟩, hb⟩ hK
    have c3 := hx3.cell (i := 0) rfl
    have HX := Lib.hid hx
    have HBB := Lib.hid hb
    have HK := Lib.hid hK
    have hs4 := HS4.out
    clear hx hb hK hseq
    gi_wp2
    refine ⟨by simp, .inl ⟨_, _, rfl, run_takeDeferred HK.out, ?_⟩⟩
    refine ⟨.slice (some ⟨g, 0, none⟩) n n, by simp [results, Tryz.results92, go_sem], g, rfl, hbw, (stays_bx (w.heap.size + 1 + 1) _ _ _).putObj (.deferred none) HX.out (by omega) HK.out rfl, HBB.out.trans (belowK_b (w := w) (Nat.le_refl _) _ D _ _ (by omega) HK.out rfl rfl)⟩
end Go.Proofs.YtflmjdjkfognjaaGreat.T7
