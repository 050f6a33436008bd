/- Chapter 14: the closure of encode walked. -/
import Derived.Test.YtiioojlihapdaaaOwn
import Derived.Test.YtiioojlihapdaaaTkD
import Derived.Outline
/- Chapter 1: big-endian numbers of the reference walked. -/
namespace Go.Proofs.Ytiioojlihapdaaa.E1
open Go.RowKit
set_option linter.unusedVariables false

/-- the byte with the weight 256^k; the bytes of a number, the least first; the greatest first -/
def leB (n k : Nat) : UInt8 := UInt8.ofNat (n / 256 ^ k % 256)
def leN (n : Nat) : Nat → List UInt8
  | 0 => []
  | k + 1 => leN n k ++ [leB n k]
theorem leN_length (n : Nat) : ∀ k, (leN n k).length = k
  | 0 => rfl
  | k + 1 => by rw [leN, List.length_append, leN_length n k]; rfl
def beN (n size : Nat) : List UInt8 := (leN n size).reverse
theorem beN_length (n size : Nat) : (beN n size).length = size := by rw [beN, List.length_reverse, leN_length]
/-- whether a number has place in some bytes -/
def fitE (n : Int) (size : Nat) : Bool := decide (0 ≤ n) && decide (n.toNat / 256 ^ size = 0)
theorem own_keepE {w w' : World} {base e size n : Nat} {v : Value} {xs : List Value} (h : w.ownsRow base e size v n xs) (hb : Below w.heap.size w w') : w'.ownsRow base e size v n xs := by
  refine ⟨h.1, ?_⟩
  rcases h.2 with h2 | ⟨g, cap, cur, h1, h2, h3, h4⟩
  · exact .inl h2
  · exact .inr ⟨g, cap, cur, h1, h2, (hb.block g (Array.getElem?_eq_some_iff.1 h3).1).trans h3, h4⟩
theorem ownBlock_geE {w : World} {base e size n : Nat} {v : Value} {xs : List Value} (h : w.ownsRow base e size v n xs) : ∀ k, v.ownBlock = some k → base ≤ k := by
  intro k hk
  rcases h.2 with ⟨rfl, _⟩ | ⟨g, cap, cur, rfl, h2, _⟩
  · simp [Value.ownBlock] at hk
  · simp only [Value.ownBlock, Option.some.injEq] at hk
    omega
theorem Try.infoE : (Try.prog.info? 5).map (fun i => (i.zero, i.size, i.bytes)) = some (some (.int .u8 0), 1, 1) := by kernel_rfl

set_option maxRecDepth 100000 in
theorem rfits_any (n : Int) (size : Nat) (x : Int) (w : World) (hx : x = size) (hs : size ≤ 8) (hn : n ≤ 9223372036854775807) : Calls Try.prog 99 #[.int .i64 n, .int .i64 x] w fun e w' => e = .returned (.bool (fitE n size)) ∧ w = w' := by
  subst hx
  by_cases h0 : n < 0
  · have e : fitE n size = false := by unfold fitE; rw [decide_eq_false (by omega)]; rfl
    rw [e]
    clear e
    go_enter Try.func99, Try.ntmps99
    go_wp2_with fail
    go_ret
    exact ⟨rfl, rfl⟩
  · obtain ⟨N, rfl⟩ : ∃ N : Nat, n = N := ⟨n.toNat, by omega⟩
    clear h0
    have HE : Hid (fitE (N : Int) size = decide (N / 256 ^ size = 0)) := Lib.hid (by unfold fitE; rw [decide_eq_true (by omega)]; simp)
    go_enter Try.func99, Try.ntmps99
    go_wp2_with fail
    go_loop [0, 5] (fun vn vk => ∃ (k m : Nat), k ≤ size ∧ vk = .int .i64 k ∧ vn = .int .i64 m ∧ Hid (m = N / 256 ^ k) ∧ m ≤ 9223372036854775807) (fun _ vk => size - (intOf vk).toNat)
    case atStart => exact ⟨0, N, by omega, rfl, rfl, Lib.hid (by simp), by omega⟩
    case round =>
      obtain ⟨k, m, hk, rfl, rfl, HM, hmb⟩ := hrel
      by_cases hlt : k < size
      · have hlt' : (k : Int) < size := by omega
        have HN : Hid (m / 256 = N / 256 ^ (k + 1)) := Lib.hid (by rw [HM.out, Nat.pow_succ, Nat.div_div_eq_div_mul])
        go_wp2_with fail
        go_round
        case rel => exact ⟨k + 1, m / 256, by omega, by go_num, by go_num, HN, by omega⟩
        case measure => simp [intOf]; omega
      · obtain rfl : k = size := by omega
        have hq : ((m : Int) == 0) = decide (N / 256 ^ k = 0) := by
          rw [← HM.out, Bool.eq_iff_iff]
          simp
        have HQ := Lib.hid hq
        clear hq
        go_wp2_with fail
        go_ret
        rw [HE.out, ← HQ.out]
        exact ⟨rfl, rfl⟩

set_option maxRecDepth 100000 in
set_option maxHeartbeats 2000000 in
theorem rbytes_any (N size : Nat) (x y : Int) (w : World) (hy : y = N) (hx : x = size) (hs : size ≤ 8) (hn : N ≤ 9223372036854775807) : Calls Try.prog 100 #[.int .i64 y, .int .i64 x] w fun e w' => e = .returned (.string (str (leN N size))) ∧ Below w.heap.size w w' := by
  subst hx hy
  go_enter Try.func100, Try.ntmps100
  go_wp2_with fail
  have ho0 : (w.alloc (.cells #[] 5)).ownsRow w.heap.size 5 1 (.slice (some ⟨w.heap.size, 0, none⟩) 0 0) 0 (bs (leN N 0)) := World.ownsRow_lit w #[] 0 (Nat.le_refl _) (by simp) (by simp)
  have hb0 : Below w.heap.size w (w.alloc (.cells #[] 5)) := (Below.refl _ w).alloc (Nat.le_refl _) _
  go_loopw [0, 5, 6] (fun vn vo vk wr => ∃ k m : Nat, k ≤ size ∧ vk = .int .i64 k ∧ vn = .int .i64 m ∧ Hid (m = N / 256 ^ k) ∧ m ≤ 9223372036854775807 ∧ wr.ownsRow w.heap.size 5 1 vo k (bs (leN N k)) ∧ Below w.heap.size w wr) (fun _ _ vk _ => size - (intOf vk).toNat)
  case atStart => exact ⟨0, N, by omega, rfl, rfl, Lib.hid (by simp), by omega, ho0, hb0⟩
  case round =>
    clear ho0 hb0
    obtain ⟨k, m, hk, rfl, rfl, HM, hmb, ho, hb⟩ := hrel
    by_cases hlt : k < size
    · have hbs := hb.size
      have hlt' : (k : Int) < size := by omega
      have HN : Hid (m / 256 = N / 256 ^ (k + 1)) := Lib.hid (by rw [HM.out, Nat.pow_succ, Nat.div_div_eq_div_mul])
      have hc : (m : Int) % 256 = ((leB N k).toNat : Int) := by
        unfold leB
        rw [← HM.out, UInt8.toNat_ofNat']
        omega
      have ho6 := own_keepE ho ((Below.refl wr.heap.size wr).alloc (Nat.le_refl _) (.cells #[B (leB N k)] 5))
      have hrd1 : Rd (wr.alloc (.cells #[B (leB N k)] 5)) (.slice (some ⟨wr.heap.size, 0, none⟩) 1 1) [leB N k] := Rd.ofOwn' (World.ownsRow_lit wr #[B (leB N k)] 1 (Nat.le_refl _) (by simp [maxLen]) (by simp)) (by simp)
      have hb6 := hb.alloc hbs (.cells #[B (leB N k)] 5)
      have hb6s := hb6.size
      clear ho hb
      have HO : Hid (∀ v7 w7, World.ownsRow w7 w.heap.size 5 1 v7 (k + 1) (bs (leN N k ++ [leB N k])) → World.ownsRow w7 w.heap.size 5 1 v7 (k + 1) (bs (leN N (k + 1)))) := Lib.hid (fun _ _ h => h)
      generalize leB N k = c at *
      go_wp2_with (refine wpList_appB rfl _ _ rfl Try.underlying105 Try.infoE ho6 rfl hrd1 rfl (by simp; omega) hb6s ?_; intro v7 w7 hown7 hgr7 _)
      have hb7 := hb6.grown hgr7 hb6s (ownBlock_geE ho6)
      clear hb6 ho6 hrd1 hgr7
      go_roundw
      case rel => exact ⟨k + 1, m / 256, by omega, by go_num, by go_num, HN, by omega, HO.out _ _ hown7, hb7⟩
      case measure => simp [intOf]; omega
    · obtain rfl : k = size := by omega
      have hrd : Rd wr u5 (leN N k) := Rd.ofOwn' ho (by omega)
      obtain ⟨a3, c3, rfl⟩ := hrd.form
      have hcx := run_str (P := Try.prog) Try.underlying105 Try.underlying5 Try.underlying9 hrd
      rw [leN_length] at hcx
      rw [leN_length]
      clear ho hrd
      go_wp2_with fail
      go_ret
      exact ⟨rfl, hb⟩

/-- the last 'k' bytes, the last one first -/
def revN (l : List UInt8) (k : Nat) : List UInt8 := l.reverse.take k
theorem revN_succ (l : List UInt8) (k : Nat) (h : k < l.length) : revN l (k + 1) = revN l k ++ [G.ix l (l.length - 1 - k)] := by
  unfold revN
  rw [List.take_add_one]
  congr 1
  rw [List.getElem?_reverse h]
  simp [G.ix, List.getElem?_eq_getElem (show l.length - 1 - k < l.length by omega)]
theorem revN_length (l : List UInt8) (k : Nat) (h : k ≤ l.length) : (revN l k).length = k := by simp [revN]; omega
theorem run_sidxE {P : Program} {t : TypeId} (ht : P.underlying t = some .string) (l : List UInt8) (k : Nat) (hk : k < l.length) (i : Int) (hi : i = k) (w : World) :
    (Instr.index t (.string (str l)) (.int .i64 i)).run P w = .ok (B (G.ix l k)) w := by
  subst hi
  have h1 : (str l).size = l.length := str_size l
  have h2 : ((str l)[k]'(by rw [h1]; exact hk)) = l[k] := by simp [str, ByteArray.getElem_eq_getElem_data]
  simp [Instr.index, asIntOf, run_underlying ht, h1, hk, h2, G.ix]
set_option maxRecDepth 100000 in
set_option maxHeartbeats 2000000 in
theorem rreverse_any (l : List UInt8) (w : World) (hl : l.length ≤ 1000000) : Calls Try.prog 91 #[.string (str l)] w fun e w' => e = .returned (.string (str l.reverse)) ∧ Below w.heap.size w w' := by
  have hz := str_size l
  obtain ⟨n, hn⟩ : ∃ n, n = l.length := ⟨_, rfl⟩
  rw [← hn] at hz hl
  have HN := Lib.hid hn
  clear hn
  go_enter Try.func91, Try.ntmps91
  go_wp2_with fail
  have ho0 : (w.alloc (.cells #[] 5)).ownsRow w.heap.size 5 1 (.slice (some ⟨w.heap.size, 0, none⟩) 0 0) 0 (bs (revN l 0)) := World.ownsRow_lit w #[] 0 (Nat.le_refl _) (by simp) (by simp)
  have hb0 : Below w.heap.size w (w.alloc (.cells #[] 5)) := (Below.refl _ w).alloc (Nat.le_refl _) _
  go_loopw [3, 4] (fun vo vi wr => ∃ k : Nat, k ≤ n ∧ vi = .int .i64 ((n : Int) - 1 - k) ∧ wr.ownsRow w.heap.size 5 1 vo k (bs (revN l k)) ∧ Below w.heap.size w wr) (fun _ vi _ => (intOf vi + 1).toNat)
  case atStart => exact ⟨0, by omega, by go_num, ho0, hb0⟩
  case round =>
    clear ho0 hb0
    obtain ⟨k, hk, rfl, ho, hb⟩ := hrel
    by_cases hlt : k < n
    · have hbs := hb.size
      have hge : decide (0 ≤ (n : Int) - 1 - (k : Int)) = true := by simp; omega
      have hi1 := fun wx => run_sidxE (P := Try.prog) Try.underlying9 l (n - 1 - k) (by rw [← HN.out]; omega) ((n : Int) - 1 - (k : Int)) (by omega) wx
      have HO : Hid (∀ v7 w7, World.ownsRow w7 w.heap.size 5 1 v7 (k + 1) (bs (revN l k ++ [G.ix l (n - 1 - k)])) → World.ownsRow w7 w.heap.size 5 1 v7 (k + 1) (bs (revN l (k + 1)))) := Lib.hid (fun _ _ h => by rw [revN_succ l k (by rw [← HN.out]; exact hlt), ← HN.out]; exact h)
      generalize G.ix l (n - 1 - k) = c at *
      have ho6 := own_keepE ho ((Below.refl wr.heap.size wr).alloc (Nat.le_refl _) (.cells #[B c] 5))
      have hrd1 : Rd (wr.alloc (.cells #[B c] 5)) (.slice (some ⟨wr.heap.size, 0, none⟩) 1 1) [c] := Rd.ofOwn' (World.ownsRow_lit wr #[B c] 1 (Nat.le_refl _) (by simp [maxLen]) (by simp)) (by simp)
      have hb6 := hb.alloc hbs (.cells #[B c] 5)
      have hb6s := hb6.size
      clear ho hb
      go_wp2_with (refine wpList_appB rfl _ _ rfl Try.underlying105 Try.infoE ho6 rfl hrd1 rfl (by simp; omega) hb6s ?_; intro v7 w7 hown7 hgr7 _)
      have hb7 := hb6.grown hgr7 hb6s (ownBlock_geE ho6)
      clear hb6 ho6 hrd1 hgr7
      go_roundw
      case rel => exact ⟨k + 1, by omega, by go_num, HO.out _ _ hown7, hb7⟩
      case measure => simp [intOf]; omega
    · obtain rfl : k = n := by omega
      have hge : decide (0 ≤ (k : Int) - 1 - (k : Int)) = false := by simp; omega
      have hrl : revN l k = l.reverse := by unfold revN; rw [HN.out, List.take_of_length_le (by simp)]
      rw [hrl] at ho
      have hrd : Rd wr u3 l.reverse := Rd.ofOwn' ho (by omega)
      obtain ⟨a3, c3, rfl⟩ := hrd.form
      have hcx := run_str (P := Try.prog) Try.underlying105 Try.underlying5 Try.underlying9 hrd
      rw [List.length_reverse, ← HN.out] at hcx
      rw [List.length_reverse, ← HN.out]
      clear ho hrd hrl
      go_wp2_with fail
      go_ret
      exact ⟨rfl, hb⟩

/-- the bytes of a number in some bytes, and a code -/
def bigR (n : Int) (size : Nat) : List UInt8 × Int := if fitE n size = true then (beN n.toNat size, 0) else ([], 2)
set_option maxRecDepth 100000 in
theorem rlittle_any (n : Int) (size : Nat) (x : Int) (w : World) (hx : x = size) (h1 : 1 ≤ size) (hs : size ≤ 8) (hn : n ≤ 9223372036854775807) : Calls Try.prog 90 #[.int .i64 n, .int .i64 x] w fun e w' => e = .returned (.tuple #[.string (str (if fitE n size = true then leN n.toNat size else [])), .int .i64 (bigR n size).2]) ∧ Below w.heap.size w w' := by
  have HF := Lib.hid (fun W => rfits_any n size x W hx hs hn)
  have hx0 := hx
  cases hf : fitE n size with
  | false =>
    have e1 : (bigR n size).2 = 2 := by unfold bigR; rw [hf]; rfl
    rw [e1]
    rw [hf] at HF
    subst hx
    clear e1 hf hx0
    go_enter Try.func90, Try.ntmps90
    go_wp2_with fail
    refine (HF.out _).mono ?_
    rintro e w' ⟨rfl, rfl⟩
    go_wp2_with fail
    go_ret2
    exact ⟨rfl, Below.refl _ _⟩
  | true =>
    have e1 : (bigR n size).2 = 0 := by unfold bigR; rw [hf]; rfl
    rw [e1]
    obtain ⟨N, rfl⟩ : ∃ N : Nat, n = N := ⟨n.toNat, by have : 0 ≤ n := by { unfold fitE at hf; rw [Bool.and_eq_true] at hf; exact of_decide_eq_true hf.1 }; omega⟩
    have HB := Lib.hid (fun W => rbytes_any N size x (N : Int) W rfl hx hs (by omega))
    rw [hf] at HF
    have e2 : ((N : Int)).toNat = N := by omega
    rw [e2]
    subst hx
    clear e1 hf hx0 e2
    go_enter Try.func90, Try.ntmps90
    go_wp2_with fail
    refine (HF.out _).mono ?_
    rintro e w' ⟨rfl, rfl⟩
    go_wp2_with fail
    refine (HB.out _).mono ?_
    rintro e w2 ⟨rfl, hb2⟩
    go_wp2_with fail
    go_ret2
    exact ⟨rfl, hb2⟩
set_option maxRecDepth 100000 in
set_option maxHeartbeats 400000 in
theorem rbig_any (n : Int) (size : Nat) (x : Int) (w : World) (hx : x = size) (h1 : 1 ≤ size) (hs : size ≤ 8) (hn : n ≤ 9223372036854775807) : Calls Try.prog 77 #[.int .i64 n, .int .i64 x] w fun e w' => e = .returned (.tuple #[.string (str (bigR n size).1), .int .i64 (bigR n size).2]) ∧ Below w.heap.size w w' := by
  subst hx
  have HL := Lib.hid (fun W => rlittle_any n size (size : Int) W rfl h1 hs hn)
  have e1 : (bigR n size).1 = (if fitE n size = true then leN n.toNat size else []).reverse := by unfold bigR; split <;> simp [beN]
  have hlen : (if fitE n size = true then leN n.toNat size else []).length ≤ 1000000 := by
    split
    · rw [leN_length]; omega
    · simp
  obtain ⟨s, hs1⟩ : ∃ s, s = (if fitE n size = true then leN n.toNat size else []) := ⟨_, rfl⟩
  obtain ⟨r, hr1⟩ : ∃ r, r = (bigR n size).2 := ⟨_, rfl⟩
  rw [← hs1] at HL e1 hlen
  rw [← hr1] at HL
  rw [e1, ← hr1]
  clear hs1 hr1
  have HR := Lib.hid (fun W => rreverse_any s W hlen)
  generalize str s.reverse = T at *
  generalize str s = S at *
  clear e1 hlen
  go_enter Try.func77, Try.ntmps77
  go_wp2_with fail
  refine (HL.out _).mono ?_
  rintro e w2 ⟨rfl, hb2⟩
  go_wp2_with fail
  refine (HR.out _).mono ?_
  rintro e w3 ⟨rfl, hb3⟩
  have hb4 := hb2.trans (hb3.mono hb2.size)
  clear hb2 hb3
  go_wp2_with fail
  go_ret2
  exact ⟨rfl, hb4⟩
end Go.Proofs.Ytiioojlihapdaaa.E1
/- Chapter 1: big-endian numbers of the package walked (sizes 2 and 4). -/
namespace Go.Proofs.Ytiioojlihapdaaa.E1
open Go.RowKit
set_option linter.unusedVariables false

theorem fitE_2 (n : Int) : fitE n 2 = decide (0 ≤ n ∧ n < 65536) := by
  unfold fitE
  rw [Bool.eq_iff_iff, Bool.and_eq_true, decide_eq_true_eq, decide_eq_true_eq, decide_eq_true_eq]
  have e : (256 : Nat) ^ 2 = 65536 := by decide
  rw [e]
  constructor
  · rintro ⟨h1, h2⟩
    refine ⟨h1, ?_⟩
    omega
  · rintro ⟨h1, h2⟩
    refine ⟨h1, ?_⟩
    omega
set_option maxRecDepth 100000 in
theorem efits2 (n : Int) (w : World) : Calls Try.prog 96 #[.int .i64 n, .int .i64 2] w fun e w' => e = .returned (.bool (fitE n 2)) ∧ w = w' := by
  rw [fitE_2]
  by_cases h0 : 0 ≤ n
  · by_cases h1 : n < 65536
    · rw [decide_eq_true ⟨h0, h1⟩]
      go_enter Try.func96, Try.ntmps96
      go_wp2_with fail
      go_ret
      exact ⟨rfl, rfl⟩
    · rw [decide_eq_false (fun h => h1 h.2)]
      go_enter Try.func96, Try.ntmps96
      go_wp2_with fail
      go_ret
      exact ⟨rfl, rfl⟩
  · rw [decide_eq_false (fun h => h0 h.1)]
    go_enter Try.func96, Try.ntmps96
    go_wp2_with fail
    go_ret
    exact ⟨rfl, rfl⟩
set_option maxRecDepth 100000 in
theorem echeck2 (n : Int) (w : World) : Calls Try.prog 86 #[.int .i64 n, .int .i64 2] w fun e w' => e = .returned (.int .i64 (bigR n 2).2) ∧ w = w' := by
  have HF := Lib.hid (fun W => efits2 n W)
  cases hf : fitE n 2 with
  | true =>
    have e1 : (bigR n 2).2 = 0 := by unfold bigR; rw [hf]; rfl
    rw [e1]
    rw [hf] at HF
    clear e1 hf
    go_enter Try.func86, Try.ntmps86
    go_wp2_with fail
    refine (HF.out _).mono ?_
    rintro e w' ⟨rfl, rfl⟩
    go_wp2_with fail
    go_ret
    exact ⟨rfl, rfl⟩
  | false =>
    have e1 : (bigR n 2).2 = 2 := by unfold bigR; rw [hf]; rfl
    rw [e1]
    rw [hf] at HF
    clear e1 hf
    go_enter Try.func86, Try.ntmps86
    go_wp2_with fail
    refine (HF.out _).mono ?_
    rintro e w' ⟨rfl, rfl⟩
    go_wp2_with fail
    go_ret
    exact ⟨rfl, rfl⟩
theorem fitE_4 (n : Int) : fitE n 4 = decide (0 ≤ n ∧ n < 4294967296) := by
  unfold fitE
  rw [Bool.eq_iff_iff, Bool.and_eq_true, decide_eq_true_eq, decide_eq_true_eq, decide_eq_true_eq]
  have e : (256 : Nat) ^ 4 = 4294967296 := by decide
  rw [e]
  constructor
  · rintro ⟨h1, h2⟩
    refine ⟨h1, ?_⟩
    omega
  · rintro ⟨h1, h2⟩
    refine ⟨h1, ?_⟩
    omega
set_option maxRecDepth 100000 in
theorem efits4 (n : Int) (w : World) : Calls Try.prog 96 #[.int .i64 n, .int .i64 4] w fun e w' => e = .returned (.bool (fitE n 4)) ∧ w = w' := by
  rw [fitE_4]
  by_cases h0 : 0 ≤ n
  · by_cases h1 : n < 4294967296
    · rw [decide_eq_true ⟨h0, h1⟩]
      go_enter Try.func96, Try.ntmps96
      go_wp2_with fail
      go_ret
      exact ⟨rfl, rfl⟩
    · rw [decide_eq_false (fun h => h1 h.2)]
      go_enter Try.func96, Try.ntmps96
      go_wp2_with fail
      go_ret
      exact ⟨rfl, rfl⟩
  · rw [decide_eq_false (fun h => h0 h.1)]
    go_enter Try.func96, Try.ntmps96
    go_wp2_with fail
    go_ret
    exact ⟨rfl, rfl⟩
set_option maxRecDepth 100000 in
theorem echeck4 (n : Int) (w : World) : Calls Try.prog 86 #[.int .i64 n, .int .i64 4] w fun e w' => e = .returned (.int .i64 (bigR n 4).2) ∧ w = w' := by
  have HF := Lib.hid (fun W => efits4 n W)
  cases hf : fitE n 4 with
  | true =>
    have e1 : (bigR n 4).2 = 0 := by unfold bigR; rw [hf]; rfl
    rw [e1]
    rw [hf] at HF
    clear e1 hf
    go_enter Try.func86, Try.ntmps86
    go_wp2_with fail
    refine (HF.out _).mono ?_
    rintro e w' ⟨rfl, rfl⟩
    go_wp2_with fail
    go_ret
    exact ⟨rfl, rfl⟩
  | false =>
    have e1 : (bigR n 4).2 = 2 := by unfold bigR; rw [hf]; rfl
    rw [e1]
    rw [hf] at HF
    clear e1 hf
    go_enter Try.func86, Try.ntmps86
    go_wp2_with fail
    refine (HF.out _).mono ?_
    rintro e w' ⟨rfl, rfl⟩
    go_wp2_with fail
    go_ret
    exact ⟨rfl, rfl⟩
set_option maxRecDepth 100000 in
theorem down_any (x : Int) (w : World) : Calls Try.prog 88 #[.int .i64 x] w fun e w' => ∃ b : Nat, e = .returned (.func (.func 97) #[] #[.pointer (some ⟨b, 0, none⟩)]) ∧ w'.cell? ⟨b, 0, none⟩ = some (.int .i64 x) ∧ w.heap.size ≤ b ∧ Below w.heap.size w w' := by
  have hc : (w.alloc (.cells #[.int .i64 x] 3)).cell? ⟨w.heap.size, 0, none⟩ = some (.int .i64 x) := by
    rw [cell_of_row _ _ _ _ _ _ (heap_alloc_new w _)]
    rfl
  have hb := (Below.refl w.heap.size w).alloc (Nat.le_refl _) (.cells #[.int .i64 x] 3)
  have HC := Lib.hid hc; have HB := Lib.hid hb
  clear hc hb
  go_enter Try.func88, Try.ntmps88
  go_wp2_with fail
  go_ret
  exact ⟨_, rfl, HC.out, Nat.le_refl _, HB.out⟩
set_option maxRecDepth 100000 in
theorem down1_any (b : Nat) (size k : Int) (w : World) (hc : w.cell? ⟨b, 0, none⟩ = some (.int .i64 size)) (h0 : 0 ≤ k) (h1 : k < size) (h2 : size ≤ 8) : Calls Try.prog 97 #[.int .i64 k, .pointer (some ⟨b, 0, none⟩)] w fun e w' => e = .returned (.int .i64 (size - 1 - k)) ∧ w = w' := by
  go_enter Try.func97, Try.ntmps97
  go_wp2_with fail
  go_ret
  exact ⟨rfl, rfl⟩
end Go.Proofs.Ytiioojlihapdaaa.E1
/- Chapter 1: write and Big of the package walked. -/
namespace Go.Proofs.Ytiioojlihapdaaa.E1
open Go.RowKit
set_option linter.unusedVariables false

def wrE (n size k : Nat) : List UInt8 := List.replicate (size - k) 0 ++ (leN n k).reverse
theorem Try.sizeE : (Try.prog.info? 5).map (·.size) = some 1 := by kernel_rfl
theorem wrE_length {n size k : Nat} (h : k ≤ size) : (wrE n size k).length = size := by simp [wrE, leN_length]; omega
theorem wrE_set {n size k : Nat} (h : k < size) : (wrE n size k).set (size - 1 - k) (leB n k) = wrE n size (k + 1) := by
  obtain ⟨m, rfl⟩ : ∃ m, size = k + 1 + m := ⟨size - k - 1, by omega⟩
  have e1 : k + 1 + m - k = m + 1 := by omega
  have e2 : k + 1 + m - 1 - k = m := by omega
  have e3 : k + 1 + m - (k + 1) = m := by omega
  unfold wrE
  rw [e1, e2, e3, List.replicate_succ', List.append_assoc, List.set_append_right _ _ (by simp)]
  simp [leN]
theorem wrE_zero (n size : Nat) : wrE n size 0 = List.replicate size 0 := by simp [wrE, leN]
theorem wrE_all (n size : Nat) : wrE n size size = beN n size := by simp [wrE, beN]
set_option maxRecDepth 100000 in
set_option maxHeartbeats 1000000 in
theorem write_any (N size : Nat) (x y : Int) (b : Nat) (w : World) (hy : y = N) (hx : x = size) (hs : size ≤ 4) (hn : N ≤ 9223372036854775807) (hc : w.cell? ⟨b, 0, none⟩ = some (.int .i64 x)) :
    Calls Try.prog 87 #[.int .i64 y, .int .i64 x, .func (.func 97) #[] #[.pointer (some ⟨b, 0, none⟩)]] w fun e w' => e = .returned (.string (str (beN N size))) ∧ Below w.heap.size w w' := by
  subst hx hy
  have hbl := World.block_lt_of_cell? w _ hc
  simp only at hbl
  have HC := Lib.hid hc; clear hc
  go_enter Try.func87, Try.ntmps87
  go_wp2_with (refine wpList_mkB rfl _ _ rfl Try.underlying105 Try.infoE size rfl rfl rfl rfl (by omega) (Nat.le_refl _) ?_; intro w1 hown1 hgr1)
  have hb1 := (Below.refl w.heap.size w).grown hgr1 (Nat.le_refl _) (fun k hk => by cases hk)
  rw [← wrE_zero N size] at hown1
  clear hgr1
  go_loopw [12] (fun vk wr => ∃ k : Nat, k ≤ size ∧ vk = .int .i64 k ∧ wr.ownsRow w.heap.size 5 1 (.slice (some ⟨w.heap.size, 0, none⟩) size size) size (bs (wrE N size k)) ∧ Below w.heap.size w wr) (fun vk _ => size - (intOf vk).toNat)
  case atStart => exact ⟨0, by omega, rfl, hown1, hb1⟩
  case round =>
    clear hown1 hb1
    obtain ⟨k, hk, rfl, hown, hb⟩ := hrel
    by_cases hlt : k < size
    · have hcb : wr.cell? ⟨b, 0, none⟩ = some (.int .i64 size) := (hb.cell (p := ⟨b, 0, none⟩) hbl).trans HC.out
      have hfo := hown.frozenAt (size - 1 - k)
      have hco : wr.cell? ⟨w.heap.size, size - 1 - k, none⟩ = some (B (G.ix (wrE N size k) (size - 1 - k))) := by
        rw [hown.cellAt _ (by omega), bs_get (by rw [wrE_length hk]; omega)]
      go_wp2_with fail
      have e1 : IntKind.i64.wrap (8 * (k : Int)) = 8 * (k : Int) := IntWalk.i64_in _ (by omega)
      have e2 : (0 : Int) ≤ (size : Int) - 1 - (k : Int) := by omega
      have e3 : (size : Int) - 1 - (k : Int) < (size : Int) := by omega
      have hix : ∀ W, (Instr.indexAt 105 (.slice (some ⟨w.heap.size, 0, none⟩) size size) (.int .i64 ((size : Int) - 1 - (k : Int)))).run Try.prog W = .ok (.pointer (some ⟨w.heap.size, size - 1 - k, none⟩)) W := fun W => by
        have := run_idx (P := Try.prog) (cap := size) Try.underlying105 Try.sizeE (rfl : some (⟨w.heap.size, 0, none⟩ : Addr) = _) (show size - 1 - k < size by omega) _ (show (size : Int) - 1 - (k : Int) = ((size - 1 - k : Nat) : Int) by omega) W
        rwa [Nat.zero_add] at this
      have e4 : IntKind.u8.wrap ((N : Int) / 2 ^ (8 * (k : Int)).toNat) = ((leB N k).toNat : Int) := by
        unfold leB
        rw [UInt8.toNat_ofNat']
        have e9 : (8 * (k : Int)).toNat = 8 * k := by omega
        have e10 : (2 : Nat) ^ (8 * k) = 256 ^ k := by rw [Nat.pow_mul]
        have e11 : (N : Int) / 2 ^ (8 * k) = ((N / 256 ^ k : Nat) : Int) := by rw [← e10]; simp
        rw [e9, e11]
        simp [IntKind.wrap, IntKind.bits, IntKind.signed]
      obtain ⟨c, hcc⟩ : ∃ c, c = leB N k := ⟨_, rfl⟩
      rw [← hcc] at e4
      have HCC := Lib.hid hcc; clear hcc
      go_still_tail 10, (by kernel_rfl)
      still_call (flipW (down1_any b size k _ hcb (by omega) (by omega) (by omega)))
      repeat still_step
      refine wpStill_nil ?_
      clear e1 e2 e3 e4 hix
      change wpList _ _ _ _ _ wr.drew
      go_wp2_with fail
      go_roundw
      case rel =>
        refine ⟨k + 1, by omega, by go_num, ?_, (hb.drew).setCell (Nat.le_refl _) _⟩
        have h := hown.drew.stored (size - 1 - k) (B c)
        rw [bs_set, HCC.out, wrE_set hlt] at h
        rw [HCC.out]
        exact h.1
      case measure => simp [intOf]; omega
    · obtain rfl : k = size := by omega
      rw [wrE_all] at hown
      have hrd : Rd wr (.slice (some ⟨w.heap.size, 0, none⟩) k k) (beN N k) := Rd.ofOwn' hown (by omega)
      have hcx := run_str (P := Try.prog) Try.underlying105 Try.underlying5 Try.underlying9 hrd
      clear hown hrd
      go_wp2_with fail
      go_ret
      exact ⟨rfl, hb⟩
set_option maxRecDepth 100000 in
theorem big2_any (n : Int) (w : World) (hn : n ≤ 9223372036854775807) : Calls Try.prog 74 #[.int .i64 n, .int .i64 2] w fun e w' => e = .returned (.tuple #[.string (str (bigR n 2).1), .int .i64 (bigR n 2).2]) ∧ Below w.heap.size w w' := by
  have HC := Lib.hid (fun W => echeck2 n W)
  cases hf : fitE n 2 with
  | false =>
    have e1 : bigR n 2 = ([], 2) := by unfold bigR; rw [hf]; rfl
    rw [e1] at HC ⊢
    clear e1 hf
    go_enter Try.func74, Try.ntmps74
    go_wp2_with fail
    refine (HC.out _).mono ?_
    rintro e w' ⟨rfl, rfl⟩
    go_wp2_with fail
    go_ret2
    exact ⟨rfl, Below.refl _ _⟩
  | true =>
    have e1 : bigR n 2 = (beN n.toNat 2, 0) := by unfold bigR; rw [hf]; rfl
    have h0 : 0 ≤ n := by rw [fitE_2] at hf; exact (of_decide_eq_true hf).1
    rw [e1] at HC ⊢
    obtain ⟨N, rfl⟩ : ∃ N : Nat, n = N := ⟨n.toNat, by omega⟩
    have e2 : ((N : Int)).toNat = N := by omega
    rw [e2]
    have HD := Lib.hid (fun W => down_any 2 W)
    have HW := Lib.hid (fun b W hc => write_any N 2 2 (N : Int) b W rfl rfl (by omega) (by omega) hc)
    clear e1 hf e2
    go_enter Try.func74, Try.ntmps74
    go_wp2_with fail
    refine (HC.out _).mono ?_
    rintro e w' ⟨rfl, rfl⟩
    go_wp2_with fail
    refine (HD.out _).mono ?_
    rintro e w1 ⟨b, rfl, hc1, hbs, hb1⟩
    go_wp2_with fail
    refine (HW.out b _ hc1).mono ?_
    rintro e w2 ⟨rfl, hb2⟩
    have hb3 := hb1.trans (hb2.mono hb1.size)
    clear hc1 hb1 hb2
    go_wp2_with fail
    go_ret2
    exact ⟨rfl, hb3⟩
set_option maxRecDepth 100000 in
theorem big4_any (n : Int) (w : World) (hn : n ≤ 9223372036854775807) : Calls Try.prog 74 #[.int .i64 n, .int .i64 4] w fun e w' => e = .returned (.tuple #[.string (str (bigR n 4).1), .int .i64 (bigR n 4).2]) ∧ Below w.heap.size w w' := by
  have HC := Lib.hid (fun W => echeck4 n W)
  cases hf : fitE n 4 with
  | false =>
    have e1 : bigR n 4 = ([], 2) := by unfold bigR; rw [hf]; rfl
    rw [e1] at HC ⊢
    clear e1 hf
    go_enter Try.func74, Try.ntmps74
    go_wp2_with fail
    refine (HC.out _).mono ?_
    rintro e w' ⟨rfl, rfl⟩
    go_wp2_with fail
    go_ret2
    exact ⟨rfl, Below.refl _ _⟩
  | true =>
    have e1 : bigR n 4 = (beN n.toNat 4, 0) := by unfold bigR; rw [hf]; rfl
    have h0 : 0 ≤ n := by rw [fitE_4] at hf; exact (of_decide_eq_true hf).1
    rw [e1] at HC ⊢
    obtain ⟨N, rfl⟩ : ∃ N : Nat, n = N := ⟨n.toNat, by omega⟩
    have e2 : ((N : Int)).toNat = N := by omega
    rw [e2]
    have HD := Lib.hid (fun W => down_any 4 W)
    have HW := Lib.hid (fun b W hc => write_any N 4 4 (N : Int) b W rfl rfl (by omega) (by omega) hc)
    clear e1 hf e2
    go_enter Try.func74, Try.ntmps74
    go_wp2_with fail
    refine (HC.out _).mono ?_
    rintro e w' ⟨rfl, rfl⟩
    go_wp2_with fail
    refine (HD.out _).mono ?_
    rintro e w1 ⟨b, rfl, hc1, hbs, hb1⟩
    go_wp2_with fail
    refine (HW.out b _ hc1).mono ?_
    rintro e w2 ⟨rfl, hb2⟩
    have hb3 := hb1.trans (hb2.mono hb1.size)
    clear hc1 hb1 hb2
    go_wp2_with fail
    go_ret2
    exact ⟨rfl, hb3⟩
end Go.Proofs.Ytiioojlihapdaaa.E1
/- Chapter 1: the number of some bytes, plain. -/
namespace Go.Proofs.Ytiioojlihapdaaa.E1
open Go.RowKit
set_option linter.unusedVariables false

/-- the number of bytes, the greatest first -/
def beV (l : List UInt8) : Nat := l.foldl (fun a c => 256 * a + c.toNat) 0
theorem beV_snoc (l : List UInt8) (c : UInt8) : beV (l ++ [c]) = 256 * beV l + c.toNat := by simp [beV]
theorem beV_fold : ∀ (l : List UInt8) (a : Nat), l.foldl (fun a c => 256 * a + c.toNat) a = a * 256 ^ l.length + beV l
  | [], a => by simp [beV]
  | c :: l, a => by
    have e : beV (c :: l) = (256 * 0 + c.toNat) * 256 ^ l.length + beV l := beV_fold l _
    rw [e, List.foldl_cons, beV_fold l, List.length_cons, Nat.pow_succ, Nat.mul_zero, Nat.zero_add, Nat.add_mul, Nat.add_assoc]
    congr 1
    rw [Nat.mul_comm 256 a, Nat.mul_assoc, Nat.mul_comm 256]
theorem beV_cons (c : UInt8) (l : List UInt8) : beV (c :: l) = c.toNat * 256 ^ l.length + beV l := by
  have e : beV (c :: l) = (256 * 0 + c.toNat) * 256 ^ l.length + beV l := beV_fold l _
  rw [e, Nat.mul_zero, Nat.zero_add]
theorem beV_beN (n : Nat) : ∀ k, beV (beN n k) = n % 256 ^ k
  | 0 => by simp [beN, leN, beV, Nat.mod_one]
  | k + 1 => by
    have e : beN n (k + 1) = leB n k :: beN n k := by simp [beN, leN]
    have e2 : (leB n k).toNat = n / 256 ^ k % 256 := by
      unfold leB; rw [UInt8.toNat_ofNat']; omega
    rw [e, beV_cons, beN_length, beV_beN n k, e2, Nat.mod_pow_succ, Nat.add_comm, Nat.mul_comm]
theorem beV_lt : ∀ l : List UInt8, beV l < 256 ^ l.length
  | [] => by simp [beV]
  | c :: l => by
    have h1 := beV_lt l
    have h2 := c.toNat_lt
    rw [beV_cons, List.length_cons, Nat.pow_succ]
    have h3 : c.toNat * 256 ^ l.length ≤ 255 * 256 ^ l.length := Nat.mul_le_mul_right _ (by omega)
    omega
/-- the number at an offset, 0 if it is not there -/
def rdE (s : List UInt8) (at' size : Nat) : Nat := if at' + size ≤ s.length then beV ((s.drop at').take size) else 0
theorem rdE_at (a b c : List UInt8) {o k : Nat} (ha : a.length = o) (hb : b.length = k) : rdE (a ++ b ++ c) o k = beV b := by
  subst ha hb
  unfold rdE
  rw [if_pos (by simp), List.append_assoc, List.drop_left, List.take_left]
theorem rdE_lt (s : List UInt8) (o k : Nat) (hk : 0 < k) : rdE s o k < 256 ^ k := by
  unfold rdE
  split
  · have := beV_lt ((s.drop o).take k)
    have e : ((s.drop o).take k).length = k := by rw [List.length_take, List.length_drop]; omega
    rwa [e] at this
  · exact Nat.pos_of_ne_zero (by simp)
theorem big_le (n : Int) (k : Nat) : (bigR n k).1.length ≤ k := by
  unfold bigR; split
  · rw [beN_length]; omega
  · simp

end Go.Proofs.Ytiioojlihapdaaa.E1
/- Chapter 1: reading numbers, the package walked. -/
namespace Go.Proofs.Ytiioojlihapdaaa.E1
open Go.RowKit
set_option linter.unusedVariables false

/-- the last 'k' of 'size' bytes from 'o' on -/
def seg (l : List UInt8) (o size k : Nat) : List UInt8 := (l.drop (o + size - k)).take k
theorem seg_all (l : List UInt8) (o size : Nat) : seg l o size size = (l.drop o).take size := by unfold seg; rw [Nat.add_sub_cancel]
theorem seg_succ {l : List UInt8} {o size k : Nat} (h : k < size) (hl : o + size ≤ l.length) : seg l o size (k + 1) = G.ix l (o + (size - 1 - k)) :: seg l o size k := by
  unfold seg
  have e1 : o + size - (k + 1) = o + (size - 1 - k) := by omega
  have e2 : o + size - k = o + (size - 1 - k) + 1 := by omega
  rw [e1, e2, List.drop_eq_getElem_cons (show o + (size - 1 - k) < l.length by omega), List.take_succ_cons]
  simp [G.ix, List.getElem?_eq_getElem (show o + (size - 1 - k) < l.length by omega)]
theorem seg_length {l : List UInt8} {o size k : Nat} (h : k ≤ size) (hl : o + size ≤ l.length) : (seg l o size k).length = k := by
  unfold seg; rw [List.length_take, List.length_drop]; omega
theorem inside_any (s : ByteArray) (o c : Int) (w : World) (h0 : 0 ≤ o) (h1 : 0 ≤ c) (h2 : o ≤ 1000000) (h3 : c ≤ 8) (hs : s.size ≤ 1000000) :
    Calls Try.prog 105 #[.string s, .int .i64 o, .int .i64 c] w fun e w' => e = .returned (.bool (decide (o + c ≤ s.size))) ∧ w = w' := by
  by_cases h : o + c ≤ s.size
  · rw [decide_eq_true h]
    have hx : o ≤ (s.size : Int) - c := by omega
    go_enter Try.func105, Try.ntmps105
    go_wp2_with fail
    go_ret
    exact ⟨rfl, rfl⟩
  · rw [decide_eq_false h]
    have hx : ¬ o ≤ (s.size : Int) - c := by omega
    go_enter Try.func105, Try.ntmps105
    go_wp2_with fail
    go_ret
    exact ⟨rfl, rfl⟩
theorem or64 {a c k : Nat} (ha : a < 256 ^ k) (hc : c < 256) (hk : k ≤ 6) : bits .or .u64 (a : Int) ((c * 2 ^ (8 * k) : Nat) : Int) = ((c * 256 ^ k + a : Nat) : Int) := by
  have e : (256 : Nat) ^ k = 2 ^ (8 * k) := by rw [Nat.pow_mul]
  rw [e] at ha ⊢
  have hb : c * 2 ^ (8 * k) + a = a ||| c * 2 ^ (8 * k) := by
    rw [Nat.mul_comm, Nat.two_pow_add_eq_or_of_lt ha, Nat.or_comm]
  have hp : (2 : Nat) ^ (8 * k) ≤ 2 ^ 48 := Nat.pow_le_pow_right (by omega) (by omega)
  have hq : c * 2 ^ (8 * k) ≤ 255 * 2 ^ 48 := Nat.mul_le_mul (by omega) hp
  rw [hb]
  generalize c * 2 ^ (8 * k) = q at *
  have hz : a ||| q < 2 ^ 62 := by rw [← hb]; omega
  show IntKind.u64.wrap ((BitVec.ofInt 64 (a : Int) ||| BitVec.ofInt 64 (q : Int)).toNat : Int) = _
  rw [BitVec.toNat_or, ofInt_u64 a (by omega), ofInt_u64 q (by omega)]
  generalize a ||| q = z at *
  simp [IntKind.wrap, IntKind.bits, IntKind.signed]
  omega
theorem wrapS (c k : Nat) (hc : c < 256) (hk : k ≤ 6) : IntKind.u64.wrap (IntKind.u64.wrap (c : Int) * 2 ^ (8 * k)) = ((c * 2 ^ (8 * k) : Nat) : Int) := by
  have hp : (2 : Nat) ^ (8 * k) ≤ 2 ^ 48 := Nat.pow_le_pow_right (by omega) (by omega)
  have hq : c * 2 ^ (8 * k) ≤ 255 * 2 ^ 48 := Nat.mul_le_mul (by omega) hp
  have e1 : IntKind.u64.wrap (c : Int) = (c : Int) := by
    simp [IntKind.wrap, IntKind.bits, IntKind.signed]; omega
  have e2 : (c : Int) * 2 ^ (8 * k) = ((c * 2 ^ (8 * k) : Nat) : Int) := by simp
  rw [e1, e2]
  generalize c * 2 ^ (8 * k) = q at *
  simp [IntKind.wrap, IntKind.bits, IntKind.signed]
  omega
set_option maxRecDepth 100000 in
set_option maxHeartbeats 1000000 in
theorem read_any (l : List UInt8) (o size : Nat) (x y : Int) (b : Nat) (w : World) (hy : y = o) (hx : x = size) (h1 : 1 ≤ size) (hs : size ≤ 4) (ho : o ≤ 1000000) (hl : l.length ≤ 1000000) (hc : w.cell? ⟨b, 0, none⟩ = some (.int .i64 x)) (hin : o + size ≤ l.length) :
    Calls Try.prog 101 #[.string (str l), .int .i64 y, .int .i64 x, .func (.func 97) #[] #[.pointer (some ⟨b, 0, none⟩)]] w fun e w' => e = .returned (.tuple #[.int .i64 (rdE l o size), .int .i64 0]) ∧ w = w' := by
  have HI := Lib.hid (fun W => inside_any (str l) y x W (by omega) (by omega) (by omega) (by omega) (by rw [str_size]; exact hl))
  have hd : decide (y + x ≤ ((str l).size : Int)) = true := by rw [str_size]; simp; omega
  rw [hd] at HI
  subst hx hy
  have HR : Hid (rdE l o size = beV (seg l o size size)) := Lib.hid (by unfold rdE; rw [if_pos hin, seg_all])
  clear hd
  go_enter Try.func101, Try.ntmps101
  go_wp2_with fail
  refine (HI.out _).mono ?_
  rintro e w' ⟨rfl, rfl⟩
  go_wp2_with fail
  go_loop [10, 26] (fun vn vk => ∃ k n : Nat, k ≤ size ∧ vk = .int .i64 k ∧ vn = .int .u64 n ∧ Hid (n = beV (seg l o size k)) ∧ n < 256 ^ 4) (fun _ vk => size - (intOf vk).toNat)
  case atStart => exact ⟨0, 0, by omega, rfl, rfl, Lib.hid (by simp [seg, beV]), by omega⟩
  case round =>
    obtain ⟨k, n, hk, rfl, rfl, HN, hnb⟩ := hrel
    by_cases hlt : k < size
    · have hix := fun W => run_sidxE (P := Try.prog) Try.underlying9 l (o + (size - 1 - k)) (by omega) ((o : Int) + ((size : Int) - 1 - (k : Int))) (by omega) W
      go_wp2_with (go_at_call 97; refine (down1_any b size k _ hc (by omega) (by omega) (by omega)).mono ?_; rintro e w1 ⟨rfl, rfl⟩)
      go_round
      case rel =>
        have hz := HN.out
        have hkk : n < 256 ^ k := by have := beV_lt (seg l o size k); rw [seg_length hk hin] at this; rw [hz]; exact this
        have hc8 := (G.ix l (o + (size - 1 - k))).toNat_lt
        have hsz : beV (seg l o size (k + 1)) = (G.ix l (o + (size - 1 - k))).toNat * 256 ^ k + n := by rw [seg_succ hlt hin, beV_cons, seg_length hk hin, ← hz]
        have hlt2 : beV (seg l o size (k + 1)) < 256 ^ 4 := by
          have := beV_lt (seg l o size (k + 1)); rw [seg_length (by omega) hin] at this
          exact Nat.lt_of_lt_of_le this (Nat.pow_le_pow_right (by omega) (by omega))
        refine ⟨k + 1, beV (seg l o size (k + 1)), by omega, by go_num, congrArg (Value.int .u64) ?_, Lib.hid rfl, hlt2⟩
        rw [hsz]
        generalize (G.ix l (o + (size - 1 - k))).toNat = c at *
        rw [← or64 hkk hc8 (by omega), wrapS c k hc8 (by omega)]
      case measure => simp [intOf]; omega
    · obtain rfl : k = size := by omega
      have hnb' : n ≤ 9223372036854775807 := by omega
      have hcv : IntKind.i64.wrap (n : Int) = n := IntWalk.i64_in _ (by omega)
      have HZ : Hid (n = rdE l o k) := Lib.hid (by rw [HR.out]; exact HN.out)
      clear HN HR
      go_wp2_with fail
      go_ret2
      rw [← HZ.out]
      exact ⟨rfl, rfl⟩
end Go.Proofs.Ytiioojlihapdaaa.E1
/- Chapter 1: ReadBig of the package and of the reference walked. -/
namespace Go.Proofs.Ytiioojlihapdaaa.E1
open Go.RowKit
set_option linter.unusedVariables false

def rdC (l : List UInt8) (o size : Nat) : Int := if o + size ≤ l.length then 0 else 2
set_option maxRecDepth 100000 in
theorem read_out (l : List UInt8) (o size : Nat) (x y : Int) (f : Value) (w : World) (hy : y = o) (hx : x = size) (h1 : 1 ≤ size) (hs : size ≤ 4) (ho : o ≤ 1000000) (hl : l.length ≤ 1000000) (hin : ¬ o + size ≤ l.length) :
    Calls Try.prog 101 #[.string (str l), .int .i64 y, .int .i64 x, f] w fun e w' => e = .returned (.tuple #[.int .i64 0, .int .i64 2]) ∧ w = w' := by
  have HI := Lib.hid (fun W => inside_any (str l) y x W (by omega) (by omega) (by omega) (by omega) (by rw [str_size]; exact hl))
  have hd : decide (y + x ≤ ((str l).size : Int)) = false := by rw [str_size]; simp; omega
  rw [hd] at HI
  subst hx hy
  clear hd
  go_enter Try.func101, Try.ntmps101
  go_wp2_with fail
  refine (HI.out _).mono ?_
  rintro e w' ⟨rfl, rfl⟩
  go_wp2_with fail
  go_ret2
  exact ⟨rfl, rfl⟩
set_option maxRecDepth 100000 in
theorem readbig_any (l : List UInt8) (o size : Nat) (x y : Int) (w : World) (hy : y = o) (hx : x = size) (h1 : 1 ≤ size) (hs : size ≤ 4) (ho : o ≤ 1000000) (hl : l.length ≤ 1000000) :
    Calls Try.prog 93 #[.string (str l), .int .i64 y, .int .i64 x] w fun e w' => e = .returned (.tuple #[.int .i64 (rdE l o size), .int .i64 (rdC l o size)]) ∧ Below w.heap.size w w' := by
  have HD := Lib.hid (fun W => down_any x W)
  by_cases hin : o + size ≤ l.length
  · have HR := Lib.hid (fun b W hc => read_any l o size x y b W hy hx h1 hs ho hl hc hin)
    have e : rdC l o size = 0 := by unfold rdC; rw [if_pos hin]
    rw [e]
    clear e hy hx
    go_enter Try.func93, Try.ntmps93
    go_wp2_with fail
    refine (HD.out _).mono ?_
    rintro e w1 ⟨b, rfl, hc1, hbs, hb1⟩
    go_wp2_with fail
    refine (HR.out b _ hc1).mono ?_
    rintro e w2 ⟨rfl, rfl⟩
    clear hc1
    go_wp2_with fail
    go_ret2
    exact ⟨rfl, hb1⟩
  · have HR := Lib.hid (fun f W => read_out l o size x y f W hy hx h1 hs ho hl hin)
    have e : rdC l o size = 2 := by unfold rdC; rw [if_neg hin]
    have e2 : rdE l o size = 0 := by unfold rdE; rw [if_neg hin]
    rw [e, e2]
    clear e e2 hy hx
    go_enter Try.func93, Try.ntmps93
    go_wp2_with fail
    refine (HD.out _).mono ?_
    rintro e w1 ⟨b, rfl, hc1, hbs, hb1⟩
    go_wp2_with fail
    refine (HR.out _ _).mono ?_
    rintro e w2 ⟨rfl, rfl⟩
    clear hc1
    go_wp2_with fail
    go_ret2
    exact ⟨rfl, hb1⟩

/-- 's[:k]' of a string -/
theorem run_stoE {P : Program} {t : TypeId} (ht : P.underlying t = some .string) (l : List UInt8) (k : Nat) (hk : k ≤ l.length) (x : Int) (hx : x = k) (w : World) : (Instr.slice t (.string (str l)) none (some (.int .i64 x)) none).run P w = .ok (.string (str (l.take k))) w := by
  subst hx
  have hs := str_size l
  have he : (str l).extract 0 k = str (l.take k) := by
    apply ByteArray.ext
    rw [ByteArray.data_extract]
    simp [str]
  simp [Instr.slice, run_underlying ht, Instr.sliceBounds, run_sliceBound, hs, hk, he]
/-- a part of a string -/
theorem run_scutE {P : Program} {t : TypeId} (ht : P.underlying t = some .string) (l : List UInt8) (lo hi : Nat) (h1 : lo ≤ hi) (h2 : hi ≤ l.length) (x y : Int) (hx : x = lo) (hy : y = hi) (w : World) :
    (Instr.slice t (.string (str l)) (some (.int .i64 x)) (some (.int .i64 y)) none).run P w = .ok (.string (str ((l.drop lo).take (hi - lo)))) w := by
  subst hx hy
  have e : (str l).extract lo hi = str ((l.drop lo).take (hi - lo)) := by
    apply ByteArray.ext
    rw [ByteArray.data_extract]
    simp [str]
  simp [Instr.slice, run_underlying ht, Instr.sliceBounds, run_sliceBound, str_size, h2, h1, e]
set_option maxRecDepth 100000 in
theorem rpart_any (l : List UInt8) (o size : Nat) (x y : Int) (w : World) (hy : y = o) (hx : x = size) (h1 : 1 ≤ size) (hs : size ≤ 4) (ho : o ≤ 1000000) (hl : l.length ≤ 1000000) :
    Calls Try.prog 106 #[.string (str l), .int .i64 y, .int .i64 x] w fun e w' => e = .returned (.tuple #[.string (str (if o + size ≤ l.length then (l.drop o).take size else [])), .bool (decide (o + size ≤ l.length))]) ∧ w = w' := by
  have hz := str_size l
  obtain ⟨n, hn⟩ : ∃ n, n = l.length := ⟨_, rfl⟩
  have hcut := run_scutE (P := Try.prog) Try.underlying9 l o (o + size)
  rw [← hn] at hz hl hcut ⊢
  have HN := Lib.hid hn; clear hn
  subst hx hy
  by_cases hin : o + size ≤ n
  · rw [if_pos hin, decide_eq_true hin]
    have hcx := fun W => hcut (by omega) hin (o : Int) ((o : Int) + (size : Int)) rfl (by omega) W
    rw [Nat.add_sub_cancel_left] at hcx
    generalize (l.drop o).take size = u at *
    have hd : ¬ (n : Int) - (o : Int) < (size : Int) := by omega
    have hd2 : ¬ n < o := by omega
    clear hcut
    go_enter Try.func106, Try.ntmps106
    go_wp2_with fail
    go_ret2
    exact ⟨rfl, rfl⟩
  · rw [if_neg hin, decide_eq_false hin]
    clear hcut
    by_cases h5 : n < o
    · go_enter Try.func106, Try.ntmps106
      go_wp2_with fail
      go_ret2
      exact ⟨rfl, rfl⟩
    · have hd : (n : Int) - (o : Int) < (size : Int) := by omega
      go_enter Try.func106, Try.ntmps106
      go_wp2_with fail
      go_ret2
      exact ⟨rfl, rfl⟩
set_option maxRecDepth 100000 in
set_option maxHeartbeats 1000000 in
theorem rvalue_any (u : List UInt8) (w : World) (hu : u.length ≤ 4) : Calls Try.prog 107 #[.string (str u.reverse)] w fun e w' => e = .returned (.tuple #[.int .i64 (beV u), .int .i64 0]) ∧ w = w' := by
  have hz : (str u.reverse).size = u.length := by rw [str_size, List.length_reverse]
  obtain ⟨n, hn⟩ : ∃ n, n = u.length := ⟨_, rfl⟩
  have hix := fun (i : Nat) (hi : i < n) => run_sidxE (P := Try.prog) Try.underlying9 u.reverse (n - 1 - i) (by rw [List.length_reverse, ← hn]; omega)
  rw [← hn] at hz hu
  have HN := Lib.hid hn
  have HIX := Lib.hid hix
  have hb8 : ((n : Int) == 8) = false := by simp; omega
  clear hn hix
  go_enter Try.func107, Try.ntmps107
  go_wp2_with fail
  clear hb8
  go_loop [4, 5] (fun vn vi => ∃ k m : Nat, k ≤ n ∧ vi = .int .i64 ((n : Int) - 1 - k) ∧ vn = .int .i64 m ∧ Hid (m = beV (u.take k)) ∧ m < 256 ^ 4) (fun _ vi => (intOf vi + 1).toNat)
  case atStart => exact ⟨0, 0, by omega, by go_num, rfl, Lib.hid (by simp [beV]), by omega⟩
  case round =>
    obtain ⟨k, m, hk, rfl, rfl, HM, hmb⟩ := hrel
    by_cases hlt : k < n
    · have hge : decide (0 ≤ (n : Int) - 1 - (k : Int)) = true := by simp; omega
      have hcx : ∀ W, (Instr.index 9 (.string (str u.reverse)) (.int .i64 ((n : Int) - 1 - (k : Int)))).run Try.prog W = .ok (B (G.ix u k)) W := fun W => by
        have := HIX.out k hlt ((n : Int) - 1 - (k : Int)) (by omega) W
        have e : G.ix u.reverse (n - 1 - k) = G.ix u k := by
          unfold G.ix
          rw [List.getD_eq_getElem?_getD, List.getD_eq_getElem?_getD, List.getElem?_reverse (by rw [← HN.out]; omega)]
          congr 2
          rw [← HN.out]; omega
        rw [e] at this
        exact this
      have HS : Hid (beV (u.take (k + 1)) = 256 * m + (G.ix u k).toNat) := Lib.hid (by
        rw [List.take_add_one, HM.out]
        have e : u[k]?.toList = [G.ix u k] := by simp [G.ix, List.getElem?_eq_getElem (show k < u.length by rw [← HN.out]; exact hlt)]
        rw [e, beV_snoc])
      have HB : Hid (beV (u.take (k + 1)) < 256 ^ 4) := Lib.hid (by
        have := beV_lt (u.take (k + 1))
        exact Nat.lt_of_lt_of_le this (Nat.pow_le_pow_right (by omega) (by rw [List.length_take]; omega)))
      have hc8 : (G.ix u k).toNat < 256 := (G.ix u k).toNat_lt
      generalize (G.ix u k) = c at *
      go_wp2_with fail
      go_round
      case rel => exact ⟨k + 1, beV (u.take (k + 1)), by omega, by go_num, by rw [HS.out]; go_num, Lib.hid rfl, HB.out⟩
      case measure => simp [intOf]; omega
    · obtain rfl : k = n := by omega
      have hge : decide (0 ≤ (k : Int) - 1 - (k : Int)) = false := by simp; omega
      have HZ : Hid (m = beV u) := Lib.hid (by rw [HM.out, HN.out, List.take_length])
      clear HM
      go_wp2_with fail
      go_ret2
      rw [← HZ.out]
      exact ⟨rfl, rfl⟩
set_option maxRecDepth 100000 in
set_option maxHeartbeats 1000000 in
theorem rreadbig_any (l : List UInt8) (o size : Nat) (x y : Int) (w : World) (hy : y = o) (hx : x = size) (h1 : 1 ≤ size) (hs : size ≤ 4) (ho : o ≤ 1000000) (hl : l.length ≤ 1000000) :
    Calls Try.prog 102 #[.string (str l), .int .i64 y, .int .i64 x] w fun e w' => e = .returned (.tuple #[.int .i64 (rdE l o size), .int .i64 (rdC l o size)]) ∧ Below w.heap.size w w' := by
  have HP := Lib.hid (fun W => rpart_any l o size x y W hy hx h1 hs ho hl)
  subst hx hy
  by_cases hin : o + size ≤ l.length
  · have e : rdC l o size = 0 := by unfold rdC; rw [if_pos hin]
    have e2 : rdE l o size = beV ((l.drop o).take size) := by unfold rdE; rw [if_pos hin]
    have hul : ((l.drop o).take size).length ≤ 4 := by rw [List.length_take]; omega
    rw [e, e2]
    rw [if_pos hin, decide_eq_true hin] at HP
    generalize (l.drop o).take size = u at *
    have HR := Lib.hid (fun W => rreverse_any u W (by omega))
    have HV := Lib.hid (fun W => rvalue_any u W hul)
    clear e e2
    go_enter Try.func102, Try.ntmps102
    go_wp2_with fail
    refine (HP.out _).mono ?_
    rintro e w1 ⟨rfl, rfl⟩
    go_wp2_with fail
    refine (HR.out _).mono ?_
    rintro e w2 ⟨rfl, hb2⟩
    go_wp2_with fail
    refine (HV.out _).mono ?_
    rintro e w3 ⟨rfl, rfl⟩
    go_wp2_with fail
    go_ret2
    exact ⟨rfl, hb2⟩
  · have e : rdC l o size = 2 := by unfold rdC; rw [if_neg hin]
    have e2 : rdE l o size = 0 := by unfold rdE; rw [if_neg hin]
    rw [e, e2]
    rw [if_neg hin, decide_eq_false hin] at HP
    clear e e2
    go_enter Try.func102, Try.ntmps102
    go_wp2_with fail
    refine (HP.out _).mono ?_
    rintro e w1 ⟨rfl, rfl⟩
    go_wp2_with fail
    go_ret2
    exact ⟨rfl, Below.refl _ _⟩
end Go.Proofs.Ytiioojlihapdaaa.E1
namespace Go.Proofs.Ytiioojlihapdaaa.E1
open Go.RowKit
set_option linter.unusedVariables false

/-- ints as cells -/
def ic (x : Int) : List Value := [.int .i64 x]
theorem ic_length (x : Int) : (ic x).length = 1 := rfl
abbrev RdN (w : World) (v : Value) (l : List Int) : Prop := RdD 0 ic 1 w v l
theorem str_app (a b : List UInt8) : str a ++ str b = str (a ++ b) := by
  unfold str
  ext1
  simp
def flatB (size : Nat) (xs : List Int) : List UInt8 := xs.flatMap fun n => (bigR n size).1
theorem flatB_take {size : Nat} {xs : List Int} {i : Nat} (h : i < xs.length) : flatB size (xs.take (i + 1)) = flatB size (xs.take i) ++ (bigR (atD 0 xs i) size).1 := by
  unfold flatB
  rw [List.take_add_one, List.flatMap_append]
  simp [atD, List.getElem?_eq_getElem h]
theorem flatB_le (size : Nat) (xs : List Int) : (flatB size xs).length ≤ size * xs.length := by
  induction xs with
  | nil => simp [flatB]
  | cons x xs ih =>
    have := big_le x size
    unfold flatB at ih ⊢
    rw [List.flatMap_cons, List.length_append, List.length_cons, Nat.mul_succ]
    omega
/-- the captured string has grown -/
def AddS (b : Nat) (s : List UInt8) (w : World) (e : Ending) (w' : World) : Prop :=
  e = .returned (.tuple #[]) ∧ Bx w' b 9 [.string (str s)] ∧ Below b w w' ∧ ∀ k, k < w.heap.size → k ≠ b → w'.heap[k]? = w.heap[k]?
theorem Try.sizeIntE : (Try.prog.info? 3).map (·.size) = some 1 := by kernel_rfl
set_option maxRecDepth 100000 in
set_option maxHeartbeats 1000000 in
theorem addE2 (v : Value) (xs : List Int) (b : Nat) (cur : List UInt8) (w : World) (hb : Bx w b 9 [.string (str cur)]) (hr : RdN w v xs) (hne : ∀ a n c, v = .slice (some a) n c → a.block ≠ b) (hx : ∀ i, i < xs.length → atD 0 xs i ≤ 9223372036854775807) (hn : xs.length ≤ 120) (hc : cur.length ≤ 100000) :
    Calls Try.prog 73 #[.int .i64 2, v, .pointer (some ⟨b, 0, none⟩)] w (AddS b (cur ++ flatB 2 xs) w) := by
  obtain ⟨a, c, rfl, hac⟩ := RdD.form hr
  obtain ⟨b0, off, hcell⟩ := RdD.at hr
  have HX := Lib.hid hx; clear hx
  have HC := Lib.hid hcell; clear hcell hr
  have hbl := hb.lt
  have Hne := Lib.hid (fun (h0 : 0 < xs.length) => (show b0 ≠ b from hne ⟨b0, off, none⟩ xs.length c (by rw [(HC.out 0 h0).1])))
  clear hne
  go_enter Try.func73, Try.ntmps73
  go_wp2_with fail
  go_loopw [11] (fun vi wr => ∃ i : Nat, i ≤ xs.length ∧ vi = .int .i64 i ∧ Bx wr b 9 [.string (str (cur ++ flatB 2 (xs.take i)))] ∧ Below b w wr ∧ Hid (∀ k, k < w.heap.size → k ≠ b → wr.heap[k]? = w.heap[k]?)) (fun vi _ => xs.length - (intOf vi).toNat)
  case atStart => exact ⟨0, by omega, rfl, by simpa [flatB] using hb, Below.refl _ _, Lib.hid fun k _ _ => rfl⟩
  case round =>
    clear hb
    obtain ⟨i, hi, rfl, hbx, hbw, HK⟩ := hrel
    by_cases hlt : i < xs.length
    · obtain ⟨ha, hrg⟩ := HC.out i hlt
      have hix := fun w' => run_idxS Try.underlying50 Try.sizeIntE (cap := c) ha hlt _ rfl w'
      have hcl : w.cell? ⟨b0, off + i * 1, none⟩ = some (.int .i64 (atD 0 xs i)) := hrg 0 _ rfl
      have hcell : wr.cell? ⟨b0, off + i * 1, none⟩ = some (.int .i64 (atD 0 xs i)) := (World.cell?_of_block (w := w) (a := ⟨b0, off + i * 1, none⟩) (HK.out b0 (World.block_lt_of_cell? w _ hcl) (Hne.out (by omega)))).trans hcl
      simp only [Nat.mul_one] at hix hcell
      have HS := Lib.hid (flatB_take (size := 2) hlt)
      have hxb := HX.out i hlt
      have hfl := flatB_le 2 (xs.take i)
      rw [List.length_take] at hfl
      have hbl2 := big_le (atD 0 xs i) 2
      generalize atD 0 xs i = x at *
      clear hcl hrg
      have HBG := Lib.hid (fun W => big2_any x W hxb)
      obtain ⟨y, hy⟩ : ∃ y, y = (bigR x 2).1 := ⟨_, rfl⟩
      rw [← hy] at HBG HS hbl2
      obtain ⟨S, hS⟩ : ∃ S, S = cur ++ flatB 2 (xs.take i) := ⟨_, rfl⟩
      rw [← hS] at hbx
      have hSl : S.length ≤ 101000 := by rw [hS, List.length_append]; omega
      have HS2 : Hid (cur ++ flatB 2 (xs.take (i + 1)) = S ++ y) := Lib.hid (by rw [HS.out, ← List.append_assoc, hS])
      clear hy hS HS hfl ha
      have hsz1 := str_size S
      have hsz2 := str_size y
      have hnl : ¬ 9223372036854775807 < (str S).size + (str y).size := by omega
      go_wp2_with fail
      refine (HBG.out _).mono ?_
      rintro e w1 ⟨rfl, hb1⟩
      have hbx1 := hbx.call hb1
      have hc1 := hbx1.cell (i := 0) rfl
      have hf1 := hbx1.free
      clear hix hcell
      go_wp2_with fail
      go_roundw
      case rel =>
        refine ⟨i + 1, by omega, by go_num, ?_, (hbw.trans (hb1.mono (Nat.le_of_lt hbx.lt))).setCell (Nat.le_refl _) _, Lib.hid fun k hk hkb => ?_⟩
        · have h := hbx1.set 0 (.string (str S ++ str y))
          rw [HS2.out, ← str_app]
          exact h
        · rw [Below.heap_setCell _ _ _ _ hkb, hb1.block k (Nat.lt_of_lt_of_le hk hbw.size)]
          exact HK.out k hk hkb
      case measure => simp [intOf]; omega
    · obtain rfl : i = xs.length := by omega
      rw [List.take_length] at hbx
      go_wp2_with fail
      go_end0
      exact ⟨rfl, hbx, hbw, HK.out⟩
set_option maxRecDepth 100000 in
set_option maxHeartbeats 1000000 in
theorem addE4 (v : Value) (xs : List Int) (b : Nat) (cur : List UInt8) (w : World) (hb : Bx w b 9 [.string (str cur)]) (hr : RdN w v xs) (hne : ∀ a n c, v = .slice (some a) n c → a.block ≠ b) (hx : ∀ i, i < xs.length → atD 0 xs i ≤ 9223372036854775807) (hn : xs.length ≤ 120) (hc : cur.length ≤ 100000) :
    Calls Try.prog 73 #[.int .i64 4, v, .pointer (some ⟨b, 0, none⟩)] w (AddS b (cur ++ flatB 4 xs) w) := by
  obtain ⟨a, c, rfl, hac⟩ := RdD.form hr
  obtain ⟨b0, off, hcell⟩ := RdD.at hr
  have HX := Lib.hid hx; clear hx
  have HC := Lib.hid hcell; clear hcell hr
  have hbl := hb.lt
  have Hne := Lib.hid (fun (h0 : 0 < xs.length) => (show b0 ≠ b from hne ⟨b0, off, none⟩ xs.length c (by rw [(HC.out 0 h0).1])))
  clear hne
  go_enter Try.func73, Try.ntmps73
  go_wp2_with fail
  go_loopw [11] (fun vi wr => ∃ i : Nat, i ≤ xs.length ∧ vi = .int .i64 i ∧ Bx wr b 9 [.string (str (cur ++ flatB 4 (xs.take i)))] ∧ Below b w wr ∧ Hid (∀ k, k < w.heap.size → k ≠ b → wr.heap[k]? = w.heap[k]?)) (fun vi _ => xs.length - (intOf vi).toNat)
  case atStart => exact ⟨0, by omega, rfl, by simpa [flatB] using hb, Below.refl _ _, Lib.hid fun k _ _ => rfl⟩
  case round =>
    clear hb
    obtain ⟨i, hi, rfl, hbx, hbw, HK⟩ := hrel
    by_cases hlt : i < xs.length
    · obtain ⟨ha, hrg⟩ := HC.out i hlt
      have hix := fun w' => run_idxS Try.underlying50 Try.sizeIntE (cap := c) ha hlt _ rfl w'
      have hcl : w.cell? ⟨b0, off + i * 1, none⟩ = some (.int .i64 (atD 0 xs i)) := hrg 0 _ rfl
      have hcell : wr.cell? ⟨b0, off + i * 1, none⟩ = some (.int .i64 (atD 0 xs i)) := (World.cell?_of_block (w := w) (a := ⟨b0, off + i * 1, none⟩) (HK.out b0 (World.block_lt_of_cell? w _ hcl) (Hne.out (by omega)))).trans hcl
      simp only [Nat.mul_one] at hix hcell
      have HS := Lib.hid (flatB_take (size := 4) hlt)
      have hxb := HX.out i hlt
      have hfl := flatB_le 4 (xs.take i)
      rw [List.length_take] at hfl
      have hbl2 := big_le (atD 0 xs i) 4
      generalize atD 0 xs i = x at *
      clear hcl hrg
      have HBG := Lib.hid (fun W => big4_any x W hxb)
      obtain ⟨y, hy⟩ : ∃ y, y = (bigR x 4).1 := ⟨_, rfl⟩
      rw [← hy] at HBG HS hbl2
      obtain ⟨S, hS⟩ : ∃ S, S = cur ++ flatB 4 (xs.take i) := ⟨_, rfl⟩
      rw [← hS] at hbx
      have hSl : S.length ≤ 101000 := by rw [hS, List.length_append]; omega
      have HS2 : Hid (cur ++ flatB 4 (xs.take (i + 1)) = S ++ y) := Lib.hid (by rw [HS.out, ← List.append_assoc, hS])
      clear hy hS HS hfl ha
      have hsz1 := str_size S
      have hsz2 := str_size y
      have hnl : ¬ 9223372036854775807 < (str S).size + (str y).size := by omega
      go_wp2_with fail
      refine (HBG.out _).mono ?_
      rintro e w1 ⟨rfl, hb1⟩
      have hbx1 := hbx.call hb1
      have hc1 := hbx1.cell (i := 0) rfl
      have hf1 := hbx1.free
      clear hix hcell
      go_wp2_with fail
      go_roundw
      case rel =>
        refine ⟨i + 1, by omega, by go_num, ?_, (hbw.trans (hb1.mono (Nat.le_of_lt hbx.lt))).setCell (Nat.le_refl _) _, Lib.hid fun k hk hkb => ?_⟩
        · have h := hbx1.set 0 (.string (str S ++ str y))
          rw [HS2.out, ← str_app]
          exact h
        · rw [Below.heap_setCell _ _ _ _ hkb, hb1.block k (Nat.lt_of_lt_of_le hk hbw.size)]
          exact HK.out k hk hkb
      case measure => simp [intOf]; omega
    · obtain rfl : i = xs.length := by omega
      rw [List.take_length] at hbx
      go_wp2_with fail
      go_end0
      exact ⟨rfl, hbx, hbw, HK.out⟩
end Go.Proofs.Ytiioojlihapdaaa.E1
