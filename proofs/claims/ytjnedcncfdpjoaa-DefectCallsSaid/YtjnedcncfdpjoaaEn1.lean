/- Chapter 1: big-endian numbers of the reference walked. -/
import Derived.Test.YtjnedcncfdpjoaaOwn
import Derived.Test.YtjnedcncfdpjoaaTkD
namespace Go.Proofs.Ytjnedcncfdpjoaa.E1
open Go.RowKit
set_option linter.unusedVariables false

/-- the byte with the weight 256^k; the bytes of a number, the least first; the greatest first -/
def leB (n k : Nat) : UInt8 := UInt8.ofNat (n / 256 ^ k % 256)
def leN (n : Nat) : Nat → List UInt8
  | 0 => []
  | k + 1 => leN n k ++ [leB n k]
theorem leN_length (n : Nat) : ∀ k, (leN n k).length = k
  | 0 => rfl
  | k + 1 => by rw [leN, List.length_append, leN_length n k]; rfl
def beN (n size : Nat) : List UInt8 := (leN n size).reverse
theorem beN_length (n size : Nat) : (beN n size).length = size := by rw [beN, List.length_reverse, leN_length]
/-- whether a number has place in some bytes -/
def fitE (n : Int) (size : Nat) : Bool := decide (0 ≤ n) && decide (n.toNat / 256 ^ size = 0)
theorem own_keepE {w w' : World} {base e size n : Nat} {v : Value} {xs : List Value} (h : w.ownsRow base e size v n xs) (hb : Below w.heap.size w w') : w'.ownsRow base e size v n xs := by
  refine ⟨h.1, ?_⟩
  rcases h.2 with h2 | ⟨g, cap, cur, h1, h2, h3, h4⟩
  · exact .inl h2
  · exact .inr ⟨g, cap, cur, h1, h2, (hb.block g (Array.getElem?_eq_some_iff.1 h3).1).trans h3, h4⟩
theorem ownBlock_geE {w : World} {base e size n : Nat} {v : Value} {xs : List Value} (h : w.ownsRow base e size v n xs) : ∀ k, v.ownBlock = some k → base ≤ k := by
  intro k hk
  rcases h.2 with ⟨rfl, _⟩ | ⟨g, cap, cur, rfl, h2, _⟩
  · simp [Value.ownBlock] at hk
  · simp only [Value.ownBlock, Option.some.injEq] at hk
    omega
theorem Try.infoE : (Try.prog.info? 5).map (fun i => (i.zero, i.size, i.bytes)) = some (some (.int .u8 0), 1, 1) := by kernel_rfl

set_option maxRecDepth 100000 in
theorem rfits_any (n : Int) (size : Nat) (x : Int) (w : World) (hx : x = size) (hs : size ≤ 8) (hn : n ≤ 9223372036854775807) : Calls Try.prog 94 #[.int .i64 n, .int .i64 x] w fun e w' => e = .returned (.bool (fitE n size)) ∧ w = w' := by
  subst hx
  by_cases h0 : n < 0
  · have e : fitE n size = false := by unfold fitE; rw [decide_eq_false (by omega)]; rfl
    rw [e]
    clear e
    go_enter Try.func94, Try.ntmps94
    go_wp2_with fail
    go_ret
    exact ⟨rfl, rfl⟩
  · obtain ⟨N, rfl⟩ : ∃ N : Nat, n = N := ⟨n.toNat, by omega⟩
    clear h0
    have HE : Hid (fitE (N : Int) size = decide (N / 256 ^ size = 0)) := Lib.hid (by unfold fitE; rw [decide_eq_true (by omega)]; simp)
    go_enter Try.func94, Try.ntmps94
    go_wp2_with fail
    go_loop [0, 5] (fun vn vk => ∃ (k m : Nat), k ≤ size ∧ vk = .int .i64 k ∧ vn = .int .i64 m ∧ Hid (m = N / 256 ^ k) ∧ m ≤ 9223372036854775807) (fun _ vk => size - (intOf vk).toNat)
    case atStart => exact ⟨0, N, by omega, rfl, rfl, Lib.hid (by simp), by omega⟩
    case round =>
      obtain ⟨k, m, hk, rfl, rfl, HM, hmb⟩ := hrel
      by_cases hlt : k < size
      · have hlt' : (k : Int) < size := by omega
        have HN : Hid (m / 256 = N / 256 ^ (k + 1)) := Lib.hid (by rw [HM.out, Nat.pow_succ, Nat.div_div_eq_div_mul])
        go_wp2_with fail
        go_round
        case rel => exact ⟨k + 1, m / 256, by omega, by go_num, by go_num, HN, by omega⟩
        case measure => simp [intOf]; omega
      · obtain rfl : k = size := by omega
        have hq : ((m : Int) == 0) = decide (N / 256 ^ k = 0) := by
          rw [← HM.out, Bool.eq_iff_iff]
          simp
        have HQ := Lib.hid hq
        clear hq
        go_wp2_with fail
        go_ret
        rw [HE.out, ← HQ.out]
        exact ⟨rfl, rfl⟩

set_option maxRecDepth 100000 in
set_option maxHeartbeats 2000000 in
theorem rbytes_any (N size : Nat) (x y : Int) (w : World) (hy : y = N) (hx : x = size) (hs : size ≤ 8) (hn : N ≤ 9223372036854775807) : Calls Try.prog 95 #[.int .i64 y, .int .i64 x] w fun e w' => e = .returned (.string (str (leN N size))) ∧ Below w.heap.size w w' := by
  subst hx hy
  go_enter Try.func95, Try.ntmps95
  go_wp2_with fail
  have ho0 : (w.alloc (.cells #[] 5)).ownsRow w.heap.size 5 1 (.slice (some ⟨w.heap.size, 0, none⟩) 0 0) 0 (bs (leN N 0)) := World.ownsRow_lit w #[] 0 (Nat.le_refl _) (by simp) (by simp)
  have hb0 : Below w.heap.size w (w.alloc (.cells #[] 5)) := (Below.refl _ w).alloc (Nat.le_refl _) _
  go_loopw [0, 5, 6] (fun vn vo vk wr => ∃ k m : Nat, k ≤ size ∧ vk = .int .i64 k ∧ vn = .int .i64 m ∧ Hid (m = N / 256 ^ k) ∧ m ≤ 9223372036854775807 ∧ wr.ownsRow w.heap.size 5 1 vo k (bs (leN N k)) ∧ Below w.heap.size w wr) (fun _ _ vk _ => size - (intOf vk).toNat)
  case atStart => exact ⟨0, N, by omega, rfl, rfl, Lib.hid (by simp), by omega, ho0, hb0⟩
  case round =>
    clear ho0 hb0
    obtain ⟨k, m, hk, rfl, rfl, HM, hmb, ho, hb⟩ := hrel
    by_cases hlt : k < size
    · have hbs := hb.size
      have hlt' : (k : Int) < size := by omega
      have HN : Hid (m / 256 = N / 256 ^ (k + 1)) := Lib.hid (by rw [HM.out, Nat.pow_succ, Nat.div_div_eq_div_mul])
      have hc : (m : Int) % 256 = ((leB N k).toNat : Int) := by
        unfold leB
        rw [← HM.out, UInt8.toNat_ofNat']
        omega
      have ho6 := own_keepE ho ((Below.refl wr.heap.size wr).alloc (Nat.le_refl _) (.cells #[B (leB N k)] 5))
      have hrd1 : Rd (wr.alloc (.cells #[B (leB N k)] 5)) (.slice (some ⟨wr.heap.size, 0, none⟩) 1 1) [leB N k] := Rd.ofOwn' (World.ownsRow_lit wr #[B (leB N k)] 1 (Nat.le_refl _) (by simp [maxLen]) (by simp)) (by simp)
      have hb6 := hb.alloc hbs (.cells #[B (leB N k)] 5)
      have hb6s := hb6.size
      clear ho hb
      have HO : Hid (∀ v7 w7, World.ownsRow w7 w.heap.size 5 1 v7 (k + 1) (bs (leN N k ++ [leB N k])) → World.ownsRow w7 w.heap.size 5 1 v7 (k + 1) (bs (leN N (k + 1)))) := Lib.hid (fun _ _ h => h)
      generalize leB N k = c at *
      go_wp2_with (refine wpList_appB rfl _ _ rfl Try.underlying87 Try.infoE ho6 rfl hrd1 rfl (by simp; omega) hb6s ?_; intro v7 w7 hown7 hgr7 _)
      have hb7 := hb6.grown hgr7 hb6s (ownBlock_geE ho6)
      clear hb6 ho6 hrd1 hgr7
      go_roundw
      case rel => exact ⟨k + 1, m / 256, by omega, by go_num, by go_num, HN, by omega, HO.out _ _ hown7, hb7⟩
      case measure => simp [intOf]; omega
    · obtain rfl : k = size := by omega
      have hrd : Rd wr u5 (leN N k) := Rd.ofOwn' ho (by omega)
      obtain ⟨a3, c3, rfl⟩ := hrd.form
      have hcx := run_str (P := Try.prog) Try.underlying87 Try.underlying5 Try.underlying9 hrd
      rw [leN_length] at hcx
      rw [leN_length]
      clear ho hrd
      go_wp2_with fail
      go_ret
      exact ⟨rfl, hb⟩

/-- the last 'k' bytes, the last one first -/
def revN (l : List UInt8) (k : Nat) : List UInt8 := l.reverse.take k
theorem revN_succ (l : List UInt8) (k : Nat) (h : k < l.length) : revN l (k + 1) = revN l k ++ [G.ix l (l.length - 1 - k)] := by
  unfold revN
  rw [List.take_add_one]
  congr 1
  rw [List.getElem?_reverse h]
  simp [G.ix, List.getElem?_eq_getElem (show l.length - 1 - k < l.length by omega)]
theorem revN_length (l : List UInt8) (k : Nat) (h : k ≤ l.length) : (revN l k).length = k := by simp [revN]; omega
theorem run_sidxE {P : Program} {t : TypeId} (ht : P.underlying t = some .string) (l : List UInt8) (k : Nat) (hk : k < l.length) (i : Int) (hi : i = k) (w : World) :
    (Instr.index t (.string (str l)) (.int .i64 i)).run P w = .ok (B (G.ix l k)) w := by
  subst hi
  have h1 : (str l).size = l.length := str_size l
  have h2 : ((str l)[k]'(by rw [h1]; exact hk)) = l[k] := by simp [str, ByteArray.getElem_eq_getElem_data]
  simp [Instr.index, asIntOf, run_underlying ht, h1, hk, h2, G.ix]
set_option maxRecDepth 100000 in
set_option maxHeartbeats 2000000 in
theorem rreverse_any (l : List UInt8) (w : World) (hl : l.length ≤ 1000000) : Calls Try.prog 89 #[.string (str l)] w fun e w' => e = .returned (.string (str l.reverse)) ∧ Below w.heap.size w w' := by
  have hz := str_size l
  obtain ⟨n, hn⟩ : ∃ n, n = l.length := ⟨_, rfl⟩
  rw [← hn] at hz hl
  have HN := Lib.hid hn
  clear hn
  go_enter Try.func89, Try.ntmps89
  go_wp2_with fail
  have ho0 : (w.alloc (.cells #[] 5)).ownsRow w.heap.size 5 1 (.slice (some ⟨w.heap.size, 0, none⟩) 0 0) 0 (bs (revN l 0)) := World.ownsRow_lit w #[] 0 (Nat.le_refl _) (by simp) (by simp)
  have hb0 : Below w.heap.size w (w.alloc (.cells #[] 5)) := (Below.refl _ w).alloc (Nat.le_refl _) _
  go_loopw [3, 4] (fun vo vi wr => ∃ k : Nat, k ≤ n ∧ vi = .int .i64 ((n : Int) - 1 - k) ∧ wr.ownsRow w.heap.size 5 1 vo k (bs (revN l k)) ∧ Below w.heap.size w wr) (fun _ vi _ => (intOf vi + 1).toNat)
  case atStart => exact ⟨0, by omega, by go_num, ho0, hb0⟩
  case round =>
    clear ho0 hb0
    obtain ⟨k, hk, rfl, ho, hb⟩ := hrel
    by_cases hlt : k < n
    · have hbs := hb.size
      have hge : decide (0 ≤ (n : Int) - 1 - (k : Int)) = true := by simp; omega
      have hi1 := fun wx => run_sidxE (P := Try.prog) Try.underlying9 l (n - 1 - k) (by rw [← HN.out]; omega) ((n : Int) - 1 - (k : Int)) (by omega) wx
      have HO : Hid (∀ v7 w7, World.ownsRow w7 w.heap.size 5 1 v7 (k + 1) (bs (revN l k ++ [G.ix l (n - 1 - k)])) → World.ownsRow w7 w.heap.size 5 1 v7 (k + 1) (bs (revN l (k + 1)))) := Lib.hid (fun _ _ h => by rw [revN_succ l k (by rw [← HN.out]; exact hlt), ← HN.out]; exact h)
      generalize G.ix l (n - 1 - k) = c at *
      have ho6 := own_keepE ho ((Below.refl wr.heap.size wr).alloc (Nat.le_refl _) (.cells #[B c] 5))
      have hrd1 : Rd (wr.alloc (.cells #[B c] 5)) (.slice (some ⟨wr.heap.size, 0, none⟩) 1 1) [c] := Rd.ofOwn' (World.ownsRow_lit wr #[B c] 1 (Nat.le_refl _) (by simp [maxLen]) (by simp)) (by simp)
      have hb6 := hb.alloc hbs (.cells #[B c] 5)
      have hb6s := hb6.size
      clear ho hb
      go_wp2_with (refine wpList_appB rfl _ _ rfl Try.underlying87 Try.infoE ho6 rfl hrd1 rfl (by simp; omega) hb6s ?_; intro v7 w7 hown7 hgr7 _)
      have hb7 := hb6.grown hgr7 hb6s (ownBlock_geE ho6)
      clear hb6 ho6 hrd1 hgr7
      go_roundw
      case rel => exact ⟨k + 1, by omega, by go_num, HO.out _ _ hown7, hb7⟩
      case measure => simp [intOf]; omega
    · obtain rfl : k = n := by omega
      have hge : decide (0 ≤ (k : Int) - 1 - (k : Int)) = false := by simp; omega
      have hrl : revN l k = l.reverse := by unfold revN; rw [HN.out, List.take_of_length_le (by simp)]
      rw [hrl] at ho
      have hrd : Rd wr u3 l.reverse := Rd.ofOwn' ho (by omega)
      obtain ⟨a3, c3, rfl⟩ := hrd.form
      have hcx := run_str (P := Try.prog) Try.underlying87 Try.underlying5 Try.underlying9 hrd
      rw [List.length_reverse, ← HN.out] at hcx
      rw [List.length_reverse, ← HN.out]
      clear ho hrd hrl
      go_wp2_with fail
      go_ret
      exact ⟨rfl, hb⟩

/-- the bytes of a number in some bytes, and a code -/
def bigR (n : Int) (size : Nat) : List UInt8 × Int := if fitE n size = true then (beN n.toNat size, 0) else ([], 2)
set_option maxRecDepth 100000 in
theorem rlittle_any (n : Int) (size : Nat) (x : Int) (w : World) (hx : x = size) (h1 : 1 ≤ size) (hs : size ≤ 8) (hn : n ≤ 9223372036854775807) : Calls Try.prog 88 #[.int .i64 n, .int .i64 x] w fun e w' => e = .returned (.tuple #[.string (str (if fitE n size = true then leN n.toNat size else [])), .int .i64 (bigR n size).2]) ∧ Below w.heap.size w w' := by
  have HF := Lib.hid (fun W => rfits_any n size x W hx hs hn)
  have hx0 := hx
  cases hf : fitE n size with
  | false =>
    have e1 : (bigR n size).2 = 2 := by unfold bigR; rw [hf]; rfl
    rw [e1]
    rw [hf] at HF
    subst hx
    clear e1 hf hx0
    go_enter Try.func88, Try.ntmps88
    go_wp2_with fail
    refine (HF.out _).mono ?_
    rintro e w' ⟨rfl, rfl⟩
    go_wp2_with fail
    go_ret2
    exact ⟨rfl, Below.refl _ _⟩
  | true =>
    have e1 : (bigR n size).2 = 0 := by unfold bigR; rw [hf]; rfl
    rw [e1]
    obtain ⟨N, rfl⟩ : ∃ N : Nat, n = N := ⟨n.toNat, by have : 0 ≤ n := by { unfold fitE at hf; rw [Bool.and_eq_true] at hf; exact of_decide_eq_true hf.1 }; omega⟩
    have HB := Lib.hid (fun W => rbytes_any N size x (N : Int) W rfl hx hs (by omega))
    rw [hf] at HF
    have e2 : ((N : Int)).toNat = N := by omega
    rw [e2]
    subst hx
    clear e1 hf hx0 e2
    go_enter Try.func88, Try.ntmps88
    go_wp2_with fail
    refine (HF.out _).mono ?_
    rintro e w' ⟨rfl, rfl⟩
    go_wp2_with fail
    refine (HB.out _).mono ?_
    rintro e w2 ⟨rfl, hb2⟩
    go_wp2_with fail
    go_ret2
    exact ⟨rfl, hb2⟩
set_option maxRecDepth 100000 in
set_option maxHeartbeats 400000 in
theorem rbig_any (n : Int) (size : Nat) (x : Int) (w : World) (hx : x = size) (h1 : 1 ≤ size) (hs : size ≤ 8) (hn : n ≤ 9223372036854775807) : Calls Try.prog 77 #[.int .i64 n, .int .i64 x] w fun e w' => e = .returned (.tuple #[.string (str (bigR n size).1), .int .i64 (bigR n size).2]) ∧ Below w.heap.size w w' := by
  subst hx
  have HL := Lib.hid (fun W => rlittle_any n size (size : Int) W rfl h1 hs hn)
  have e1 : (bigR n size).1 = (if fitE n size = true then leN n.toNat size else []).reverse := by unfold bigR; split <;> simp [beN]
  have hlen : (if fitE n size = true then leN n.toNat size else []).length ≤ 1000000 := by
    split
    · rw [leN_length]; omega
    · simp
  obtain ⟨s, hs1⟩ : ∃ s, s = (if fitE n size = true then leN n.toNat size else []) := ⟨_, rfl⟩
  obtain ⟨r, hr1⟩ : ∃ r, r = (bigR n size).2 := ⟨_, rfl⟩
  rw [← hs1] at HL e1 hlen
  rw [← hr1] at HL
  rw [e1, ← hr1]
  clear hs1 hr1
  have HR := Lib.hid (fun W => rreverse_any s W hlen)
  generalize str s.reverse = T at *
  generalize str s = S at *
  clear e1 hlen
  go_enter Try.func77, Try.ntmps77
  go_wp2_with fail
  refine (HL.out _).mono ?_
  rintro e w2 ⟨rfl, hb2⟩
  go_wp2_with fail
  refine (HR.out _).mono ?_
  rintro e w3 ⟨rfl, hb3⟩
  have hb4 := hb2.trans (hb3.mono hb2.size)
  clear hb2 hb3
  go_wp2_with fail
  go_ret2
  exact ⟨rfl, hb4⟩
end Go.Proofs.Ytjnedcncfdpjoaa.E1
