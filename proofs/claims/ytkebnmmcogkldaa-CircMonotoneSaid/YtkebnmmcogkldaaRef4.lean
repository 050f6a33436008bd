/- Walks of the reference of chapter 4: Encode, fits, Syndromes, zero, Valid, Positions, Differ, and Xor of chapter 2. -/
import Derived.Test.YtkebnmmcogkldaaDecW
namespace Go.Proofs.Ytkebnmmcogkldaa
open Go.RowKit
set_option linter.unusedVariables false

theorem fits_any (l : List UInt8) (n : Int) (w : World) (hl : l.length ≤ 9223372036854775807) :
    Calls Try.prog 66 #[.string (str l), .int .i64 n] w fun e w' => e = .returned (.bool (G.shapedB l n)) ∧ w = w' := by
  have hs := str_size l
  go_enter Try.func66, Try.ntmps66
  go_wp2_with fail
  all_goals go_ret
  all_goals refine ⟨retB ?_, rfl⟩
  all_goals have hs := str_size l
  all_goals first | (symm; rw [Bool.eq_false_iff]; intro h; have := (G.shapedB_iff l n).1 h; omega) | (rw [Bool.eq_iff_iff, G.shapedB_iff, decide_eq_true_eq]; omega)

theorem rencode_bad (l : List UInt8) (n : Int) (w : World) (hl : l.length ≤ 9223372036854775000) (h1 : -9223372036854775808 ≤ n) (h2 : n ≤ 9223372036854775807) (h : G.encB l n = false) :
    Calls Try.prog 38 #[.string (str l), .int .i64 n] w fun e w' => e = .returned (.tuple #[.string (str []), .int .i64 1]) ∧ w = w' := by
  have hs := str_size l
  have hx := str_toList l
  have Hx := Lib.hid hx; clear hx
  have hcase : n < 1 ∨ (1 ≤ n ∧ 16 < n) ∨ (1 ≤ n ∧ n ≤ 16 ∧ l = []) ∨ (1 ≤ n ∧ n ≤ 16 ∧ l ≠ [] ∧ 255 < (l.length : Int) + n) := by
    by_cases e1 : n < 1
    · exact .inl e1
    by_cases e2 : 16 < n
    · exact .inr (.inl ⟨by omega, e2⟩)
    by_cases e : l = []
    · exact .inr (.inr (.inl ⟨by omega, by omega, e⟩))
    · refine .inr (.inr (.inr ⟨by omega, by omega, e, ?_⟩))
      have e1' : (1 : Int) ≤ n := by omega
      have e2' : n ≤ 16 := by omega
      simp [G.encB, e, e1', e2'] at h
      omega
  clear h
  rcases hcase with h | ⟨g1, h⟩ | ⟨g1, g2, h⟩ | ⟨g1, g2, g3, h⟩
  · go_enter Try.func38, Try.ntmps38
    go_wp2_with fail
    go_ret2
    exact ⟨rfl, rfl⟩
  · go_enter Try.func38, Try.ntmps38
    go_wp2_with fail
    go_ret2
    exact ⟨rfl, rfl⟩
  · have he : (str l).toList = [] := by rw [Hx.out, h]
    have H := Lib.hid h; clear h
    go_enter Try.func38, Try.ntmps38
    go_wp2_with fail
    go_ret2
    exact ⟨rfl, rfl⟩
  · have he : (str l).toList.isEmpty = false := by rw [Hx.out]; simpa using g3
    have H := Lib.hid g3; clear g3
    go_enter Try.func38, Try.ntmps38
    go_wp2_with fail
    go_ret2
    exact ⟨rfl, rfl⟩

set_option maxRecDepth 100000 in
set_option maxHeartbeats 2000000 in
theorem rencode_ok (l : List UInt8) (n : Nat) (w : World) (hl : l ≠ []) (h1 : 1 ≤ n) (h2 : n ≤ 16) (h3 : l.length + n ≤ 255) :
    Calls Try.prog 38 #[.string (str l), .int .i64 n] w fun e w' => e = .returned (.tuple #[.string (str (G.enc l n)), .int .i64 0]) ∧ Below w.heap.size w w' := by
  have hs := str_size l
  have he : (str l).toList.isEmpty = false := by rw [str_toList]; simpa using hl
  have h3' : (l.length : Int) + n ≤ 255 := by omega
  have hd1 : decide ((n : Int) < 1) = false := by simp; omega
  have hd2 : decide (16 < (n : Int)) = false := by simp; omega
  have hd3 : decide (255 < (l.length : Int) + n) = false := by simp; omega
  have H := Lib.hid hl; clear hl
  go_enter Try.func38, Try.ntmps38
  go_wp2_with fail
  refine (rgenerator_ok n _ (by omega)).mono ?_
  rintro e w1 ⟨vg, rfl, hg, hb1⟩
  have hrg := Rd.ofOwn' hg (by omega)
  clear hg
  have hb1s := hb1.size
  have hsz : (str l).data.toList.length = l.length := rfl
  go_wp2_with (first | (refine wpList_bytes rfl _ rfl Try.underlying9 Try.underlying59 Try.underlying5 rfl ?_; intro w2 cap hr2 hb2 hcap; have hr2' : Row w2 5 w1.heap.size cap l := hr2; have hB2 := hb1.trans (hb2.mono hb1s); have hb2s := hB2.size; clear hr2) | (refine wpList_appz rfl _ _ rfl Try.underlying59 Try.underlying3 Try.infoU8 hr2' rfl rfl n rfl (by omega) ?_; intro g3 cap3 w3 hr3 hgr3 hg3; have hB3 : Below w.heap.size w w3 := hB2.grown hgr3 hb2s (fun k hk => by obtain rfl := Option.some.inj hk; exact hb1s); have hrg3 : Rd w3 vg (G.gen n) := hrg.keepW (fun k hk => (hgr3.block k (Nat.lt_of_lt_of_le hk hb2.size) (by intro e; have := Option.some.inj e; omega)).trans (hb2.block k hk))))
  have hrd3 := hr3.rd (by rw [List.length_append, List.length_replicate]; omega)
  rw [List.length_append, List.length_replicate] at hrd3
  have hB3s := hB3.size
  clear hr3 hgr3 hg3 hB2 hr2' hb2 hrg hb1
  have hlen := G.gen_length n
  refine (rremainder_ok _ vg _ (G.gen n) (G.gen n) _ hrd3 hrg3 (trim_gen n) (gen_ne n) (by rw [List.length_append, List.length_replicate]; omega) (by omega)).mono ?_
  rintro e w4 ⟨v4, rfl, hown4, hb4⟩
  clear hrd3 hrg3
  have hrl : (G.rem (l ++ List.replicate n 0) (G.gen n)).length = n := by rw [G.rem_length, hlen]; omega
  have hx4 : Rd w4 v4 (G.rem (l ++ List.replicate n 0) (G.gen n)) := Rd.ofOwn' hown4 (by omega)
  have hcx := run_str (P := Try.prog) Try.underlying59 Try.underlying5 Try.underlying9 hx4
  have hB4 := hB3.trans (hb4.mono hB3s)
  have hss : (str (G.rem (l ++ List.replicate n 0) (G.gen n))).size = n := by rw [str_size]; exact hrl
  clear hrl hown4 hb4
  go_wp2_with fail
  go_ret2
  refine ⟨?_, hB4⟩
  rw [str_append]
  rfl

theorem rsyndromes_bad (l : List UInt8) (n : Int) (w : World) (hl : l.length ≤ 9223372036854775807) (h : G.shapedB l n = false) :
    Calls Try.prog 108 #[.string (str l), .int .i64 n] w fun e w' => e = .returned (.tuple #[.slice none 0 0, .int .i64 1]) ∧ w = w' := by
  have H := Lib.hid h; clear h
  go_enter Try.func108, Try.ntmps108
  go_wp2_with fail
  refine (fits_any l n _ hl).mono ?_
  rintro e w' ⟨rfl, rfl⟩
  rw [H.out]
  go_wp2_with fail
  go_ret2
  exact ⟨rfl, rfl⟩

theorem own_keep {w w' : World} {base e size n : Nat} {v : Value} {xs : List Value} (h : w.ownsRow base e size v n xs) (hb : Below w.heap.size w w') : w'.ownsRow base e size v n xs := by
  refine ⟨h.1, ?_⟩
  rcases h.2 with h2 | ⟨g, cap, cur, h1, h2, h3, h4⟩
  · exact .inl h2
  · exact .inr ⟨g, cap, cur, h1, h2, (hb.block g (Array.getElem?_eq_some_iff.1 h3).1).trans h3, h4⟩
theorem ownBlock_ge {w : World} {base e size n : Nat} {v : Value} {xs : List Value} (h : w.ownsRow base e size v n xs) : ∀ k, v.ownBlock = some k → base ≤ k := by
  intro k hk
  rcases h.2 with ⟨rfl, _⟩ | ⟨g, cap, cur, rfl, h2, _⟩
  · simp [Value.ownBlock] at hk
  · simp only [Value.ownBlock, Option.some.injEq] at hk
    omega
theorem synd_succ (l : List UInt8) (k : Nat) : G.synd l (k + 1) = G.synd l k ++ [G.eval l (G.exp k)] := by
  simp [G.synd, List.range_succ]

set_option maxRecDepth 100000 in
set_option maxHeartbeats 2000000 in
theorem rsyndromes_own (l : List UInt8) (n : Nat) (w : World) (h : G.shapedB l n = true) :
    Calls Try.prog 108 #[.string (str l), .int .i64 n] w fun e w' => ∃ v, e = .returned (.tuple #[v, .int .i64 0]) ∧ w'.ownsRow w.heap.size 5 1 v n (bs (G.synd l n)) ∧ Below w.heap.size w w' := by
  obtain ⟨h1, h2, h3, h4, h5⟩ := (G.shapedB_iff l n).1 h
  have H := Lib.hid h; clear h
  go_enter Try.func108, Try.ntmps108
  go_wp2_with fail
  refine (fits_any l n _ (by omega)).mono ?_
  rintro e w' ⟨rfl, rfl⟩
  rw [H.out]
  go_wp2_with fail
  have ho0 : (w.alloc (.cells #[] 5)).ownsRow w.heap.size 5 1 (.slice (some ⟨w.heap.size, 0, none⟩) 0 0) 0 (bs []) := World.ownsRow_lit w #[] 0 (Nat.le_refl _) (by simp) (by simp)
  have hb0 : Below w.heap.size w (w.alloc (.cells #[] 5)) := (Below.refl _ _).alloc (Nat.le_refl _) _
  go_loopw [6, 7] (fun vo vk wr => ∃ k : Nat, k ≤ n ∧ vk = .int .i64 k ∧ wr.ownsRow w.heap.size 5 1 vo k (bs (G.synd l k)) ∧ Below w.heap.size w wr) (fun _ vk _ => n - (intOf vk).toNat)
  case atStart => exact ⟨0, by omega, rfl, ho0, hb0⟩
  case round =>
    clear ho0 hb0
    obtain ⟨k, hk, rfl, ho, hb⟩ := hrel
    by_cases hlt : k < n
    · have hbs := hb.size
      go_wp2_with (refine wpList_bytes rfl _ rfl Try.underlying9 Try.underlying59 Try.underlying5 rfl ?_; intro w2 cap hr2 hb2 hcap)
      have hr2' : Row w2 5 wr.heap.size cap l := hr2
      have hrd : Rd w2 (.slice (some ⟨wr.heap.size, 0, none⟩) (str l).size cap) l := by rw [str_size]; exact hr2'.rd (by omega)
      have hb' := hb.trans (hb2.mono hb.size)
      have ho' := own_keep ho hb2
      clear hr2 hr2' ho hb hb2
      refine (rexp_any (k : Int) _ (by omega) (by omega)).mono ?_
      rintro e w3 ⟨rfl, rfl⟩
      have hE : (Gf.exp (ex (k : Int)) : Nat) = (G.exp k).toNat := by rw [G.toNat_exp]; congr 1; unfold ex; omega
      rw [hE]
      clear hE
      go_wp2_with fail
      refine (reval_any _ l (G.exp k) _ hrd).mono ?_
      rintro e w4 ⟨rfl, hb4⟩
      have hb5 := hb'.trans (hb4.mono hb'.size)
      have ho5 := own_keep ho' hb4
      have hb5s := hb5.size
      clear hrd hb' ho' hb4
      obtain ⟨c, hc⟩ : ∃ c, c = G.eval l (G.exp k) := ⟨_, rfl⟩
      rw [← hc]
      have HC := Lib.hid hc; clear hc
      have hrd1 : Rd (w4.alloc (.cells #[B c] 5)) (.slice (some ⟨w4.heap.size, 0, none⟩) 1 1) [c] := Rd.ofOwn' (World.ownsRow_lit w4 #[B c] 1 (Nat.le_refl _) (by simp [maxLen]) (by simp)) (by simp)
      have ho6 := own_keep ho5 ((Below.refl w4.heap.size w4).alloc (Nat.le_refl _) (.cells #[B c] 5))
      have hb6 := hb5.alloc hb5s (.cells #[B c] 5)
      have hb6s := hb6.size
      clear ho5 hb5
      go_wp2_with (refine wpList_appB rfl _ _ rfl Try.underlying59 Try.infoU8 ho6 rfl hrd1 rfl (by simp; omega) hb6s ?_; intro v7 w7 hown7 hgr7 _)
      have hb7 := hb6.grown hgr7 hb6s (ownBlock_ge ho6)
      rw [List.length_singleton, HC.out, ← synd_succ] at hown7
      clear hb6 ho6 hrd1 hgr7
      go_roundw
      case rel => exact ⟨k + 1, by omega, by go_num, hown7, hb7⟩
      case measure => simp [intOf]; omega
    · obtain rfl : k = n := by omega
      go_wp2_with fail
      go_ret2
      exact ⟨_, rfl, ho, hb⟩

theorem rsyndromes_ok (l : List UInt8) (n : Nat) (w : World) (h : G.shapedB l n = true) :
    Calls Try.prog 108 #[.string (str l), .int .i64 n] w fun e w' => ∃ v, e = .returned (.tuple #[v, .int .i64 0]) ∧ Rd w' v (G.synd l n) ∧ Below w.heap.size w w' := by
  obtain ⟨h1, h2, h3, h4, h5⟩ := (G.shapedB_iff l n).1 h
  exact (rsyndromes_own l n w h).mono fun e w' ⟨v, h, ho, hb⟩ => ⟨v, h, Rd.ofOwn' ho (by omega), hb⟩

end Go.Proofs.Ytkebnmmcogkldaa
