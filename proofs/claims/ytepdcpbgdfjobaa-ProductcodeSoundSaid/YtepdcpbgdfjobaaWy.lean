/- Chapter 8: 'all' and the function that it is handed, walked; a region of a round by what its operations lean on. -/
import Derived.Test.YtepdcpbgdfjobaaWd
import Derived.Test.YtepdcpbgdfjobaaRin
import Derived.Test.YtepdcpbgdfjobaaInd
namespace Go.Proofs.Ytepdcpbgdfjobaa.W8
open Go.RowKit
set_option linter.unusedVariables false

section
variable {P : Program} {Q : Exit → Act → World → Prop} {n l₀ : Nat}
/-- 'wp_region_ind' in a round -/
theorem wpIn_region_ind {id : Nat} {l : List Oper} {a0 : Act} {w : World} (hQ : ¬ LetsOut Q) (hd : l.all plainOp = true) (hm : P.follows .mixedOrders = true) (R : World → World → Prop) (C : World → Prop) (V : Nat → Value → (Nat → Value) → World → Prop) (sk : Nat → Bool) (hf : formR l a0.tmps.size = true)
    (hC : ∀ w w', R w w' → C w → C w') (hV : ∀ i v d w w', R w w' → V i v d w → V i v d w') (h0 : C w.drew)
    (hstep : StepsD P Q R C V sk l a0 0 l)
    (hend : ∀ a w, C w → a.defers = a0.defers → a.tmps.size = a0.tmps.size → (∀ t, freeB l t = true → a.tmps.getD t undef = a0.tmps.getD t undef) →
      (∀ (i : Nat) (o : Oper), l[i]? = some o → sk i = false → V i (slotV o.dst a) (depV l i a) w) → Q .normal a w) : (Code.region id l.toArray true).wpIn (Fence.wide.inRound l₀) n P Q a0 w := by
  refine wpIn_region_any hm (wpAny_in hd hQ _ _ _ _ ?_)
  have hn : (Array.replicate l.toArray.size false).size = l.length := by simp
  refine wpAny_ind hf hC hV hstep hend _ _ _ _ hn ?_ ⟨h0, rfl, rfl, fun t _ => rfl, fun i o ho hl => ?_, fun i o ho _ hl => ?_⟩
  · have := List.length_filter_le (fun i => !(Array.replicate l.toArray.size false).getD i true) (List.range l.length)
    unfold left
    simpa using this
  · exfalso
    have hi := (List.getElem?_eq_some_iff.1 ho).1
    simp [Array.getD, hi] at hl
  · exfalso
    have hi := (List.getElem?_eq_some_iff.1 ho).1
    simp [Array.getD, hi] at hl
end

/-- a symbol of a decoded word is 0 where it takes no part: the first 'n' -/
def insN (ws : List Int) (f : Int) (c : List UInt8) : Nat → Bool
  | 0 => true
  | k + 1 => insN ws f c k && (decide (f ≤ ixI ws k) || decide (G.ix c k = 0))
def insB (ws : List Int) (f : Int) (c : List UInt8) : Bool := insN ws f c ws.length
theorem insN_false {ws : List Int} {f : Int} {c : List UInt8} {k : Nat} (h : (decide (f ≤ ixI ws k) || decide (G.ix c k = 0)) = false) : ∀ n, k < n → insN ws f c n = false
  | 0, hk => by omega
  | n + 1, hk => by
    unfold insN
    by_cases e : k = n
    · subst e; rw [h, Bool.and_false]
    · rw [insN_false h n (by omega), Bool.false_and]

set_option maxRecDepth 100000 in
set_option maxHeartbeats 2000000 in
theorem inside_any (k b10 b4 b11 : Nat) (wv : Value) (ws : List Int) (f : Int) (c : List UInt8) (w : World) (h10 : Bx w b10 24 [wv]) (h4 : Bx w b4 3 [.int .i64 f]) (h11 : Bx w b11 9 [.string (str c)]) (hw : RdI w wv ws) (hk : k < ws.length) (hc : k < c.length) :
    Calls Try.prog 69 #[.int .i64 (k : Int), .pointer (some ⟨b10, 0, none⟩), .pointer (some ⟨b4, 0, none⟩), .pointer (some ⟨b11, 0, none⟩)] w fun e w' => e = .returned (.bool (decide (f ≤ ixI ws k) || decide (G.ix c k = 0))) ∧ ∃ q, w' = w.drewN q := by
  obtain ⟨hw0, ⟨wa, wc, wb, wo, rfl, hwc, hwcell⟩, hwr⟩ := hw
  have c10 := h10.cell (i := 0) rfl
  have c4 := h4.cell (i := 0) rfl
  have c11 := h11.cell (i := 0) rfl
  obtain ⟨ha, hcw⟩ := hwcell k hk
  have hix := fun wx => run_idx (P := Try.prog) Try.underlying24 Try.sizeInt (cap := wc) ha hk _ rfl wx
  have hi1 := fun wx => run_sidx (P := Try.prog) Try.underlying9 c k hc _ rfl wx
  have hz := byte_beq0 (G.ix c k)
  clear ha hwcell hwr h10 h4 h11
  generalize ixI ws k = x at *
  by_cases h1 : f ≤ x
  · have hd : decide (f ≤ x) = true := by simpa using h1
    rw [hd, Bool.true_or]
    clear h1
    go_enter Try.func69, Try.ntmps69
    go_wp2_with fail
    go_quiet (fail)
    go_wp2_with fail
    go_ret
    exact ⟨rfl, nq, rfl⟩
  · have hd : decide (f ≤ x) = false := by simpa using h1
    rw [hd, Bool.false_or]
    generalize decide (G.ix c k = 0) = zz at *
    clear h1
    go_enter Try.func69, Try.ntmps69
    go_wp2_with fail
    go_quiet (fail)
    go_wp2_with fail
    go_ret
    exact ⟨rfl, nq, rfl⟩

set_option maxRecDepth 100000 in
set_option maxHeartbeats 2000000 in
theorem all_any (n : Nat) (b10 b4 b11 : Nat) (wv : Value) (ws : List Int) (f : Int) (c : List UInt8) (w : World) (h10 : Bx w b10 24 [wv]) (h4 : Bx w b4 3 [.int .i64 f]) (h11 : Bx w b11 9 [.string (str c)]) (hw : RdI w wv ws) (hn : n = ws.length) (hc : ws.length ≤ c.length) (hl : ws.length ≤ 1000) :
    Calls Try.prog 70 #[.int .i64 (n : Int), .func (.func 69) #[] #[.pointer (some ⟨b10, 0, none⟩), .pointer (some ⟨b4, 0, none⟩), .pointer (some ⟨b11, 0, none⟩)]] w fun e w' => e = .returned (.bool (insB ws f c)) ∧ ∃ q, w' = w.drewN q := by
  have HI : Hid (∀ k, k < n → ∀ q, Calls Try.prog 69 #[.int .i64 (k : Int), .pointer (some ⟨b10, 0, none⟩), .pointer (some ⟨b4, 0, none⟩), .pointer (some ⟨b11, 0, none⟩)] (w.drewN q) fun e w' => e = .returned (.bool (decide (f ≤ ixI ws k) || decide (G.ix c k = 0))) ∧ ∃ q, w' = w.drewN q) := Lib.hid fun k hk q =>
    (inside_any k b10 b4 b11 wv ws f c (w.drewN q) h10 h4 h11 (hw.keepW fun _ _ => rfl) (by omega) (by omega)).mono fun e w' ⟨h1, q2, h2⟩ => ⟨h1, q + q2, by rw [h2]; simp [World.drewN, Nat.add_assoc]⟩
  have hn2 : n ≤ 1000 := by omega
  have HN := Lib.hid hn
  clear h10 h4 h11 hw hc hl hn
  go_enter Try.func70, Try.ntmps70
  go_wp2_with fail
  go_loopw [7] (fun vk wr => ∃ k q : Nat, k ≤ n ∧ vk = .int .i64 k ∧ Hid (insN ws f c k = true) ∧ wr = w.drewN q) (fun vk _ => n - (intOf vk).toNat)
  case atStart => exact ⟨0, 0, by omega, rfl, Lib.hid rfl, rfl⟩
  case round =>
    obtain ⟨k, q, hk, rfl, HK, rfl⟩ := hrel
    by_cases hlt : k < n
    · have hlt' : (k : Int) < n := by omega
      have hS : insN ws f c (k + 1) = (insN ws f c k && (decide (f ≤ ixI ws k) || decide (G.ix c k = 0))) := rfl
      rw [HK.out, Bool.true_and] at hS
      have hF : (decide (f ≤ ixI ws k) || decide (G.ix c k = 0)) = false → insB ws f c = false := fun h => by
        unfold insB
        rw [← HN.out]
        exact insN_false h n hlt
      have HC := Lib.hid (HI.out k hlt q)
      generalize (decide (f ≤ ixI ws k) || decide (G.ix c k = 0)) = bb at *
      have HS := Lib.hid hS
      clear hS
      go_wp2_with fail
      refine HC.out.mono ?_
      rintro e w' ⟨rfl, q2, rfl⟩
      cases bb with
      | false =>
        have HX := Lib.hid (hF rfl)
        clear hF
        go_wp2_with fail
        go_ret
        exact ⟨by rw [HX.out]; rfl, q2, rfl⟩
      | true =>
        clear hF
        go_wp2_with fail
        go_roundw
        case rel => exact ⟨k + 1, q2, by omega, by go_num, Lib.hid HS.out, rfl⟩
        case measure => simp [intOf]; omega
    · obtain rfl : k = n := by omega
      have HX : Hid (insB ws f c = true) := Lib.hid (by unfold insB; rw [← HN.out]; exact HK.out)
      go_wp2_with fail
      go_ret
      exact ⟨by rw [HX.out]; rfl, q, rfl⟩
end Go.Proofs.Ytepdcpbgdfjobaa.W8
