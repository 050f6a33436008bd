/- Chapter 8: awake; the law ProductcodeWords walked. -/
import Derived.Outline
import Derived.Test.YtepdcpbgdfjobaaWv
import Derived.Test.YtepdcpbgdfjobaaShelf
namespace Go.Proofs.Ytepdcpbgdfjobaa.W8
open Go.RowKit Go.Shelf
set_option linter.unusedVariables false

theorem valid26 : G.validB (List.replicate 26 0) 2 = true := by decide +kernel
theorem valid45 : G.validB (List.replicate 45 0) 2 = true := by decide +kernel
theorem sym_zero (n : Nat) (f x : Int) : sym (List.replicate n 0) f x = 0 := by
  unfold sym G.ix
  split
  · rfl
  · rw [List.getD_eq_getElem?_getD, List.getElem?_replicate]; split <;> rfl
theorem take_zero (n : Nat) (f : Int) (ws : List Int) : takeL (List.replicate n 0) ws f = List.replicate ws.length 0 := by
  unfold takeL
  rw [List.eq_replicate_iff]
  refine ⟨by simp, fun b hb => ?_⟩
  obtain ⟨x, _, rfl⟩ := List.mem_map.1 hb
  exact sym_zero _ _ _
theorem sound_zero (n : Nat) (f : Int) : ∀ k, soundN (List.replicate n 0) f k = true
  | 0 => rfl
  | k + 1 => by
    rw [soundN, sound_zero n f k, take_zero, wd_length, Bool.true_and]
    split
    · exact valid26
    · exact valid45
theorem vld_zero : vldB (List.replicate 2352 0) 0 = true := by
  unfold vldB soundB
  rw [sound_zero, List.length_replicate]
  rfl
theorem repeatL_one (c : UInt8) : ∀ n, Lib.repeatL [c] n = List.replicate n c
  | 0 => rfl
  | n + 1 => by rw [Lib.repeatL, repeatL_one c n, List.replicate_succ]; rfl
theorem repeat_zero : (⟨(Lib.repeatL (⟨#[0]⟩ : ByteArray).data.toList 2352).toArray⟩ : ByteArray) = str (List.replicate 2352 0) := by
  have h : (⟨#[0]⟩ : ByteArray).data.toList = [0] := rfl
  rw [h, repeatL_one]
  rfl

/-- the element of an owned row of ints -/
theorem own_int {w : World} {base e n : Nat} {v : Value} {l : List Int} (h : w.ownsRow base e 1 v n (is l)) (hn : 0 < n) : ∃ g c, v = .slice (some ⟨g, 0, none⟩) n c ∧ ∀ i, i < n → w.cell? ⟨g, i, none⟩ = some (.int .i64 (ixI l i)) := by
  have hl := h.1
  rw [is_length, Nat.mul_one] at hl
  rcases h.2 with ⟨_, h0⟩ | ⟨g, cap, cur, rfl, hg, hh, hnn, hm, hcs, ht⟩
  · omega
  · exact ⟨g, cap, rfl, fun i hi => by rw [h.cellAt i (by omega), is_get (by omega)]⟩

set_option maxRecDepth 100000 in
set_option maxHeartbeats 4000000 in
theorem awake8_any (w : World) : Calls Try.prog 11 #[] w fun e w' => e = .returned (.bool true) ∧ Below w.heap.size w w' := by
  have HR := Lib.hid (fun W => Try.strings_Repeat (⟨#[0]⟩ : ByteArray) 2352 W (by omega) (by decide))
  rw [repeat_zero] at HR
  have HV := Lib.hid (fun W => valid8_any (List.replicate 2352 0) 0 W (by simp))
  rw [vld_zero] at HV
  generalize str (List.replicate 2352 0) = Z at HR HV
  go_enter Try.func11, Try.ntmps11
  go_wp2_with fail
  refine (pword_ok 0 _ _ rfl (by omega)).mono ?_
  rintro e w1 ⟨v1, rfl, ho1, hb1⟩
  obtain ⟨g1, c1, rfl, hc1⟩ := own_int ho1 (by omega)
  go_wp2_with fail
  refine (qword_ok 0 _ _ rfl (by omega)).mono ?_
  rintro e w2 ⟨v2, rfl, ho2, hb2⟩
  obtain ⟨g2, c2, rfl, hc2⟩ := own_int ho2 (by omega)
  have ho1' := own_keep' ho1 hb2
  obtain ⟨g1', c1', e1, hc1'⟩ := own_int ho1' (by omega)
  simp only [Value.slice.injEq, Option.some.injEq, Addr.mk.injEq, true_and, and_true] at e1
  obtain ⟨rfl, rfl⟩ := e1
  have hB2 := hb1.trans (hb2.mono hb1.size)
  clear hc1 hc2 ho1 hb1 hb2 hc1'
  go_wp2_with fail
  refine (HR.out _).mono ?_
  rintro e w3 ⟨rfl, hb3⟩
  have ho1 := own_keep' ho1' hb3
  have ho2' := own_keep' ho2 hb3
  obtain ⟨g1', c1', e1, hc1⟩ := own_int ho1 (by omega)
  obtain ⟨g2', c2', e2, hc2⟩ := own_int ho2' (by omega)
  simp only [Value.slice.injEq, Option.some.injEq, Addr.mk.injEq, true_and, and_true] at e1 e2
  obtain ⟨rfl, rfl⟩ := e1
  obtain ⟨rfl, rfl⟩ := e2
  have hB3 := hB2.trans (hb3.mono hB2.size)
  have q0 : w3.cell? ⟨g1, 0, none⟩ = some (.int .i64 12) := hc1 0 (by omega)
  have q1 : w3.cell? ⟨g1, 1, none⟩ = some (.int .i64 98) := hc1 1 (by omega)
  have q2 : w3.cell? ⟨g1, 25, none⟩ = some (.int .i64 2162) := hc1 25 (by omega)
  have q3 : w3.cell? ⟨g2, 1, none⟩ = some (.int .i64 100) := hc2 1 (by omega)
  have q4 : w3.cell? ⟨g2, 43, none⟩ = some (.int .i64 2248) := hc2 43 (by omega)
  have q5 : w3.cell? ⟨g2, 44, none⟩ = some (.int .i64 2300) := hc2 44 (by omega)
  clear hc1 hc2 ho1 ho2 ho1' ho2' hb3 hB2
  go_wp2_with fail
  refine (HV.out _).mono ?_
  rintro e w4 ⟨rfl, hb4⟩
  have hB4 := hB3.trans (hb4.mono hB3.size)
  clear hb4 hB3
  go_wp2_with fail
  go_ret
  exact ⟨rfl, hB4⟩

/-- what PWord and QWord return for any number -/
def px (n : Int) : List Int := if 0 ≤ n ∧ n < 86 then pw n.toNat else []
def qx (n : Int) : List Int := if 0 ≤ n ∧ n < 52 then qw n.toNat else []
def pe (n : Int) : Int := if 0 ≤ n ∧ n < 86 then 0 else 2
def qe (n : Int) : Int := if 0 ≤ n ∧ n < 52 then 0 else 2
def WrdP (l : List Int) (r : Int) (w : World) (e : Ending) (w' : World) : Prop := ∃ v, e = .returned (.tuple #[v, .int .i64 r]) ∧ w'.ownsRow w.heap.size 3 1 v l.length (is l) ∧ Below w.heap.size w w'
theorem wrd_bad {e : Ending} {w w' : World} (h : e = .returned (.tuple #[.slice none 0 0, .int .i64 2]) ∧ w = w') : WrdP [] 2 w e w' := by
  obtain ⟨rfl, rfl⟩ := h
  exact ⟨_, rfl, ownsRow_nil _ _ _, Below.refl _ _⟩
theorem pword_all (n : Int) (w : World) : Calls Try.prog 12 #[.int .i64 n] w (WrdP (px n) (pe n) w) := by
  unfold px pe
  by_cases h : 0 ≤ n ∧ n < 86
  · rw [if_pos h, if_pos h]
    refine (pword_ok n.toNat n w (by omega) (by omega)).mono fun e w' ⟨v, h1, h2, h3⟩ => ⟨v, h1, by rw [pw_length]; exact h2, h3⟩
  · rw [if_neg h, if_neg h]
    exact (pword_bad n w (by omega)).mono fun e w' h => wrd_bad h
theorem qword_all (n : Int) (w : World) : Calls Try.prog 13 #[.int .i64 n] w (WrdP (qx n) (qe n) w) := by
  unfold qx qe
  by_cases h : 0 ≤ n ∧ n < 52
  · rw [if_pos h, if_pos h]
    refine (qword_ok n.toNat n w (by omega) (by omega)).mono fun e w' ⟨v, h1, h2, h3⟩ => ⟨v, h1, by rw [qw_length]; exact h2, h3⟩
  · rw [if_neg h, if_neg h]
    exact (qword_bad n w (by omega)).mono fun e w' h => wrd_bad h
theorem rpword_all (n : Int) (w : World) : Calls Try.prog 14 #[.int .i64 n] w (WrdP (px n) (pe n) w) := by
  unfold px pe
  by_cases h : 0 ≤ n ∧ n < 86
  · rw [if_pos h, if_pos h]
    refine (rpword_ok n.toNat n w (by omega) (by omega)).mono fun e w' ⟨v, h1, h2, h3⟩ => ⟨v, h1, by rw [pw_length]; exact h2, h3⟩
  · rw [if_neg h, if_neg h]
    exact (rpword_bad n w (by omega)).mono fun e w' h => wrd_bad h
theorem rqword_all (n : Int) (w : World) : Calls Try.prog 15 #[.int .i64 n] w (WrdP (qx n) (qe n) w) := by
  unfold qx qe
  by_cases h : 0 ≤ n ∧ n < 52
  · rw [if_pos h, if_pos h]
    refine (rqword_ok n.toNat n w (by omega) (by omega)).mono fun e w' ⟨v, h1, h2, h3⟩ => ⟨v, h1, by rw [qw_length]; exact h2, h3⟩
  · rw [if_neg h, if_neg h]
    exact (rqword_bad n w (by omega)).mono fun e w' h => wrd_bad h
theorem px_len (n : Int) : (px n).length ≤ 100 := by unfold px; split <;> simp [pw_length]
theorem qx_len (n : Int) : (qx n).length ≤ 100 := by unfold qx; split <;> simp [qw_length]
/-- slices.Equal of two rows that hold the same ints -/
theorem equal_same {w : World} {b1 b2 e1 e2 : Nat} {v1 v2 : Value} {l : List Int} (h1 : w.ownsRow b1 e1 1 v1 l.length (is l)) (h2 : w.ownsRow b2 e2 1 v2 l.length (is l)) (hl : l.length ≤ 100) :
    Calls Try.prog 16 #[v1, v2] w fun e w' => e = .returned (.bool true) ∧ ∃ q, w' = w.drewN q := by
  by_cases h0 : l.length = 0
  · obtain ⟨a1, c1, _, rfl, _⟩ := own_form h1
    obtain ⟨a2, c2, _, rfl, _⟩ := own_form h2
    rw [h0]
    refine (Try.slices_Equal_int_empty a1 a2 c1 0 c2 w (by omega)).mono ?_
    rintro e w' ⟨rfl, rfl⟩
    exact ⟨rfl, 0, rfl⟩
  · obtain ⟨g1, c1, rfl, hc1⟩ := own_int h1 (by omega)
    obtain ⟨g2, c2, rfl, hc2⟩ := own_int h2 (by omega)
    refine (Try.slices_Equal_int g1 0 l.length c1 g2 0 l.length c2 l l w (Nat.le_refl _) (Nat.le_refl _) (by omega) (by omega) (fun j hj => by rw [Nat.zero_add]; exact hc1 j hj) (fun j hj => by rw [Nat.zero_add]; exact hc2 j hj)).mono ?_
    rintro e w' ⟨rfl, hq⟩
    exact ⟨by simp, hq⟩

set_option maxRecDepth 100000 in
set_option maxHeartbeats 4000000 in
theorem words_law (w : World) (n : Int) (hn : (Lit.int .i64 n).wf = true) : Calls Try.prog 4 #[.int .i64 n] w fun e w' => e = .returned (.bool true) ∧ Below w.heap.size w w' := by
  have hp := px_len n
  have hq := qx_len n
  have H1 := Lib.hid (fun W => pword_all n W)
  have H2 := Lib.hid (fun W => qword_all n W)
  have H3 := Lib.hid (fun W => rpword_all n W)
  have H4 := Lib.hid (fun W => rqword_all n W)
  generalize px n = P at *
  generalize qx n = Q at *
  generalize pe n = r1 at *
  generalize qe n = r2 at *
  clear hn
  go_enter Try.func4, Try.ntmps4
  go_wp2_with fail
  refine (awake8_any _).mono ?_
  rintro e w0 ⟨rfl, hb0⟩
  go_wp2_with fail
  refine (H1.out _).mono ?_
  rintro e w1 ⟨v1, rfl, ho1, hb1⟩
  have hB1 := hb0.trans (hb1.mono hb0.size)
  clear hb0 hb1
  go_wp2_with fail
  refine (H3.out _).mono ?_
  rintro e w2 ⟨v2, rfl, ho2, hb2⟩
  have ho1 := own_keep' ho1 hb2
  have hB2 := hB1.trans (hb2.mono hB1.size)
  clear hB1 hb2
  go_wp2_with fail
  refine (H2.out _).mono ?_
  rintro e w3 ⟨v3, rfl, ho3, hb3⟩
  have ho1 := own_keep' ho1 hb3
  have ho2 := own_keep' ho2 hb3
  have hB3 := hB2.trans (hb3.mono hB2.size)
  clear hB2 hb3
  go_wp2_with fail
  refine (H4.out _).mono ?_
  rintro e w4 ⟨v4, rfl, ho4, hb4⟩
  have ho1 := own_keep' ho1 hb4
  have ho2 := own_keep' ho2 hb4
  have ho3 := own_keep' ho3 hb4
  have hB4 := hB3.trans (hb4.mono hB3.size)
  clear hB3 hb4
  go_wp2_with fail
  refine (equal_same ho1 ho2 hp).mono ?_
  rintro e w5 ⟨rfl, q, rfl⟩
  have hb5 := Below.drewN (Below.refl w4.heap.size w4) q
  have ho3 := own_keep' ho3 hb5
  have ho4 := own_keep' ho4 hb5
  have hB5 := Below.drewN hB4 q
  generalize w4.drewN q = w6 at ho3 ho4 hB5 ⊢
  clear hB4 hb5 ho1 ho2
  go_wp2_with fail
  refine (equal_same ho3 ho4 hq).mono ?_
  rintro e w5 ⟨rfl, q2, rfl⟩
  have hB6 := Below.drewN hB5 q2
  clear hB5 ho3 ho4
  go_wp2_with fail
  go_ret
  exact ⟨rfl, hB6⟩
end Go.Proofs.Ytepdcpbgdfjobaa.W8
