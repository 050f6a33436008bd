/- The law SubchannelReturns walked: it returns true. -/
import Derived.Test.YtenbafolmmemgaaQlc
namespace Go.Proofs.Ytenbafolmmemgaa.W10
open Go.RowKit
set_option linter.unusedVariables false

/-- what is known of both directions -/
theorem encS_ok {q : Q.Fr} (h : encC q = 0) : frB q = true ∧ encS q = encL q := by
  unfold encC at h
  unfold encS
  split at h
  · rename_i hf; exact ⟨hf, if_pos hf⟩
  · cases h
theorem encC_01 (q : Q.Fr) : encC q = 0 ∨ encC q = 1 ∧ encS q = [] := by
  unfold encC encS
  split
  · exact .inl rfl
  · exact .inr ⟨rfl, rfl⟩
set_option maxRecDepth 100000 in
set_option maxHeartbeats 4000000 in
theorem returns_few (q : Q.Fr) (l : List UInt8) (w : World) (hn : l.length ≤ 40) :
    Calls Try.prog 7 #[fagg q, .string (str l)] w (RB true w) := by
  have hsz := str_size l
  have hg : decide (40 < ((str l).size : Int)) = false := decide_eq_false (by rw [hsz]; omega)
  have hm : (str l).size ≤ 40 := by omega
  clear hsz
  -- the second half
  have H2 : Hid (∀ (w9 : World), Below w.heap.size w w9 → True) := Lib.hid fun _ _ => trivial
  go_enter Try.func7, Try.ntmps7
  go_wp2_with fail
  refine (awake_any _).mono ?_
  rintro e w1 ⟨rfl, hb1⟩
  have hq1 : FB w1 w.heap.size q := (Bx.new w 27 (fcs q)).call hb1
  have hle1 := ((Below.refl w.heap.size w).alloc (Nat.le_refl _) (fobj q)).trans (hb1.mono (by simp))
  clear hb1
  obtain ⟨p0, p1, p2, p3, p4, p5, p6, p7, p8⟩ := fcs_cells hq1
  obtain ⟨gq, hgq⟩ : ∃ g, g = w.heap.size := ⟨_, rfl⟩
  have HGQ := Lib.hid hgq
  have HQ1 := Lib.hid hq1
  clear hq1 hgq
  go_wp2_with fail
  refine (enc_any q _).mono ?_
  rintro e w2 ⟨rfl, hb2⟩
  have hq2 := HQ1.out.call hb2
  have hle2 := hle1.trans (hb2.mono hle1.size)
  clear hb2 hle1 HQ1 p0 p1 p2 p3 p4 p5 p6 p7 p8
  go_upto_if 24 with (fail)
  go_cut [] (fun wx => Below w.heap.size w wx)
  case first =>
    obtain ⟨p0, p1, p2, p3, p4, p5, p6, p7, p8⟩ := fcs_cells hq2
    rcases encC_01 q with hc | ⟨hc, hs⟩
    · obtain ⟨hf, hs⟩ := encS_ok hc
      have HD := Lib.hid (fun W => dec_any (encS q) W (by rw [hs, encL_length]; omega))
      rw [hs, dec_enc hf, ← hs] at HD
      have hz : (str (encS q)).size = 12 := by rw [str_size, hs, encL_length]
      have hc1 : (encC q == 0) = true := by rw [hc]; rfl
      have HQ2 := Lib.hid hq2
      clear hc hs hf hq2
      go_wp2_with fail
      refine (HD.out _).mono ?_
      rintro e w3 ⟨rfl, hb3⟩
      have hle3 := hle2.trans (hb3.mono hle2.size)
      have hq3 := (HQ2.out.call hb3).alloc (fobj q)
      have hX : FB (w3.alloc (fobj q)) w3.heap.size q := Bx.new _ _ _
      have hle4 := hle3.alloc hle3.size (fobj q)
      clear p0 p1 p2 p3 p4 p5 p6 p7 p8 hle3 hb3
      obtain ⟨p0, p1, p2, p3, p4, p5, p6, p7, p8⟩ := fcs_cells hq3
      obtain ⟨t0, t1, t2, t3, t4, t5, t6, t7, t8⟩ := fcs_cells hX
      go_upto_region 8 with (fail)
      clear hq3 hX
      change Code.wp _ _ _ _ (w3.alloc (fobj q))
      generalize w3.alloc (fobj q) = w4 at *
      go_wp2_with fail
      go_meet
      case rel => exact hle4
    · have hc1 : (encC q == 0) = false := by rw [hc]; rfl
      have hc2 : (encC q == 1) = true := by rw [hc]; rfl
      have hc3 : (encC q != 1) = false := by rw [hc]; rfl
      have hs1 : (str (encS q)).toList = [] := by rw [hs, str_toList]
      have hs2 : (!(str (encS q)).toList.isEmpty) = false := by rw [hs, str_toList]; rfl
      clear hc hs
      clear p0 p1 p2 p3 p4 p5 p6 p7 p8
      go_wp2_with fail
      go_meet
      case rel => exact hle2
  have hlx := hcut
  clear hcut hle2 hq2 hn HGQ H2
  have HD := Lib.hid (fun W => dec_any l W (by rw [str_size] at hm; omega))
  have HB : Hid ((decR l).2 ≠ 0 → (decR l).1 = Q.z) := Lib.hid dec_bad
  have HO : Hid ((decR l).2 = 0 → Is (decR l).1 l) := Lib.hid dec_ok
  generalize decR l = R at HD HB HO
  obtain ⟨d, c⟩ := R
  replace HB : Hid (c ≠ 0 → d = Q.z) := HB
  replace HO : Hid (c = 0 → Is d l) := HO
  replace HD : Hid (∀ W, Calls Try.prog 23 #[.string (str l)] W (FP (d, c) W)) := HD
  by_cases hc : c = 0
  · have hi := HO.out hc
    subst hc
    have HEN := Lib.hid (fun W => enc_yes d W hi.1)
    have HEQ := Lib.hid hi.2
    clear hi HO HB
    rw [HEQ.out] at HEN
    have hss := str_same (l := l) rfl
    go_wp2_with fail
    refine (HD.out _).mono ?_
    rintro e w3 ⟨rfl, hb3⟩
    have hle3 := hlx.trans (hb3.mono hlx.size)
    have hX : FB (w3.alloc (fobj d)) w3.heap.size d := Bx.new _ _ _
    have hle4 := hle3.alloc hle3.size (fobj d)
    clear hb3 hle3
    go_upto_region 15 with (fail)
    change Code.wp _ _ _ _ (w3.alloc (fobj d))
    obtain ⟨t0, t1, t2, t3, t4, t5, t6, t7, t8⟩ := fcs_cells hX
    clear hX
    generalize w3.alloc (fobj d) = w4 at *
    go_wp2_with fail
    refine (HEN.out _).mono ?_
    rintro e w5 ⟨rfl, hb5⟩
    have hle5 := hle4.trans (hb5.mono hle4.size)
    clear hb5 t0 t1 t2 t3 t4 t5 t6 t7 t8
    go_wp2_with fail
    go_ret
    exact ⟨ret_t rfl, hle5⟩
  · have hd := HB.out hc
    subst hd
    have hc1 : (c == 0) = false := by simpa using hc
    clear hc HO HB
    go_wp2_with fail
    refine (HD.out _).mono ?_
    rintro e w3 ⟨rfl, hb3⟩
    have hle3 := hlx.trans (hb3.mono hlx.size)
    have hX : FB (w3.alloc (fobj Q.z)) w3.heap.size Q.z := Bx.new _ _ _
    have hle4 := hle3.alloc hle3.size (fobj Q.z)
    clear hb3 hle3
    go_upto_region 14 with (fail)
    change Code.wp _ _ _ _ (w3.alloc (fobj Q.z))
    obtain ⟨t0, t1, t2, t3, t4, t5, t6, t7, t8⟩ := fcs_cells hX
    clear hX
    generalize w3.alloc (fobj Q.z) = w4 at *
    simp only [Q.z] at t0 t1 t2 t3 t4 t5 t6 t7 t8
    go_wp2_with fail
    go_ret
    exact ⟨ret_t rfl, hle4⟩
set_option maxRecDepth 100000 in
set_option maxHeartbeats 4000000 in
theorem returns_many (q : Q.Fr) (s : ByteArray) (w : World) (hn : 40 < s.size) (hx : s.size ≤ 9223372036854775807) :
    Calls Try.prog 7 #[fagg q, .string s] w (RB true w) := by
  go_enter Try.func7, Try.ntmps7
  go_wp2_with fail
  refine (awake_any _).mono ?_
  rintro e w1 ⟨rfl, hb1⟩
  have hle1 := ((Below.refl w.heap.size w).alloc (Nat.le_refl _) (fobj q)).trans (hb1.mono (by simp))
  go_wp2_with fail
  go_ret
  exact ⟨ret_t rfl, hle1⟩
theorem returns_law (w : World) (v : Value) (q : Q.Fr) (h : CameF w v q) (s : ByteArray) (hs : s.size ≤ maxLen) :
    Calls Try.prog 7 #[v, .string s] w fun e w' => e = .returned (.bool true) ∧ Below w.heap.size w w' := by
  obtain rfl := h
  unfold maxLen at hs
  by_cases hn : s.size ≤ 40
  · have e := str_list s
    have := returns_few q s.data.toList w (by simpa using hn)
    rwa [← e] at this
  · exact returns_many q s w (by omega) hs
end Go.Proofs.Ytenbafolmmemgaa.W10
