/- The law ReedsolomonShortens: the walk. -/
import Derived.Test.YtbijdhdapejjhaaLin
namespace Go.Proofs.Ytbijdhdapejjhaa
open Go.RowKit
set_option linter.unusedVariables false

theorem str_zeros (n : Nat) (l : List UInt8) : str (G.pad n l) = str (List.replicate n 0) ++ str l := (str_append _ _).symm

set_option maxRecDepth 100000 in
set_option maxHeartbeats 2000000 in
theorem shortens_walk (w : World) (a : List UInt8) (n : Int) (z : Nat) (hal : a.length ≤ 1048576) (h1 : -9223372036854775808 ≤ n) (h2 : n ≤ 9223372036854775807) (hz : z < 256) :
    Calls Try.prog 7 #[.string (str a), .int .i64 n, .int .u8 z] w fun e w' => e = .returned (.bool true) ∧ Below w.heap.size w w' := by
  have hs := str_size a
  obtain ⟨q, hq⟩ : ∃ q, q = z % 40 := ⟨_, rfl⟩
  have hq40 : q < 40 := by omega
  have hzq : (z : Int) % 40 = (q : Int) := by omega
  cases he : G.encB a n with
  | false =>
    have hE := G.encR_bad he
    have HE := Lib.hid hE; clear hE he
    have Hq := Lib.hid hq; clear hq
    go_enter Try.func7, Try.ntmps7
    go_wp2_with fail
    refine (awake_any _).mono ?_
    rintro e w1 ⟨rfl, hb1⟩
    go_wp2_with fail
    refine (encode_any a n _ (by omega) h1 h2).mono ?_
    rintro e w2 ⟨rfl, hb2⟩
    rw [HE.out]
    have hB2 := hb1.trans (hb2.mono hb1.size)
    go_wp2_with fail
    go_ret
    exact ⟨rfl, hB2⟩
  | true =>
    obtain ⟨g1, g2, g3, g4⟩ := (G.encB_iff a n).1 he
    obtain ⟨m, rfl⟩ : ∃ m : Nat, n = m := ⟨n.toNat, by omega⟩
    have hE := G.encR_ok he
    rw [Int.toNat_natCast] at hE
    have hcl : (G.enc a m).length = a.length + m := G.enc_length a m
    have hcs := str_size (G.enc a m)
    rw [hcl] at hcs
    by_cases hbig : 255 < a.length + m + q
    · have hd : decide ((255 : Int) < (a.length : Int) + m + q) = true := by rw [decide_eq_true_eq]; omega
      have hd' : decide ((255 : Int) < ((a.length + m : Nat) : Int) + q) = true := by rw [decide_eq_true_eq]; omega
      have HE := Lib.hid hE; clear hE he
      have Hq := Lib.hid hq; clear hq
      have HCl := Lib.hid hcl; clear hcl g3
      go_enter Try.func7, Try.ntmps7
      go_wp2_with fail
      refine (awake_any _).mono ?_
      rintro e w1 ⟨rfl, hb1⟩
      go_wp2_with fail
      refine (encode_any a m _ (by omega) h1 h2).mono ?_
      rintro e w2 ⟨rfl, hb2⟩
      rw [HE.out]
      have hB2 := hb1.trans (hb2.mono hb1.size)
      go_wp2_with fail
      go_ret
      exact ⟨rfl, hB2⟩
    · have hd : decide ((255 : Int) < (a.length : Int) + m + q) = false := by rw [decide_eq_false_iff_not]; omega
      have hd' : decide ((255 : Int) < ((a.length + m : Nat) : Int) + q) = false := by rw [decide_eq_false_iff_not]; omega
      have he2 : G.encB (G.pad q a) m = true := (G.encB_iff _ _).2 ⟨g1, g2, fun h => by have h2 := congrArg List.length h; rw [G.pad_length] at h2; have h3 := List.length_pos_iff.2 g3; simp only [List.length_nil] at h2; omega, by rw [G.pad_length]; omega⟩
      have hE2 := G.encR_ok he2
      rw [Int.toNat_natCast, G.enc_pad] at hE2
      have hV : G.validB (G.pad q (G.enc a m)) m = true := by have := G.enc_valid (G.pad q a) m he2; rwa [Int.toNat_natCast, G.enc_pad] at this
      have hpl : (G.pad q (G.enc a m)).length ≤ 255 := by rw [G.pad_length, hcl]; omega
      have hpa : (G.pad q a).length ≤ 1048576 + 40 := by rw [G.pad_length]; omega
      have HE := Lib.hid hE; clear hE he
      have HE2 := Lib.hid hE2; clear hE2 he2
      have HV := Lib.hid hV; clear hV
      have Hq := Lib.hid hq; clear hq
      have HCl := Lib.hid hcl; clear hcl g3
      have hz0 : (str (List.replicate q 0)).size = q := by rw [str_size, List.length_replicate]
      have HS := Lib.hid (str_zeros q a)
      have HS2 := Lib.hid (str_zeros q (G.enc a m))
      go_enter Try.func7, Try.ntmps7
      go_wp2_with fail
      refine (awake_any _).mono ?_
      rintro e w1 ⟨rfl, hb1⟩
      go_wp2_with fail
      refine (encode_any a m _ (by omega) h1 h2).mono ?_
      rintro e w2 ⟨rfl, hb2⟩
      rw [HE.out]
      have hB2 := hb1.trans (hb2.mono hb1.size)
      clear hb1 hb2
      have hB2s := hB2.size
      go_wp2_with (refine wpList_mkB (base := w.heap.size) rfl _ _ rfl Try.underlying26 Try.infoU8 q rfl rfl rfl rfl (by omega) hB2s ?_; intro w3 hown3 hgr3; have hb3 : Below w.heap.size w w3 := hB2.grown hgr3 hB2s (by simp); have hcx := run_str (P := Try.prog) Try.underlying26 Try.underlying5 Try.underlying9 (Rd.ofOwn' hown3 (by omega)))
      rw [← HS.out]
      refine (encode_any (G.pad q a) m _ (by omega) h1 h2).mono ?_
      rintro e w4 ⟨rfl, hb4⟩
      rw [HE2.out]
      have hB4 := hb3.trans (hb4.mono hb3.size)
      clear hB2 hb3 hb4 hgr3 hown3
      have hsd : ((str (G.pad q (G.enc a m))).toList == (str (List.replicate q 0) ++ str (G.enc a m)).toList) = true := by rw [← HS2.out, beq_self_eq_true]
      go_wp2_with fail
      refine (valid_any _ m _ (by omega)).mono ?_
      rintro e w5 ⟨rfl, hb5⟩
      rw [HV.out]
      have hB5 := hB4.trans (hb5.mono hB4.size)
      go_wp2_with fail
      go_ret
      exact ⟨rfl, hB5⟩

theorem shortens_law (w : World) (s : ByteArray) (hs : s.data.toList.length ≤ 1048576) (n : Int) (wn : (Lit.int .i64 n).wf = true) (z : Int) (wz : (Lit.int .u8 z).wf = true) :
    Calls Try.prog 7 #[.string s, .int .i64 n, .int .u8 z] w fun e w' => e = .returned (.bool true) ∧ Below w.heap.size w w' := by
  have h := bd_i64 wn
  obtain ⟨m, rfl, hm⟩ := nat_u8 wz
  rw [str_list s]
  exact shortens_walk w _ n m hs h.1 h.2 hm
end Go.Proofs.Ytbijdhdapejjhaa
