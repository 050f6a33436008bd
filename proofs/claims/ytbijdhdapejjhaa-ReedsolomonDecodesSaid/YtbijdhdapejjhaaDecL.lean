/- Walk of the law ReedsolomonDecodes. -/
import Derived.Test.YtbijdhdapejjhaaSol6
import Derived.Test.YtbijdhdapejjhaaFil
import Derived.Test.YtbijdhdapejjhaaDecW
import Derived.Test.YtbijdhdapejjhaaFills
namespace Go.Proofs.Ytbijdhdapejjhaa
open Go.RowKit
set_option linter.unusedVariables false

set_option maxRecDepth 100000 in
set_option maxHeartbeats 4000000 in
theorem decodes_skip (w : World) (p : List UInt8) (n : Int) (va : Option Addr) (vc : Nat) (l : List Int) (hp : p.length ≤ 9223372036854775807) (hl : l.length ≤ 9223372036854775807) (hbig : 20 < l.length) :
    Calls Try.prog 8 #[.string (str p), .int .i64 n, .slice va l.length vc] w fun e w' => e = .returned (.bool true) ∧ Below w.heap.size w w' := by
  have hs := str_size p
  go_enter Try.func8, Try.ntmps8
  go_wp2_with fail
  refine (awake_any _).mono ?_
  rintro e w1 ⟨rfl, hb1⟩
  go_wp2_with fail
  refine (few_any p n _ _ _ _ hp hl).mono ?_
  rintro e w2 ⟨b, rfl, hb, rfl⟩
  obtain rfl : b = false := by cases b with | false => rfl | true => exact absurd (hb rfl) (by omega)
  clear hb
  go_wp2_with fail
  go_ret
  exact ⟨rfl, hb1⟩

set_option maxRecDepth 100000 in
set_option maxHeartbeats 4000000 in
theorem decodes_walk (w : World) (p : List UInt8) (n : Int) (va : Option Addr) (vc : Nat) (l : List Int) (hp : p.length ≤ 9223372036854775807) (hv : RdI w (.slice va l.length vc) l) (hl : l.length ≤ 20) :
    Calls Try.prog 8 #[.string (str p), .int .i64 n, .slice va l.length vc] w fun e w' => e = .returned (.bool true) ∧ Below w.heap.size w w' := by
  have hs := str_size p
  obtain ⟨F, hF⟩ : ∃ F, F = G.fill p n l := ⟨_, rfl⟩
  have HF := Lib.hid hF; clear hF
  obtain ⟨D, hD⟩ : ∃ D, D = G.decode p n l := ⟨_, rfl⟩
  have HD := Lib.hid hD; clear hD
  go_enter Try.func8, Try.ntmps8
  go_wp2_with fail
  refine (awake_any _).mono ?_
  rintro e w1 ⟨rfl, hb1⟩
  go_wp2_with fail
  refine (few_any p n _ _ _ _ hp (by omega)).mono ?_
  rintro e w2 ⟨b, rfl, hb, rfl⟩
  clear hb
  cases b with
  | false =>
    go_wp2_with fail
    go_ret
    exact ⟨rfl, hb1⟩
  | true =>
    have hv1 := hv.keep hb1
    have hs1 := hb1.size
    go_wp2_with fail
    refine (fill_any p n _ l _ hp hv1 (by omega)).mono ?_
    rintro e w2 ⟨rfl, hb2⟩
    rw [← HF.out]
    have hB2 := hb1.trans (hb2.mono hs1)
    have hv2 := hv.keep hB2
    have hs2 := hB2.size
    clear hb1 hb2 hv1 hs1
    go_wp2_with fail
    refine (rfill_any p n _ l _ hp hv2).mono ?_
    rintro e w3 ⟨rfl, hb3⟩
    rw [← HF.out]
    have hB3 := hB2.trans (hb3.mono hs2)
    have hv3 := hv.keep hB3
    have hs3 := hB3.size
    clear hB2 hb3 hv2 hs2
    go_wp2_with fail
    refine (decode_any p n _ l _ hp hv3 (by omega)).mono ?_
    rintro e w4 ⟨rfl, hb4⟩
    rw [← HD.out]
    have hB4 := hB3.trans (hb4.mono hs3)
    have hv4 := hv.keep hB4
    have hs4 := hB4.size
    clear hB3 hb4 hv3 hs3
    go_wp2_with fail
    refine (rdecode_any p n _ l _ hp hv4).mono ?_
    rintro e w5 ⟨rfl, hb5⟩
    rw [← HD.out]
    have hB5 := hB4.trans (hb5.mono hs4)
    clear hB4 hb5 hv4 hs4
    go_wp2_with fail
    go_ret
    exact ⟨rfl, hB5⟩

theorem decodes_law (w : World) (s : ByteArray) (hs : s.size ≤ maxLen) (n : Int) (wn : (Lit.int .i64 n).wf = true) (v : Value) (l : List Int) (hv : CameI w v l) :
    Calls Try.prog 8 #[.string s, .int .i64 n, v] w fun e w' => e = .returned (.bool true) ∧ Below w.heap.size w w' := by
  obtain ⟨hv1, hv2, a, c, rfl⟩ := hv
  have hd := str_data s hs
  rw [str_list s]
  by_cases h2 : l.length ≤ 20
  · exact decodes_walk w _ n a c l hd (hv1 (by omega)) h2
  · exact decodes_skip w _ n a c l hd hv2 (by omega)
end Go.Proofs.Ytbijdhdapejjhaa
