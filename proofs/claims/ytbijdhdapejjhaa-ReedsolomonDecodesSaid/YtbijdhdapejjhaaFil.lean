/- Walks of Fill and Decode of the package reedsolomon. -/
import Derived.Test.YtbijdhdapejjhaaChg
import Derived.Test.YtbijdhdapejjhaaAlg
namespace Go.Proofs.Ytbijdhdapejjhaa
open Go.RowKit
set_option linter.unusedVariables false


theorem fill_bad (p : List UInt8) (n : Int) (ve : Value) (l : List Int) (w : World) (hp : p.length ≤ 9223372036854775807) (hv : ∃ a l c, ve = .slice a l c) (h : G.shapedB p n = false) :
    Calls Try.prog 24 #[.string (str p), .int .i64 n, ve] w fun e w' => e = .returned (.tuple #[.string (str []), .int .i64 1]) ∧ Below w.heap.size w w' := by
  have H := Lib.hid h; clear h
  have hv0 := hv
  obtain ⟨a, m, c, rfl⟩ := hv
  go_enter Try.func24, Try.ntmps24
  go_wp2_with fail
  refine (start_bad p n _ _ hp H.out hv0).mono ?_
  rintro e w' ⟨rfl, rfl⟩
  go_wp2_with fail
  go_ret2
  exact ⟨rfl, Below.refl _ _⟩

theorem fill_pos (p : List UInt8) (n : Nat) (ve : Value) (l : List Int) (w : World) (h : G.shapedB p n = true) (hv : RdI w ve l) (hl : l.length ≤ 1073741824) (hp : G.posB p.length l = false) :
    Calls Try.prog 24 #[.string (str p), .int .i64 n, ve] w fun e w' => e = .returned (.tuple #[.string (str []), .int .i64 1]) ∧ Below w.heap.size w w' := by
  have H := Lib.hid h; clear h
  have HP := Lib.hid hp; clear hp
  have hv0 := hv
  obtain ⟨_, ⟨a, c, _, _, rfl, _, _⟩, _⟩ := hv
  go_enter Try.func24, Try.ntmps24
  go_wp2_with fail
  refine (start_pos p n _ l _ H.out hv0 hl HP.out).mono ?_
  rintro e w' ⟨rfl, hb⟩
  go_wp2_with fail
  go_ret2
  exact ⟨rfl, hb⟩

theorem fill_many (p : List UInt8) (n : Nat) (ve : Value) (l : List Int) (w : World) (h : G.shapedB p n = true) (hv : RdI w ve l) (hl : n < l.length) (hl2 : l.length ≤ 1073741824) (hp : G.posB p.length l = true) :
    Calls Try.prog 24 #[.string (str p), .int .i64 n, ve] w fun e w' => e = .returned (.tuple #[.string (str []), .int .i64 11]) ∧ Below w.heap.size w w' := by
  have H := Lib.hid h; clear h
  have HP := Lib.hid hp; clear hp
  have hv0 := hv
  obtain ⟨_, ⟨a, c, _, _, rfl, _, _⟩, _⟩ := hv
  go_enter Try.func24, Try.ntmps24
  go_wp2_with fail
  refine (start_many p n _ l _ H.out hv0 hl hl2 HP.out).mono ?_
  rintro e w' ⟨rfl, hb⟩
  go_wp2_with fail
  go_ret2
  exact ⟨rfl, hb⟩

def FillOut (p o : List UInt8) (n : Nat) (w : World) (e : Ending) (w' : World) : Prop :=
  e = .returned (.tuple (if G.validB o n = true then #[.string (str o), .int .i64 0] else #[.string (str []), .int .i64 11])) ∧ Below w.heap.size w w'

theorem fill_ok (p : List UInt8) (n : Nat) (ve : Value) (l : List Int) (w : World) (h : G.shapedB p n = true) (hv : RdI w ve l) (hl : l.length ≤ n) (hp : G.posB p.length l = true) :
    Calls Try.prog 24 #[.string (str p), .int .i64 n, ve] w (FillOut p (G.repair p (G.erasI p.length l l.length) (G.xi p n l)) n w) := by
  obtain ⟨h1, h2, h3, h4, h5⟩ := (G.shapedB_iff p n).1 h
  have H := Lib.hid h; clear h
  have HP := Lib.hid hp; clear hp
  have hv0 := hv
  obtain ⟨_, ⟨a, c, _, _, rfl, _, _⟩, _⟩ := hv
  have hel := G.erasI_length p.length l l.length
  have hgl : 1 ≤ (G.erasI p.length l l.length).length := by omega
  obtain ⟨gm, hgm⟩ : ∃ gm, gm = G.erasI p.length l l.length := ⟨_, rfl⟩
  obtain ⟨xi, hxi⟩ : ∃ xi, xi = G.xi p n l := ⟨_, rfl⟩
  rw [← hgm] at hgl ⊢
  rw [← hxi]
  have HG := Lib.hid hgm; clear hgm
  have HX := Lib.hid hxi; clear hxi
  clear hel
  have hol := G.repair_length p gm xi
  obtain ⟨o, ho⟩ : ∃ o, o = G.repair p gm xi := ⟨_, rfl⟩
  rw [← ho] at hol ⊢
  have hol' : o.length ≤ 9223372036854775807 := by omega
  clear hol
  have HO := Lib.hid ho; clear ho
  go_enter Try.func24, Try.ntmps24
  go_wp2_with fail
  refine (start_ok p n _ l _ H.out hv0 hl HP.out).mono ?_
  rintro e w1 ⟨vg, ad, cap, rfl, hrg, hrx, hb1⟩
  rw [← HG.out] at hrg
  rw [← HX.out] at hrx
  go_wp2_with fail
  refine (repair_any p gm xi _ _ _ (by omega) hrg hrx hgl).mono ?_
  rintro e w2 ⟨rfl, hb2⟩
  rw [← HO.out]
  have hB2 := hb1.trans (hb2.mono hb1.size)
  clear hrg hrx hb1 hb2
  go_wp2_with fail
  refine (valid_any o n _ hol').mono ?_
  rintro e w3 ⟨rfl, hb3⟩
  have hB3 := hB2.trans (hb3.mono hB2.size)
  clear hB2 hb3
  cases hvb : G.validB o n with
  | true =>
    have HV := Lib.hid hvb; clear hvb
    go_wp2_with fail
    go_ret2
    exact ⟨by rw [HV.out]; rfl, hB3⟩
  | false =>
    have HV := Lib.hid hvb; clear hvb
    go_wp2_with fail
    go_ret2
    exact ⟨by rw [HV.out]; rfl, hB3⟩

theorem fill_any (p : List UInt8) (n : Int) (ve : Value) (l : List Int) (w : World) (hp : p.length ≤ 9223372036854775807) (hv : RdI w ve l) (hl : l.length ≤ 1073741824) :
    Calls Try.prog 24 #[.string (str p), .int .i64 n, ve] w fun e w' => e = .returned (.tuple #[.string (str (G.fill p n l).1), .int .i64 (G.fill p n l).2]) ∧ Below w.heap.size w w' := by
  unfold G.fill
  cases h : G.shapedB p n with
  | false =>
    refine (fill_bad p n ve l w hp ?_ h).mono fun e w' hh => by simpa using hh
    obtain ⟨_, ⟨a, c, _, _, rfl, _, _⟩, _⟩ := hv
    exact ⟨_, _, _, rfl⟩
  | true =>
    obtain ⟨h1, h2, h3, h4, h5⟩ := (G.shapedB_iff p n).1 h
    obtain ⟨m, rfl⟩ : ∃ m : Nat, n = m := ⟨n.toNat, by omega⟩
    cases hq : G.posB p.length l with
    | false => exact (fill_pos p m ve l w h hv hl hq).mono fun e w' hh => by simpa using hh
    | true =>
      by_cases hlm : m < l.length
      · exact (fill_many p m ve l w h hv hlm hl hq).mono fun e w' hh => by simpa [hlm] using hh
      · refine (fill_ok p m ve l w h hv (by omega) hq).mono fun e w' hh => ?_
        obtain ⟨rfl, hb⟩ := hh
        refine ⟨?_, hb⟩
        have hlm' : ¬ ((m : Int) < (l.length : Int)) := by omega
        simp only [Int.toNat_natCast, hlm', if_false, Bool.true_eq_false]
        split <;> rfl
end Go.Proofs.Ytbijdhdapejjhaa
