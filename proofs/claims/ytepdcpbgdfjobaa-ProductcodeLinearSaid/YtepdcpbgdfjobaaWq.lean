/- Chapter 8: Valid and Encode of the reference walked. -/
import Derived.IntWalk
import Derived.Deep.Cut
import Derived.Test.YtepdcpbgdfjobaaWr
import Derived.Test.YtepdcpbgdfjobaaInr
import Derived.Test.YtepdcpbgdfjobaaRef4
namespace Go.Proofs.Ytepdcpbgdfjobaa.W8
open Go.RowKit Go.Shelf
set_option linter.unusedVariables false

theorem Try.sizeLI : (Try.prog.info? 24).map (·.size) = some 1 := by kernel_rfl
def rvl7V (raw : List UInt8) (m f : Int) (gw cw k g1 n c1 : Nat) (S : ByteArray) (b : Bool) (i : Nat) (v : Value) (W : World) : Prop := match i with
  | 0 => v = .string (str raw)
  | 1 => ∃ g c, v = .slice (some ⟨g, 0, none⟩) 2352 c ∧ Rd W (.slice (some ⟨g, 0, none⟩) 2352 c) raw
  | 2 => v = .slice (some ⟨gw, 0, none⟩) 138 cw
  | 3 => v = .int .i64 (k : Int)
  | 4 => v = .pointer (some ⟨gw, k, none⟩)
  | 5 => v = .slice (some ⟨g1, 0, none⟩) n c1
  | 6 => v = .int .i64 m
  | 7 => v = .int .i64 f
  | 8 => v = .string S
  | 9 => v = .bool b
  | 10 => v = .bool (!b)
  | _ => True
theorem rvl7V_keep (raw : List UInt8) (m f : Int) (gw cw k g1 n c1 : Nat) (S : ByteArray) (b : Bool) (i : Nat) (v : Value) (W W' : World) (hR : (fun w W => Below w.heap.size w W) W W') (h : rvl7V raw m f gw cw k g1 n c1 S b i v W) : rvl7V raw m f gw cw k g1 n c1 S b i v W' := by
  by_cases h1 : i = 1
  · subst h1
    obtain ⟨g, c, h1, h2⟩ := h
    exact ⟨g, c, h1, h2.keep hR⟩
  unfold rvl7V at h ⊢
  split at h <;> first | exact h | exact absurd rfl h1

set_option maxRecDepth 100000 in
set_option maxHeartbeats 8000000 in
theorem rvalid8_any (raw : List UInt8) (m : Int) (w : World) (hl : raw.length ≤ 9223372036854775807) :
    Calls Try.prog 20 #[.string (str raw), .int .i64 m] w fun e w' => e = .returned (.bool (vldB raw m)) ∧ Below w.heap.size w w' := by
  have HF := Lib.hid (fun W => rfits_any raw m W hl)
  cases hf : fitB raw m with
  | false =>
    have e1 : vldB raw m = false := by
      unfold fitB at hf
      unfold vldB
      cases h1 : fstB m <;> simp_all
    rw [e1]
    rw [hf] at HF
    clear e1 hf hl
    go_enter Try.func20, Try.ntmps20
    go_wp2_with (refine (HF.out _).mono ?_; rintro e w' ⟨rfl, rfl⟩)
    go_ret
    exact ⟨rfl, Below.refl _ _⟩
  | true =>
    have h2 : raw.length = 2352 ∧ fstB m = true := by simpa [fitB] using hf
    have e1 : vldB raw m = soundB raw (rfst m) := by rw [rfst_eq h2.2]; simp [vldB, h2.1, h2.2]
    rw [e1]
    rw [hf] at HF
    have HL := Lib.hid h2.1
    have HFi : Hid (∀ W, Calls Try.prog 22 #[.int .i64 m] W fun e W' => e = .returned (.int .i64 (rfst m)) ∧ Below W.heap.size W W') := Lib.hid fun W => (rfirst_any m W).mono fun e w' ⟨a, b⟩ => ⟨a, b ▸ Below.refl _ _⟩
    generalize rfst m = f at *
    clear e1 hf h2 hl
    go_enter Try.func20, Try.ntmps20
    go_wp2_with (refine (HF.out _).mono ?_; rintro e w' ⟨rfl, rfl⟩)
    refine (rwords_any _).mono ?_
    rintro e w1 ⟨v, vs, rfl, ho1, hl1, hb1⟩
    obtain ⟨gw, cw, rfl, _, _⟩ := ownD_addr ho1 (by omega)
    go_wp2_with fail
    go_loopw [6] (fun vk wr => ∃ k : Nat, k ≤ 138 ∧ vk = .int .i64 k ∧ soundN raw f k = true ∧ wr.ownsRow w.heap.size 24 1 (.slice (some ⟨gw, 0, none⟩) 138 cw) 138 vs ∧ Lst w.heap.size wr vs 138 ∧ Below w.heap.size w wr) (fun vk _ => 138 - (intOf vk).toNat)
    case atStart => exact ⟨0, by omega, rfl, rfl, ho1, hl1, hb1⟩
    case round =>
      clear ho1 hl1 hb1
      obtain ⟨k, hk, rfl, hsn, ho, hl, hb⟩ := hrel
      by_cases hlt : k < 138
      · have hlt' : (k : Int) < 138 := by omega
        have hwb := wd_bd (show k < 138 from hlt)
        have hwl := wd_length k
        have hlen : (wd k).length ≤ 45 := by rw [hwl]; split <;> omega
        have hlen2 : 26 ≤ (wd k).length := by rw [hwl]; split <;> omega
        obtain ⟨vk, hvk⟩ : ∃ vk, vs[k]? = some vk := ⟨vs[k]'(by rw [hl.1]; exact hlt), List.getElem?_eq_getElem (by rw [hl.1]; exact hlt)⟩
        have hown := hl.2 k vk hvk
        obtain ⟨g1, c1, rfl, hce⟩ := own_int hown (by omega)
        have hcw : wr.cell? ⟨gw, k, none⟩ = some (.slice (some ⟨g1, 0, none⟩) (wd k).length c1) := by rw [ho.cellAt k (by have := ho.1; omega)]; exact hvk
        have hri := rdI_own (w := wr) hown rfl (by omega) (fun x hx => by have := hwb x hx; omega)
        have hix : ∀ w', (Instr.indexAt 63 (.slice (some ⟨gw, 0, none⟩) 138 cw) (.int .i64 (k : Int))).run Try.prog w' = .ok (.pointer (some ⟨gw, k, none⟩)) w' := fun w' => by
          have := run_idx (P := Try.prog) (t := 63) (e := 24) (cap := cw) (off := 0) (b := gw) Try.underlying63 Try.sizeLI rfl hlt _ rfl w'
          rwa [Nat.zero_add] at this
        have HIX := Lib.hid hix
        have HSy : Hid (∀ W, Below wr.heap.size wr W → ∀ rv, Rd W rv raw → Calls Try.prog 41 #[rv, .slice (some ⟨g1, 0, none⟩) (wd k).length c1, .int .i64 f] W fun e W' => e = .returned (.string (str (takeL raw (wd k) f))) ∧ Below W.heap.size W W') := Lib.hid fun W hW rv hrv =>
          rsymbols_any rv raw _ (wd k) f W hrv (hri.keep hW) (by omega) (fun x hx => by have := hwb x hx; have := HL.out; omega)
        have HV := Lib.hid (fun W => rvalid_any (takeL raw (wd k) f) 2 W (by rw [takeL_length]; omega))
        have hS : soundN raw f (k + 1) = (soundN raw f k && G.validB (takeL raw (wd k) f) 2) := rfl
        rw [hsn, Bool.true_and] at hS
        have hF : G.validB (takeL raw (wd k) f) 2 = false → soundB raw f = false := fun h => soundN_false h 138 hlt
        generalize G.validB (takeL raw (wd k) f) 2 = b at *
        generalize (wd k).length = n at *
        generalize str (takeL raw (wd k) f) = S at *
        have HS := Lib.hid hS
        have HFF := Lib.hid hF
        have HC := Lib.hid hcw
        have HLT : Hid ((⟨gw, k, none⟩ : Addr).block < wr.heap.size) := Lib.hid (World.block_lt_of_cell? wr _ hcw)
        have HO := Lib.hid ho; have HLs := Lib.hid hl; have HB := Lib.hid hb
        clear hS hF hsn hwb hwl hown hce hri hix ho hl hb hvk hcw
        go_wp2_with fail
        refine wp_region_inr (by kernel_rfl) (fun w W => Below w.heap.size w W) (fun W => Below wr.heap.size wr W) (rvl7V raw m f gw cw k g1 n c1 S b) (fun _ => false) (by kernel_rfl) (fun W W' hb h => h.trans (hb.mono h.size)) (rvl7V_keep raw m f gw cw k g1 n c1 S b) ((Below.refl _ _).drew) ⟨?_, ?_, ?_, ?_, ?_, ?_, ?_, ?_, ?_, ?_, ?_, trivial⟩ ?_
        · intro a W hc hsz hold hdep
          have o0 : a.tmps.getD 0 undef = .string (str raw) := hold 0 (by kernel_rfl)
          clear hsz hold hdep
          refine stepR_do rfl (wanted_none rfl) ?_
          refine stepR_val (v := .string (str raw)) (Below.refl _ _) rfl fun K hK => ?_
          go_simp
          exact hK
        · intro a W hc hsz hold hdep
          have d0 : a.tmps.getD 18 undef = .string (str raw) := hdep 0 (by kernel_rfl) rfl _ rfl
          clear hsz hold hdep
          refine stepR_do rfl (wanted_none rfl) ?_
          obtain ⟨w9, c9, hrun, hr9, hb9, hc9⟩ := run_bytes (P := Try.prog) W Try.underlying9 Try.underlying43 Try.underlying5 raw 2352 HL.out
          have hrd9 := hr9.rd (by have := HL.out; omega)
          rw [HL.out] at hrd9
          clear hr9 hc9
          refine stepR_new (v := .slice (some ⟨W.heap.size, 0, none⟩) 2352 c9) hb9 ⟨_, _, rfl, hrd9⟩ fun K hK => ?_
          go_simp
          exact hK
        · intro a W hc hsz hold hdep
          have o5 : a.tmps.getD 5 undef = .slice (some ⟨gw, 0, none⟩) 138 cw := hold 5 (by kernel_rfl)
          clear hsz hold hdep
          refine stepR_do rfl (wanted_none rfl) ?_
          refine stepR_val (v := .slice (some ⟨gw, 0, none⟩) 138 cw) (Below.refl _ _) rfl fun K hK => ?_
          go_simp
          exact hK
        · intro a W hc hsz hold hdep
          have o6 : a.tmps.getD 6 undef = .int .i64 (k : Int) := hold 6 (by kernel_rfl)
          clear hsz hold hdep
          refine stepR_do rfl (wanted_none rfl) ?_
          refine stepR_val (v := .int .i64 (k : Int)) (Below.refl _ _) rfl fun K hK => ?_
          go_simp
          exact hK
        · intro a W hc hsz hold hdep
          have d2 : a.tmps.getD 20 undef = .slice (some ⟨gw, 0, none⟩) 138 cw := hdep 2 (by kernel_rfl) rfl _ rfl
          have d3 : a.tmps.getD 21 undef = .int .i64 (k : Int) := hdep 3 (by kernel_rfl) rfl _ rfl
          have hix := HIX.out
          clear hsz hold hdep
          refine stepR_do rfl (wanted_none rfl) ?_
          refine stepR_val (v := .pointer (some ⟨gw, k, none⟩)) (Below.refl _ _) rfl fun K hK => ?_
          go_simp
          exact hK
        · intro a W hc hsz hold hdep
          have d4 : a.tmps.getD 22 undef = .pointer (some ⟨gw, k, none⟩) := hdep 4 (by kernel_rfl) rfl _ rfl
          have q := (hc.cell (p := ⟨gw, k, none⟩) HLT.out).trans HC.out
          clear hsz hold hdep
          refine stepR_do rfl (wanted_none rfl) ?_
          refine stepR_val (v := .slice (some ⟨g1, 0, none⟩) n c1) (Below.refl _ _) rfl fun K hK => ?_
          go_simp
          exact hK
        · intro a W hc hsz hold hdep
          have o1 : a.tmps.getD 1 undef = .int .i64 m := hold 1 (by kernel_rfl)
          clear hsz hold hdep
          refine stepR_do rfl (wanted_none rfl) ?_
          refine stepR_val (v := .int .i64 m) (Below.refl _ _) rfl fun K hK => ?_
          go_simp
          exact hK
        · intro a W hc hsz hold hdep
          have d6 : a.tmps.getD 24 undef = .int .i64 m := hdep 6 (by kernel_rfl) rfl _ rfl
          have e6 : a.tmps[24]?.getD undef = .int .i64 m := by rw [← Array.getD_eq_getD_getElem?]; exact d6
          clear hsz hold hdep
          refine stepR_do rfl (wanted_none rfl) ?_
          refine stepR_call (v := .int .i64 f) (fun W' hb => hb) (fun _ => rfl) fun K hK => ?_
          go_simp
          refine (HFi.out W).mono ?_
          rintro e w' ⟨rfl, hb'⟩
          exact hK _ hb'
        · intro a W hc hsz hold hdep
          have x1 := hdep 1 (by kernel_rfl) rfl _ rfl
          have d5 : a.tmps.getD 23 undef = .slice (some ⟨g1, 0, none⟩) n c1 := hdep 5 (by kernel_rfl) rfl _ rfl
          have e5 : a.tmps[23]?.getD undef = .slice (some ⟨g1, 0, none⟩) n c1 := by rw [← Array.getD_eq_getD_getElem?]; exact d5
          have d7 : a.tmps.getD 25 undef = .int .i64 f := hdep 7 (by kernel_rfl) rfl _ rfl
          have e7 : a.tmps[25]?.getD undef = .int .i64 f := by rw [← Array.getD_eq_getD_getElem?]; exact d7
          clear hsz hold hdep
          refine stepR_do rfl (wanted_none rfl) ?_
          obtain ⟨g9, c9, d1, hrd⟩ : ∃ g c, a.tmps.getD 19 undef = .slice (some ⟨g, 0, none⟩) 2352 c ∧ Rd W (.slice (some ⟨g, 0, none⟩) 2352 c) raw := x1
          have e1 : a.tmps[19]?.getD undef = .slice (some ⟨g9, 0, none⟩) 2352 c9 := by rw [← Array.getD_eq_getD_getElem?]; exact d1
          refine stepR_call (v := .string S) (fun W' hb => hb) (fun _ => rfl) fun K hK => ?_
          go_simp
          refine (HSy.out W hc _ hrd).mono ?_
          rintro e w' ⟨rfl, hb'⟩
          exact hK _ hb'
        · intro a W hc hsz hold hdep
          have d8 : a.tmps.getD 26 undef = .string S := hdep 8 (by kernel_rfl) rfl _ rfl
          have e8 : a.tmps[26]?.getD undef = .string S := by rw [← Array.getD_eq_getD_getElem?]; exact d8
          clear hsz hold hdep
          refine stepR_do rfl (wanted_none rfl) ?_
          refine stepR_call (v := .bool b) (fun W' hb => hb) (fun _ => rfl) fun K hK => ?_
          go_simp
          refine (HV.out W).mono ?_
          rintro e w' ⟨rfl, hb'⟩
          exact hK _ hb'
        · intro a W hc hsz hold hdep
          have d9 : a.tmps.getD 27 undef = .bool b := hdep 9 (by kernel_rfl) rfl _ rfl
          clear hsz hold hdep
          refine stepR_do rfl (wanted_none rfl) ?_
          refine stepR_val (v := .bool (!b)) (Below.refl _ _) rfl fun K hK => ?_
          go_simp
          exact hK
        · intro a W hC hd hsz hold hval
          have d28 : a.tmps.getD 28 undef = .bool (!b) := hval 10 _ rfl rfl
          have d5 : a.tmps.getD 5 undef = .slice (some ⟨gw, 0, none⟩) 138 cw := hold 5 (by kernel_rfl)
          have d6 : a.tmps.getD 6 undef = .int .i64 (k : Int) := hold 6 (by kernel_rfl)
          have d0 : a.tmps.getD 0 undef = .string (str raw) := hold 0 (by kernel_rfl)
          have d1 : a.tmps.getD 1 undef = .int .i64 m := hold 1 (by kernel_rfl)
          have d2 : a.tmps.getD 2 undef = undef := hold 2 (by kernel_rfl)
          have d3 : a.tmps.getD 3 undef = undef := hold 3 (by kernel_rfl)
          have d7 : a.tmps.getD 7 undef = .string (str raw) := hold 7 (by kernel_rfl)
          have d8 : a.tmps.getD 8 undef = .int .i64 m := hold 8 (by kernel_rfl)
          have d9 : a.tmps.getD 9 undef = .bool true := hold 9 (by kernel_rfl)
          have d10 : a.tmps.getD 10 undef = .bool false := hold 10 (by kernel_rfl)
          have d11 : a.tmps.getD 11 undef = .slice (some ⟨gw, 0, none⟩) 138 cw := hold 11 (by kernel_rfl)
          clear hold
          obtain ⟨tm, df⟩ := a
          replace hd : df = [] := hd
          replace hsz : tm.size = 29 := hsz
          replace d28 : tm.getD 28 undef = .bool (!b) := d28
          replace d5 : tm.getD 5 undef = .slice (some ⟨gw, 0, none⟩) 138 cw := d5
          replace d6 : tm.getD 6 undef = .int .i64 (k : Int) := d6
          replace d0 : tm.getD 0 undef = .string (str raw) := d0
          replace d1 : tm.getD 1 undef = .int .i64 m := d1
          replace d2 : tm.getD 2 undef = undef := d2
          replace d3 : tm.getD 3 undef = undef := d3
          replace d7 : tm.getD 7 undef = .string (str raw) := d7
          replace d8 : tm.getD 8 undef = .int .i64 m := d8
          replace d9 : tm.getD 9 undef = .bool true := d9
          replace d10 : tm.getD 10 undef = .bool false := d10
          replace d11 : tm.getD 11 undef = .slice (some ⟨gw, 0, none⟩) 138 cw := d11
          subst hd
          have e : tm = #[tm.getD 0 undef, tm.getD 1 undef, tm.getD 2 undef, tm.getD 3 undef, tm.getD 4 undef, tm.getD 5 undef, tm.getD 6 undef, tm.getD 7 undef, tm.getD 8 undef, tm.getD 9 undef, tm.getD 10 undef, tm.getD 11 undef, tm.getD 12 undef, tm.getD 13 undef, tm.getD 14 undef, tm.getD 15 undef, tm.getD 16 undef, tm.getD 17 undef, tm.getD 18 undef, tm.getD 19 undef, tm.getD 20 undef, tm.getD 21 undef, tm.getD 22 undef, tm.getD 23 undef, tm.getD 24 undef, tm.getD 25 undef, tm.getD 26 undef, tm.getD 27 undef, tm.getD 28 undef] := arr_eq tm 29 hsz
          rw [d28, d5, d6, d0, d1, d2, d3, d7, d8, d9, d10, d11] at e
          clear d28 d5 d6 d0 d1 d2 d3 d7 d8 d9 d10 d11 hsz
          generalize tm.getD 4 undef = v4 at e
          generalize tm.getD 12 undef = v12 at e
          generalize tm.getD 13 undef = v13 at e
          generalize tm.getD 14 undef = v14 at e
          generalize tm.getD 15 undef = v15 at e
          generalize tm.getD 16 undef = v16 at e
          generalize tm.getD 17 undef = v17 at e
          generalize tm.getD 18 undef = v18 at e
          generalize tm.getD 19 undef = v19 at e
          generalize tm.getD 20 undef = v20 at e
          generalize tm.getD 21 undef = v21 at e
          generalize tm.getD 22 undef = v22 at e
          generalize tm.getD 23 undef = v23 at e
          generalize tm.getD 24 undef = v24 at e
          generalize tm.getD 25 undef = v25 at e
          generalize tm.getD 26 undef = v26 at e
          generalize tm.getD 27 undef = v27 at e
          subst e
          have hB := HB.out.trans (hC.mono HB.out.size)
          have ho2 := own_keep' HO.out hC
          have hl2 := HLs.out.keep hC
          clear hval hC
          cases b with
          | false =>
            have HX := Lib.hid (HFF.out rfl)
            clear HFF
            go_wp2_with fail
            go_ret
            exact ⟨by rw [HX.out]; rfl, hB⟩
          | true =>
            go_wp2_with fail
            go_roundw
            case rel => exact ⟨k + 1, by omega, by go_num, HS.out, ho2, hl2, hB⟩
            case measure => simp [intOf]; omega
      · obtain rfl : k = 138 := by omega
        have HSN : Hid (soundB raw f = true) := Lib.hid hsn
        clear hsn
        go_wp2_with fail
        go_ret
        exact ⟨by rw [HSN.out]; rfl, hb⟩
/-- the encoding of any sector -/
def enc8 (raw : List UInt8) (m : Int) : List UInt8 × Int := if fitB raw m = true then (encN raw (fstI m) 138, 0) else ([], 1)
def renc9V (m f : Int) (g cap n g1 c1 : Nat) (v2 : Value) (S S2 : ByteArray) (i : Nat) (v : Value) (W : World) : Prop := match i with
  | 0 => v = .slice (some ⟨g, 0, none⟩) 2352 cap
  | 1 => v = .slice (some ⟨g1, 0, none⟩) n c1
  | 2 => v = .slice (some ⟨g1, 0, none⟩) n c1
  | 3 => v = .int .i64 (n : Int)
  | 4 => v = .int .i64 ((n : Int) - 2)
  | 5 => v = v2
  | 6 => v = .int .i64 m
  | 7 => v = .int .i64 f
  | 8 => v = .string S
  | 9 => v = .tuple #[.string S2, .int .i64 0]
  | 10 => v = .tuple #[.string S2, .int .i64 0]
  | 11 => v = .string S2
  | 12 => v = .int .i64 0
  | 13 => v = .string S2
  | 14 => v = .int .i64 0
  | _ => True
theorem renc9V_keep (m f : Int) (g cap n g1 c1 : Nat) (v2 : Value) (S S2 : ByteArray) (i : Nat) (v : Value) (W W' : World) (hR : (fun w W => Below w.heap.size w W) W W') (h : renc9V m f g cap n g1 c1 v2 S S2 i v W) : renc9V m f g cap n g1 c1 v2 S S2 i v W' := by
  unfold renc9V at h ⊢
  split at h <;> first | exact h

theorem grow_drew {w W : World} {r : Option Nat} (h : w.grownBy W r) : w.grownBy W.drew r := ⟨h.1, h.2, h.3, h.4, h.5⟩
set_option maxRecDepth 100000 in
set_option maxHeartbeats 8000000 in
theorem rencode8_any (raw : List UInt8) (m : Int) (w : World) (hl : raw.length ≤ 9223372036854775807) :
    Calls Try.prog 18 #[.string (str raw), .int .i64 m] w fun e w' => e = .returned (.tuple #[.string (str (enc8 raw m).1), .int .i64 (enc8 raw m).2]) ∧ Below w.heap.size w w' := by
  have HF := Lib.hid (fun W => rfits_any raw m W hl)
  cases hf : fitB raw m with
  | false =>
    have e1 : enc8 raw m = ([], 1) := by unfold enc8; rw [hf]; rfl
    rw [e1]
    rw [hf] at HF
    clear e1 hf hl
    go_enter Try.func18, Try.ntmps18
    go_wp2_with (refine (HF.out _).mono ?_; rintro e w' ⟨rfl, rfl⟩)
    go_ret2
    exact ⟨rfl, Below.refl _ _⟩
  | true =>
    have h2 : raw.length = 2352 ∧ fstB m = true := by simpa [fitB] using hf
    have e1 : enc8 raw m = (encN raw (fstI m) 138, 0) := by unfold enc8; rw [hf]; rfl
    rw [e1, ← rfst_eq h2.2]
    rw [hf] at HF
    have hf16 : rfst m ≤ 16 := by unfold rfst; split <;> omega
    have HL := Lib.hid h2.1
    have HFi : Hid (∀ W, Calls Try.prog 22 #[.int .i64 m] W fun e W' => e = .returned (.int .i64 (rfst m)) ∧ Below W.heap.size W W') := Lib.hid fun W => (rfirst_any m W).mono fun e w' ⟨a, b⟩ => ⟨a, b ▸ Below.refl _ _⟩
    generalize rfst m = f at *
    obtain ⟨w2, cap, hrun, hr2, hb2, hcap⟩ := run_bytes (P := Try.prog) w Try.underlying9 Try.underlying43 Try.underlying5 raw 2352 h2.1
    clear e1 hf h2 hl
    obtain ⟨g, hg⟩ : ∃ g, g = w.heap.size := ⟨_, rfl⟩
    rw [← hg] at hrun hr2
    go_enter Try.func18, Try.ntmps18
    have HG := Lib.hid hg
    clear hg
    go_wp2_with (refine (HF.out _).mono ?_; rintro e w' ⟨rfl, rfl⟩)
    clear hrun
    refine (rwords_any _).mono ?_
    rintro e w1 ⟨v, vs, rfl, ho1, hl1, hb1⟩
    obtain ⟨gw, cw, rfl, hgw, _⟩ := ownD_addr ho1 (by omega)
    have hr1 := hr2.below hb1
    have hgl := hr2.lt
    have hB1 := hb2.trans (hb1.mono hb2.size)
    have ho1 := own_mono ho1 (show g + 1 ≤ w2.heap.size by omega)
    have hl1 : Lst (g + 1) w1 vs 138 := ⟨hl1.1, fun j v hv => own_mono (hl1.2 j v hv) (by omega)⟩
    clear hr2 hb1 hb2 hgw hgl hcap
    go_wp2_with fail
    go_loopw [8] (fun vk wr => ∃ k : Nat, k ≤ 138 ∧ vk = .int .i64 k ∧ Row wr 5 g cap (encN raw f k) ∧ wr.ownsRow (g + 1) 24 1 (.slice (some ⟨gw, 0, none⟩) 138 cw) 138 vs ∧ Lst (g + 1) wr vs 138 ∧ Below w.heap.size w wr) (fun vk _ => 138 - (intOf vk).toNat)
    case atStart => exact ⟨0, by omega, rfl, hr1, ho1, hl1, hB1⟩
    case round =>
      clear ho1 hl1 hB1 hr1
      obtain ⟨k, hk, rfl, hrow, ho, hl, hb⟩ := hrel
      by_cases hlt : k < 138
      · have hlt' : (k : Int) < 138 := by omega
        have hwb := wd_bd (show k < 138 from hlt)
        have hwl := wd_length k
        have hlen : (wd k).length ≤ 45 := by rw [hwl]; split <;> omega
        have hlen2 : 26 ≤ (wd k).length := by rw [hwl]; split <;> omega
        obtain ⟨vk, hvk⟩ : ∃ vk, vs[k]? = some vk := ⟨vs[k]'(by rw [hl.1]; exact hlt), List.getElem?_eq_getElem (by rw [hl.1]; exact hlt)⟩
        have hown := hl.2 k vk hvk
        obtain ⟨g1, c1, rfl, hce⟩ := own_int hown (by omega)
        have hcw : wr.cell? ⟨gw, k, none⟩ = some (.slice (some ⟨g1, 0, none⟩) (wd k).length c1) := by rw [ho.cellAt k (by have := ho.1; omega)]; exact hvk
        have hri := rdI_own (w := wr) hown rfl (by omega) (fun x hx => by have := hwb x hx; omega)
        have hix : ∀ w', (Instr.indexAt 63 (.slice (some ⟨gw, 0, none⟩) 138 cw) (.int .i64 (k : Int))).run Try.prog w' = .ok (.pointer (some ⟨gw, k, none⟩)) w' := fun w' => by
          have := run_idx (P := Try.prog) (t := 63) (e := 24) (cap := cw) (off := 0) (b := gw) Try.underlying63 Try.sizeLI rfl hlt _ rfl w'
          rwa [Nat.zero_add] at this
        have HIX := Lib.hid hix
        have hel := encN_length raw f k
        rw [HL.out] at hel
        have hes : encN raw f (k + 1) = stepW (encN raw f k) (wd k) f := rfl
        generalize encN raw f k = R at *
        generalize hws : wd k = ws at *
        have hcl := cwd_length R ws f (by omega)
        obtain ⟨v2, hv2, hcut⟩ := run_cutI (P := Try.prog) Try.underlying24 Try.sizeInt hri (ws.length - 2) (by omega)
        have hrd := hrow.rd (by omega)
        rw [hel] at hrd
        have HT : Hid (∀ W, Below wr.heap.size wr W → Calls Try.prog 41 #[.slice (some ⟨g, 0, none⟩) 2352 cap, v2, .int .i64 f] W fun e W' => e = .returned (.string (str (takeL R (ws.take (ws.length - 2)) f))) ∧ Below W.heap.size W W') := Lib.hid fun W hW =>
          rsymbols_any _ R v2 _ f W (hrd.keep hW) (hv2 W (hri.keep hW)) (by rw [List.length_take]; omega) (fun x hx => by have := hwb x (List.mem_of_mem_take hx); rw [hel]; omega)
        have HE : Hid (∀ W, Calls Try.prog 40 #[.string (str (takeL R (ws.take (ws.length - 2)) f)), .int .i64 2] W fun e W' => e = .returned (.tuple #[.string (str (cwd R ws f)), .int .i64 0]) ∧ Below W.heap.size W W') := Lib.hid fun W =>
          rencode_ok _ 2 W (fun e => by have := congrArg List.length e; rw [takeL_length, List.length_take] at this; simp at this; omega) (by omega) (by omega) (by rw [takeL_length, List.length_take]; omega)
        have hb1 := hwb _ (ixI_mem (show ws.length - 2 < ws.length by omega))
        have hb2 := hwb _ (ixI_mem (show ws.length - 1 < ws.length by omega))
        obtain ⟨x, hx⟩ : ∃ x : Nat, ixI ws (ws.length - 2) = x := ⟨(ixI ws (ws.length - 2)).toNat, by omega⟩
        obtain ⟨y, hy⟩ : ∃ y : Nat, ixI ws (ws.length - 1) = y := ⟨(ixI ws (ws.length - 1)).toNat, by omega⟩
        have hcx := hce (ws.length - 2) (by omega)
        have hcy := hce (ws.length - 1) (by omega)
        unfold stepW at hes
        rw [hx, hy, Int.toNat_natCast, Int.toNat_natCast] at hes
        rw [hx] at hcx hb1
        rw [hy] at hcy hb2
        have hcut' : ∀ w', (Instr.slice 24 (.slice (some ⟨g1, 0, none⟩) ws.length c1) none (some (.int .i64 ((ws.length : Int) - 2))) none).run Try.prog w' = .ok v2 w' := fun w' => hcut _ w' (by omega)
        have HCut := Lib.hid hcut'
        obtain ⟨n, hn⟩ : ∃ n, n = ws.length := ⟨_, rfl⟩
        rw [← hn] at HT HE HCut hes hcl hcx hcy hcw hown hlen hlen2
        have HN26 : Hid ((26 : Int) ≤ n ∧ (n : Int) ≤ 45) := Lib.hid (by omega)
        generalize str (takeL R (ws.take (n - 2)) f) = S at HT HE
        have hgne : g1 ≠ g := by
          rcases hown.2 with ⟨h0, _⟩ | ⟨b, cap', cur, h1, h2, h3, h4⟩
          · simp at h0
          · simp only [Value.slice.injEq, Option.some.injEq, Addr.mk.injEq, and_true, true_and] at h1
            omega
        have HC := Lib.hid hcw; have HCX := Lib.hid hcx; have HCY := Lib.hid hcy
        have HCL := Lib.hid hcl; have HES := Lib.hid hes; have HROW := Lib.hid hrow; have HEL := Lib.hid hel
        have HO := Lib.hid ho; have HLs := Lib.hid hl; have HB := Lib.hid hb; have HNE := Lib.hid hgne
        have hxb : x < 2352 := by omega
        have hyb : y < 2352 := by omega
        have HXY := Lib.hid (And.intro hxb hyb)
        clear hn hws hcut hcut' hv2 hrd hri hce hown hwb hwl hlen hlen2 hvk hcx hcy hcl hes hrow hel ho hl hb hgne hb1 hb2 hx hy hxb hyb
        have hix := HIX.out
        have hcw := HC.out
        go_wp2_with fail
        clear hix hcw
        refine wp_region_inr (by kernel_rfl) (fun w W => Below w.heap.size w W) (fun W => Below wr.heap.size wr W) (renc9V m f g cap n g1 c1 v2 S (str (cwd R ws f))) (fun _ => false) (by kernel_rfl) (fun W W' hb h => h.trans (hb.mono h.size)) (renc9V_keep m f g cap n g1 c1 v2 S (str (cwd R ws f))) ((Below.refl _ _).drew) ⟨?_, ?_, ?_, ?_, ?_, ?_, ?_, ?_, ?_, ?_, ?_, ?_, ?_, ?_, ?_, trivial⟩ ?_
        · intro a W hc hsz hold hdep
          have o6 : a.tmps.getD 6 undef = .slice (some ⟨g, 0, none⟩) 2352 cap := hold 6 (by kernel_rfl)
          clear hsz hold hdep
          refine stepR_do rfl (wanted_none rfl) ?_
          refine stepR_val (v := .slice (some ⟨g, 0, none⟩) 2352 cap) (Below.refl _ _) rfl fun K hK => ?_
          go_simp
          exact hK
        · intro a W hc hsz hold hdep
          have o9 : a.tmps.getD 9 undef = .slice (some ⟨g1, 0, none⟩) n c1 := hold 9 (by kernel_rfl)
          clear hsz hold hdep
          refine stepR_do rfl (wanted_none rfl) ?_
          refine stepR_val (v := .slice (some ⟨g1, 0, none⟩) n c1) (Below.refl _ _) rfl fun K hK => ?_
          go_simp
          exact hK
        · intro a W hc hsz hold hdep
          have o9 : a.tmps.getD 9 undef = .slice (some ⟨g1, 0, none⟩) n c1 := hold 9 (by kernel_rfl)
          clear hsz hold hdep
          refine stepR_do rfl (wanted_none rfl) ?_
          refine stepR_val (v := .slice (some ⟨g1, 0, none⟩) n c1) (Below.refl _ _) rfl fun K hK => ?_
          go_simp
          exact hK
        · intro a W hc hsz hold hdep
          have d2 : a.tmps.getD 32 undef = .slice (some ⟨g1, 0, none⟩) n c1 := hdep 2 (by kernel_rfl) rfl _ rfl
          have e2 : a.tmps[32]?.getD undef = .slice (some ⟨g1, 0, none⟩) n c1 := by rw [← Array.getD_eq_getD_getElem?]; exact d2
          clear hsz hold hdep
          refine stepR_do rfl (wanted_none rfl) ?_
          refine stepR_val (v := .int .i64 (n : Int)) (Below.refl _ _) rfl fun K hK => ?_
          go_simp
          exact hK
        · intro a W hc hsz hold hdep
          have d3 : a.tmps.getD 33 undef = .int .i64 (n : Int) := hdep 3 (by kernel_rfl) rfl _ rfl
          have hn2 := HN26.out
          have hw2 : IntKind.i64.wrap ((n : Int) - 2) = (n : Int) - 2 := IntWalk.i64_in _ (by omega)
          clear hsz hold hdep
          refine stepR_do rfl (wanted_none rfl) ?_
          refine stepR_val (v := .int .i64 ((n : Int) - 2)) (Below.refl _ _) rfl fun K hK => ?_
          go_simp
          exact hK
        · intro a W hc hsz hold hdep
          have d1 : a.tmps.getD 31 undef = .slice (some ⟨g1, 0, none⟩) n c1 := hdep 1 (by kernel_rfl) rfl _ rfl
          have d4 : a.tmps.getD 34 undef = .int .i64 ((n : Int) - 2) := hdep 4 (by kernel_rfl) rfl _ rfl
          have hcut := HCut.out
          clear hsz hold hdep
          refine stepR_do rfl (wanted_none rfl) ?_
          refine stepR_val (v := v2) (Below.refl _ _) rfl fun K hK => ?_
          go_simp
          exact hK
        · intro a W hc hsz hold hdep
          have o1 : a.tmps.getD 1 undef = .int .i64 m := hold 1 (by kernel_rfl)
          clear hsz hold hdep
          refine stepR_do rfl (wanted_none rfl) ?_
          refine stepR_val (v := .int .i64 m) (Below.refl _ _) rfl fun K hK => ?_
          go_simp
          exact hK
        · intro a W hc hsz hold hdep
          have d6 : a.tmps.getD 36 undef = .int .i64 m := hdep 6 (by kernel_rfl) rfl _ rfl
          have e6 : a.tmps[36]?.getD undef = .int .i64 m := by rw [← Array.getD_eq_getD_getElem?]; exact d6
          clear hsz hold hdep
          refine stepR_do rfl (wanted_none rfl) ?_
          refine stepR_call (v := .int .i64 f) (fun W' hb => hb) (fun _ => rfl) fun K hK => ?_
          go_simp
          refine (HFi.out W).mono ?_
          rintro e w' ⟨rfl, hb'⟩
          exact hK _ hb'
        · intro a W hc hsz hold hdep
          have d0 : a.tmps.getD 30 undef = .slice (some ⟨g, 0, none⟩) 2352 cap := hdep 0 (by kernel_rfl) rfl _ rfl
          have e0 : a.tmps[30]?.getD undef = .slice (some ⟨g, 0, none⟩) 2352 cap := by rw [← Array.getD_eq_getD_getElem?]; exact d0
          have d5 : a.tmps.getD 35 undef = v2 := hdep 5 (by kernel_rfl) rfl _ rfl
          have e5 : a.tmps[35]?.getD undef = v2 := by rw [← Array.getD_eq_getD_getElem?]; exact d5
          have d7 : a.tmps.getD 37 undef = .int .i64 f := hdep 7 (by kernel_rfl) rfl _ rfl
          have e7 : a.tmps[37]?.getD undef = .int .i64 f := by rw [← Array.getD_eq_getD_getElem?]; exact d7
          clear hsz hold hdep
          refine stepR_do rfl (wanted_none rfl) ?_
          refine stepR_call (v := .string S) (fun W' hb => hb) (fun _ => rfl) fun K hK => ?_
          go_simp
          refine (HT.out W hc).mono ?_
          rintro e w' ⟨rfl, hb'⟩
          exact hK _ hb'
        · intro a W hc hsz hold hdep
          have d8 : a.tmps.getD 38 undef = .string S := hdep 8 (by kernel_rfl) rfl _ rfl
          have e8 : a.tmps[38]?.getD undef = .string S := by rw [← Array.getD_eq_getD_getElem?]; exact d8
          clear hsz hold hdep
          refine stepR_do rfl (wanted_none rfl) ?_
          refine stepR_call (v := .tuple #[.string (str (cwd R ws f)), .int .i64 0]) (fun W' hb => hb) (fun _ => rfl) fun K hK => ?_
          go_simp
          refine (HE.out W).mono ?_
          rintro e w' ⟨rfl, hb'⟩
          exact hK _ hb'
        · intro a W hc hsz hold hdep
          have d9 : a.tmps.getD 39 undef = .tuple #[.string (str (cwd R ws f)), .int .i64 0] := hdep 9 (by kernel_rfl) rfl _ rfl
          clear hsz hold hdep
          refine stepR_do rfl (wanted_none rfl) ?_
          refine stepR_val (v := .tuple #[.string (str (cwd R ws f)), .int .i64 0]) (Below.refl _ _) rfl fun K hK => ?_
          go_simp
          exact hK
        · intro a W hc hsz hold hdep
          have d10 : a.tmps.getD 29 undef = .tuple #[.string (str (cwd R ws f)), .int .i64 0] := hdep 10 (by kernel_rfl) rfl _ rfl
          clear hsz hold hdep
          refine stepR_do rfl (wanted_none rfl) ?_
          refine stepR_val (v := .string (str (cwd R ws f))) (Below.refl _ _) rfl fun K hK => ?_
          go_simp
          exact hK
        · intro a W hc hsz hold hdep
          have d10 : a.tmps.getD 29 undef = .tuple #[.string (str (cwd R ws f)), .int .i64 0] := hdep 10 (by kernel_rfl) rfl _ rfl
          clear hsz hold hdep
          refine stepR_do rfl (wanted_none rfl) ?_
          refine stepR_val (v := .int .i64 0) (Below.refl _ _) rfl fun K hK => ?_
          go_simp
          exact hK
        · intro a W hc hsz hold hdep
          have d11 : a.tmps.getD 40 undef = .string (str (cwd R ws f)) := hdep 11 (by kernel_rfl) rfl _ rfl
          clear hsz hold hdep
          refine stepR_do rfl (wanted_none rfl) ?_
          refine stepR_val (v := .string (str (cwd R ws f))) (Below.refl _ _) rfl fun K hK => ?_
          go_simp
          exact hK
        · intro a W hc hsz hold hdep
          have d12 : a.tmps.getD 41 undef = .int .i64 0 := hdep 12 (by kernel_rfl) rfl _ rfl
          clear hsz hold hdep
          refine stepR_do rfl (wanted_none rfl) ?_
          refine stepR_val (v := .int .i64 0) (Below.refl _ _) rfl fun K hK => ?_
          go_simp
          exact hK
        · intro a W hC hd hsz hold hval
          have d10 : a.tmps.getD 10 undef = .string (str (cwd R ws f)) := hval 13 _ rfl rfl
          have d6 : a.tmps.getD 6 undef = .slice (some ⟨g, 0, none⟩) 2352 cap := hold 6 (by kernel_rfl)
          have d7 : a.tmps.getD 7 undef = .slice (some ⟨gw, 0, none⟩) 138 cw := hold 7 (by kernel_rfl)
          have d8 : a.tmps.getD 8 undef = .int .i64 (k : Int) := hold 8 (by kernel_rfl)
          have d9 : a.tmps.getD 9 undef = .slice (some ⟨g1, 0, none⟩) n c1 := hold 9 (by kernel_rfl)
          have d0 : a.tmps.getD 0 undef = .string (str raw) := hold 0 (by kernel_rfl)
          have d1 : a.tmps.getD 1 undef = .int .i64 m := hold 1 (by kernel_rfl)
          have d2 : a.tmps.getD 2 undef = undef := hold 2 (by kernel_rfl)
          have d3 : a.tmps.getD 3 undef = undef := hold 3 (by kernel_rfl)
          have d4 : a.tmps.getD 4 undef = .string ⟨#[]⟩ := hold 4 (by kernel_rfl)
          have d5 : a.tmps.getD 5 undef = .int .i64 0 := hold 5 (by kernel_rfl)
          have d12 : a.tmps.getD 12 undef = .string (str raw) := hold 12 (by kernel_rfl)
          have d13 : a.tmps.getD 13 undef = .int .i64 m := hold 13 (by kernel_rfl)
          have d14 : a.tmps.getD 14 undef = .bool true := hold 14 (by kernel_rfl)
          have d15 : a.tmps.getD 15 undef = .bool false := hold 15 (by kernel_rfl)
          have d16 : a.tmps.getD 16 undef = .string (str raw) := hold 16 (by kernel_rfl)
          have d17 : a.tmps.getD 17 undef = .slice (some ⟨g, 0, none⟩) 2352 cap := hold 17 (by kernel_rfl)
          have d18 : a.tmps.getD 18 undef = .slice (some ⟨gw, 0, none⟩) 138 cw := hold 18 (by kernel_rfl)
          have d68 : a.tmps.getD 68 undef = undef := hold 68 (by kernel_rfl)
          have d69 : a.tmps.getD 69 undef = undef := hold 69 (by kernel_rfl)
          clear hold
          obtain ⟨tm, df⟩ := a
          replace hd : df = [] := hd
          replace hsz : tm.size = 70 := hsz
          replace d10 : tm.getD 10 undef = .string (str (cwd R ws f)) := d10
          replace d6 : tm.getD 6 undef = .slice (some ⟨g, 0, none⟩) 2352 cap := d6
          replace d7 : tm.getD 7 undef = .slice (some ⟨gw, 0, none⟩) 138 cw := d7
          replace d8 : tm.getD 8 undef = .int .i64 (k : Int) := d8
          replace d9 : tm.getD 9 undef = .slice (some ⟨g1, 0, none⟩) n c1 := d9
          replace d0 : tm.getD 0 undef = .string (str raw) := d0
          replace d1 : tm.getD 1 undef = .int .i64 m := d1
          replace d2 : tm.getD 2 undef = undef := d2
          replace d3 : tm.getD 3 undef = undef := d3
          replace d4 : tm.getD 4 undef = .string ⟨#[]⟩ := d4
          replace d5 : tm.getD 5 undef = .int .i64 0 := d5
          replace d12 : tm.getD 12 undef = .string (str raw) := d12
          replace d13 : tm.getD 13 undef = .int .i64 m := d13
          replace d14 : tm.getD 14 undef = .bool true := d14
          replace d15 : tm.getD 15 undef = .bool false := d15
          replace d16 : tm.getD 16 undef = .string (str raw) := d16
          replace d17 : tm.getD 17 undef = .slice (some ⟨g, 0, none⟩) 2352 cap := d17
          replace d18 : tm.getD 18 undef = .slice (some ⟨gw, 0, none⟩) 138 cw := d18
          replace d68 : tm.getD 68 undef = undef := d68
          replace d69 : tm.getD 69 undef = undef := d69
          subst hd
          have e : tm = List.toArray (tm.getD 0 undef :: tm.getD 1 undef :: tm.getD 2 undef :: tm.getD 3 undef :: tm.getD 4 undef :: tm.getD 5 undef :: tm.getD 6 undef :: tm.getD 7 undef :: tm.getD 8 undef :: tm.getD 9 undef :: tm.getD 10 undef :: tm.getD 11 undef :: tm.getD 12 undef :: tm.getD 13 undef :: tm.getD 14 undef :: tm.getD 15 undef :: tm.getD 16 undef :: tm.getD 17 undef :: tm.getD 18 undef :: tm.getD 19 undef :: tm.getD 20 undef :: tm.getD 21 undef :: tm.getD 22 undef :: tm.getD 23 undef :: tm.getD 24 undef :: tm.getD 25 undef :: tm.getD 26 undef :: tm.getD 27 undef :: tm.getD 28 undef :: tm.getD 29 undef :: tm.getD 30 undef :: tm.getD 31 undef :: tm.getD 32 undef :: tm.getD 33 undef :: tm.getD 34 undef :: tm.getD 35 undef :: tm.getD 36 undef :: tm.getD 37 undef :: tm.getD 38 undef :: tm.getD 39 undef :: tm.getD 40 undef :: tm.getD 41 undef :: tm.getD 42 undef :: tm.getD 43 undef :: tm.getD 44 undef :: tm.getD 45 undef :: tm.getD 46 undef :: tm.getD 47 undef :: tm.getD 48 undef :: tm.getD 49 undef :: tm.getD 50 undef :: tm.getD 51 undef :: tm.getD 52 undef :: tm.getD 53 undef :: tm.getD 54 undef :: tm.getD 55 undef :: tm.getD 56 undef :: tm.getD 57 undef :: tm.getD 58 undef :: tm.getD 59 undef :: tm.getD 60 undef :: tm.getD 61 undef :: tm.getD 62 undef :: tm.getD 63 undef :: tm.getD 64 undef :: tm.getD 65 undef :: tm.getD 66 undef :: tm.getD 67 undef :: tm.getD 68 undef :: tm.getD 69 undef :: []) := arr_eq tm 70 hsz
          rw [d10, d6, d7, d8, d9, d0, d1, d2, d3, d4, d5, d12, d13, d14, d15, d16, d17, d18, d68, d69] at e
          clear d10 d6 d7 d8 d9 d0 d1 d2 d3 d4 d5 d12 d13 d14 d15 d16 d17 d18 d68 d69 hsz
          generalize tm.getD 11 undef = v11 at e
          generalize tm.getD 19 undef = v19 at e
          generalize tm.getD 20 undef = v20 at e
          generalize tm.getD 21 undef = v21 at e
          generalize tm.getD 22 undef = v22 at e
          generalize tm.getD 23 undef = v23 at e
          generalize tm.getD 24 undef = v24 at e
          generalize tm.getD 25 undef = v25 at e
          generalize tm.getD 26 undef = v26 at e
          generalize tm.getD 27 undef = v27 at e
          generalize tm.getD 28 undef = v28 at e
          generalize tm.getD 29 undef = v29 at e
          generalize tm.getD 30 undef = v30 at e
          generalize tm.getD 31 undef = v31 at e
          generalize tm.getD 32 undef = v32 at e
          generalize tm.getD 33 undef = v33 at e
          generalize tm.getD 34 undef = v34 at e
          generalize tm.getD 35 undef = v35 at e
          generalize tm.getD 36 undef = v36 at e
          generalize tm.getD 37 undef = v37 at e
          generalize tm.getD 38 undef = v38 at e
          generalize tm.getD 39 undef = v39 at e
          generalize tm.getD 40 undef = v40 at e
          generalize tm.getD 41 undef = v41 at e
          generalize tm.getD 42 undef = v42 at e
          generalize tm.getD 43 undef = v43 at e
          generalize tm.getD 44 undef = v44 at e
          generalize tm.getD 45 undef = v45 at e
          generalize tm.getD 46 undef = v46 at e
          generalize tm.getD 47 undef = v47 at e
          generalize tm.getD 48 undef = v48 at e
          generalize tm.getD 49 undef = v49 at e
          generalize tm.getD 50 undef = v50 at e
          generalize tm.getD 51 undef = v51 at e
          generalize tm.getD 52 undef = v52 at e
          generalize tm.getD 53 undef = v53 at e
          generalize tm.getD 54 undef = v54 at e
          generalize tm.getD 55 undef = v55 at e
          generalize tm.getD 56 undef = v56 at e
          generalize tm.getD 57 undef = v57 at e
          generalize tm.getD 58 undef = v58 at e
          generalize tm.getD 59 undef = v59 at e
          generalize tm.getD 60 undef = v60 at e
          generalize tm.getD 61 undef = v61 at e
          generalize tm.getD 62 undef = v62 at e
          generalize tm.getD 63 undef = v63 at e
          generalize tm.getD 64 undef = v64 at e
          generalize tm.getD 65 undef = v65 at e
          generalize tm.getD 66 undef = v66 at e
          generalize tm.getD 67 undef = v67 at e
          subst e
          clear hval
          have hrW := HROW.out.below hC
          have hle := hrW.le
          rw [HEL.out] at hle
          have qx := (hC.cell (p := ⟨g1, n - 2, none⟩) (World.block_lt_of_cell? wr _ HCX.out)).trans HCX.out
          have HQY := Lib.hid ((hC.cell (p := ⟨g1, n - 1, none⟩) (World.block_lt_of_cell? wr _ HCY.out)).trans HCY.out)
          have c0 := hrW.cell x (by rw [HEL.out]; exact HXY.out.1)
          have f0 := hrW.frozen x (by have := HXY.out.1; omega)
          have hx2 := HXY.out.1
          have HRW := Lib.hid hrW
          have HCC := Lib.hid hC
          clear hrW hC
          go_wp2_with fail
          have hn2 := HN26.out
          have e1 : IntKind.i64.wrap ((n : Int) - 2) = (n : Int) - 2 := IntWalk.i64_in _ (by omega)
          have e2 : (0 : Int) ≤ (n : Int) - 2 := by omega
          have e3 : (n : Int) - 2 < (n : Int) := by omega
          have e4 : ((n : Int) - 2).toNat = n - 2 := by omega
          have hsz : (str (cwd R ws f)).size = n := by rw [str_size]; exact HCL.out
          have hix : ∀ wx, (Instr.indexAt 24 (.slice (some ⟨g1, 0, none⟩) n c1) (.int .i64 ((n : Int) - 2))).run Try.prog wx = .ok (.pointer (some ⟨g1, n - 2, none⟩)) wx := fun wx => by
            have := run_idx (P := Try.prog) (a := some ⟨g1, 0, none⟩) (off := 0) (b := g1) (n := n) (cap := c1) (k := n - 2) Try.underlying24 Try.sizeInt rfl (by omega) ((n : Int) - 2) (by omega) wx
            rwa [Nat.zero_add] at this
          have hiy : ∀ wx, (Instr.indexAt 43 (.slice (some ⟨g, 0, none⟩) 2352 cap) (.int .i64 (x : Int))).run Try.prog wx = .ok (.pointer (some ⟨g, x, none⟩)) wx := fun wx => by
            have := run_idx (P := Try.prog) (a := some ⟨g, 0, none⟩) (off := 0) (b := g) (n := 2352) (cap := cap) (k := x) Try.underlying43 Try.sizeU8 rfl (by first | exact HXY.out.1 | exact HXY.out.2) _ rfl wx
            rwa [Nat.zero_add] at this
          have hsx := fun wx => run_sidx (P := Try.prog) Try.underlying9 (cwd R ws f) (n - 2) (by rw [HCL.out]; omega) ((n : Int) - 2) (by omega) wx
          go_still_tail 13, (by kernel_rfl)
          clear e1 e2 e3 e4 hsx hix hiy hsz hn2
          change wpList _ _ _ _ _ W.drew
          go_wp2_with fail
          have hr2 : Row ((W.setCell ⟨g, x, none⟩ (B (G.ix (cwd R ws f) (n - 2)))).drew) 5 g cap (R.set x (G.ix (cwd R ws f) (n - 2))) := (HRW.out.store x _ (by rw [HEL.out]; exact hx2)).keep rfl
          have hg2 : W.grownBy ((W.setCell ⟨g, x, none⟩ (B (G.ix (cwd R ws f) (n - 2)))).drew) (some g) := grow_drew (grow_set (World.grownBy.refl W _) x _)
          generalize (W.setCell ⟨g, x, none⟩ (B (G.ix (cwd R ws f) (n - 2)))).drew = W2 at hr2 hg2 ⊢
          have hl2 : (R.set x (G.ix (cwd R ws f) (n - 2))).length = 2352 := by rw [List.length_set]; exact HEL.out
          have qy : W2.cell? ⟨g1, n - 1, none⟩ = some (.int .i64 y) := by
            rw [← HQY.out]
            exact World.cell?_of_block (hg2.block g1 (World.block_lt_of_cell? W _ HQY.out) (fun e => HNE.out (Option.some.inj e)))
          have hy2 := HXY.out.2
          have c0 := hr2.cell y (by rw [hl2]; exact hy2)
          have f0 := hr2.frozen y (by omega)
          have HR2 := Lib.hid hr2; have HG2 := Lib.hid hg2; have HL2 := Lib.hid hl2
          clear hr2 hg2 hl2 hx2 qx
          go_wp2_with fail
          have hn2 := HN26.out
          have e1 : IntKind.i64.wrap ((n : Int) - 1) = (n : Int) - 1 := IntWalk.i64_in _ (by omega)
          have e2 : (0 : Int) ≤ (n : Int) - 1 := by omega
          have e3 : (n : Int) - 1 < (n : Int) := by omega
          have e4 : ((n : Int) - 1).toNat = n - 1 := by omega
          have hsz : (str (cwd R ws f)).size = n := by rw [str_size]; exact HCL.out
          have hix : ∀ wx, (Instr.indexAt 24 (.slice (some ⟨g1, 0, none⟩) n c1) (.int .i64 ((n : Int) - 1))).run Try.prog wx = .ok (.pointer (some ⟨g1, n - 1, none⟩)) wx := fun wx => by
            have := run_idx (P := Try.prog) (a := some ⟨g1, 0, none⟩) (off := 0) (b := g1) (n := n) (cap := c1) (k := n - 1) Try.underlying24 Try.sizeInt rfl (by omega) ((n : Int) - 1) (by omega) wx
            rwa [Nat.zero_add] at this
          have hiy : ∀ wx, (Instr.indexAt 43 (.slice (some ⟨g, 0, none⟩) 2352 cap) (.int .i64 (y : Int))).run Try.prog wx = .ok (.pointer (some ⟨g, y, none⟩)) wx := fun wx => by
            have := run_idx (P := Try.prog) (a := some ⟨g, 0, none⟩) (off := 0) (b := g) (n := 2352) (cap := cap) (k := y) Try.underlying43 Try.sizeU8 rfl (by first | exact HXY.out.1 | exact HXY.out.2) _ rfl wx
            rwa [Nat.zero_add] at this
          have hsx := fun wx => run_sidx (P := Try.prog) Try.underlying9 (cwd R ws f) (n - 1) (by rw [HCL.out]; omega) ((n : Int) - 1) (by omega) wx
          go_still_tail 13, (by kernel_rfl)
          clear e1 e2 e3 e4 hsx hix hiy hsz hn2
          change wpList _ _ _ _ _ W2.drew
          go_wp2_with fail
          have hr3 : Row ((W2.setCell ⟨g, y, none⟩ (B (G.ix (cwd R ws f) (n - 1)))).drew) 5 g cap (encN raw f (k + 1)) := by
            rw [HES.out]
            exact (HR2.out.store y _ (by rw [HL2.out]; exact hy2)).keep rfl
          have hg3 : W.grownBy ((W2.setCell ⟨g, y, none⟩ (B (G.ix (cwd R ws f) (n - 1)))).drew) (some g) := grow_drew (grow_set HG2.out y _)
          have hB := HB.out.trans (HCC.out.mono HB.out.size)
          have ho2 := own_keep' HO.out HCC.out
          have hl2 := HLs.out.keep HCC.out
          have ho3 := own_other ho2 hg3 (fun j hj e => by have := ownBlock_ge' ho2 j hj; have := Option.some.inj e; omega)
          have hl3 : Lst (g + 1) ((W2.setCell ⟨g, y, none⟩ (B (G.ix (cwd R ws f) (n - 1)))).drew) vs 138 := ⟨hl2.1, fun j v hv => own_other (hl2.2 j v hv) hg3 (fun i hi e => by have := ownBlock_ge' (hl2.2 j v hv) i hi; have := Option.some.inj e; omega)⟩
          have hB3 := hB.grown hg3 hB.size (fun j e => by have := Option.some.inj e; have := HG.out; omega)
          clear hB ho2 hl2 hg3
          go_roundw
          case rel => exact ⟨k + 1, by omega, by go_num, hr3, ho3, hl3, hB3⟩
          case measure => simp [intOf]; omega
      · obtain rfl : k = 138 := by omega
        have hel := encN_length raw f 138
        rw [HL.out] at hel
        have hrd := hrow.rd (by omega)
        rw [hel] at hrd
        have hcx := run_str (P := Try.prog) Try.underlying43 Try.underlying5 Try.underlying9 hrd
        clear hrd hel hrow
        go_wp2_with fail
        go_ret2
        exact ⟨rfl, hb⟩
end Go.Proofs.Ytepdcpbgdfjobaa.W8
