/- Parts: XId XQm XQb XQw XQi XQp XQv XQt -/
import Derived.Test.YtflmjdjkfognjaaGreatTe22
import Derived.Test.YtflmjdjkfognjaaGreatTe20
import Derived.Test.YtflmjdjkfognjaaGreatTe15
namespace Go.Proofs.YtflmjdjkfognjaaGreat.T7
open Go Go.RowKit
set_option linter.unusedVariables false
def scrB (l : List UInt8) (k j : Nat) : UInt8 := if 12 ≤ j ∧ j < 12 + k then G.ix l j ^^^ kbU (j - 12) 8 else G.ix l j
def scrK (l : List UInt8) (k : Nat) : List UInt8 := (List.range 2352).map (scrB l k)
def scrL (l : List UInt8) : List UInt8 := scrK l 2340
theorem scrK_len (l : List UInt8) (k : Nat) : (scrK l k).length = 2352 := by simp [scrK]
theorem scrK_at (l : List UInt8) (k : Nat) {j : Nat} (h : j < 2352) : (scrK l k)[j]? = some (scrB l k j) := by simp [scrK, h]
theorem scrK_ix (l : List UInt8) (k : Nat) {j : Nat} (h : j < 2352) : G.ix (scrK l k) j = scrB l k j := by
  unfold G.ix
  rw [List.getD_eq_getElem?_getD, scrK_at l k h]; rfl
theorem scrK_zero {l : List UInt8} (h : l.length = 2352) : scrK l 0 = l := by
  apply List.ext_getElem?
  intro j
  by_cases hj : j < 2352
  · rw [scrK_at l 0 hj]
    unfold scrB
    rw [if_neg (by omega), List.getElem?_eq_getElem (by omega)]
    unfold G.ix
    rw [List.getD_eq_getElem?_getD, List.getElem?_eq_getElem (by omega)]; rfl
  · rw [List.getElem?_eq_none (by rw [scrK_len]; omega), List.getElem?_eq_none (by omega)]
theorem scrK_step (l : List UInt8) {k : Nat} (h : k < 2340) : (scrK l k).set (12 + k) (G.ix l (12 + k) ^^^ kbU k 8) = scrK l (k + 1) := by
  apply List.ext_getElem?
  intro j
  by_cases hj : j < 2352
  · rw [scrK_at l _ hj, List.getElem?_set]
    by_cases e : 12 + k = j
    · rw [if_pos e, if_pos (by rw [scrK_len]; omega), ← e]
      unfold scrB
      rw [if_pos (by omega), show 12 + k - 12 = k from by omega]
    · rw [if_neg e, scrK_at l k hj]
      unfold scrB
      by_cases h2 : 12 ≤ j ∧ j < 12 + k
      · rw [if_pos h2, if_pos (by omega)]
      · rw [if_neg h2, if_neg (by omega)]
  · rw [List.getElem?_eq_none (by rw [List.length_set, scrK_len]; omega), List.getElem?_eq_none (by rw [scrK_len]; omega)]
theorem scrK_pre (l : List UInt8) {k : Nat} (h : k < 2340) : G.ix (scrK l k) (12 + k) = G.ix l (12 + k) := by
  rw [scrK_ix l k (by omega)]
  unfold scrB
  rw [if_neg (by omega)]
theorem scrL_len (l : List UInt8) : (scrL l).length = 2352 := scrK_len l _
theorem scrL_scrL {l : List UInt8} (h : l.length = 2352) : scrL (scrL l) = l := by
  conv => rhs; rw [← scrK_zero h]
  unfold scrL
  refine List.map_congr_left fun j hj => ?_
  have hj := List.mem_range.1 hj
  show scrB (scrK l 2340) 2340 j = scrB l 0 j
  unfold scrB
  rw [scrK_ix l 2340 hj]
  unfold scrB
  by_cases h2 : 12 ≤ j ∧ j < 12 + 2340
  · rw [if_pos h2, if_pos h2, if_neg (by omega), UInt8.xor_assoc, UInt8.xor_self, UInt8.xor_zero]
  · rw [if_neg h2, if_neg h2, if_neg (by omega)]
theorem key_at {k : Nat} (h : k < 2340) : (bs (scrKey 2340))[k]? = some (B (kbU k 8)) := by simp [bs, scrKey, h]
set_option maxRecDepth 100000 in
set_option maxHeartbeats 2000000 in
theorem scramble_any (l : List UInt8) (hl : l.length = 2352) (w : World) :
    Calls Tryz.prog 33 #[.string (str l)] w fun e w' => e = .returned (.tuple #[.string (str (scrL l)), .int .i64 0]) ∧ Below w.heap.size w w' := by
  obtain ⟨s, hs⟩ : ∃ s, s = str l := ⟨_, rfl⟩
  have hsz : s.size = 2352 := by rw [hs, str_size, hl]
  have hsd : s.data.toList = l := by rw [hs]; rfl
  have HK0 := Lib.hid (scrK_zero hl)
  have HSD := Lib.hid hsd
  have HSZ := Lib.hid hsz
  have HSQ := Lib.hid (fun W => sequence_any 2340 (by omega) (by omega) W)
  rw [← hs]
  clear hs hsd hl
  have q0 : (((2352 : Nat) : Int) != 2352) = false := rfl
  go_enter Tryz.func33, Tryz.ntmps33
  go_upto_region 4 with (first
    | (refine wpList_bytes rfl _ rfl Tryz.underlying9 Tryz.underlying123 Tryz.underlying5 rfl ?_
       intro w1 cap hr1 hb1 hcap1)
    | fail)
  rw [HSD.out, ← HK0.out] at hr1
  obtain ⟨g, hg⟩ : ∃ g, g = w.heap.size := ⟨_, rfl⟩
  have HGW := Lib.hid hg
  rw [← hg] at hr1 ⊢
  have HR1 := Lib.hid hr1
  have HB1 := Lib.hid hb1
  clear hr1 hb1 hcap1 hg
  go_wp2_with fail
  refine (HSQ.out w1).mono ?_
  rintro e w2 ⟨gk, rfl, hgk, hxk, hb2⟩
  have HR2 := Lib.hid (HR1.out.below hb2)
  have HB2 := Lib.hid (HB1.out.trans (hb2.mono HB1.out.size))
  have HX2 := Lib.hid hxk
  have hggk : g < gk := Nat.lt_of_lt_of_le HR1.out.lt hgk
  clear hb2 hxk hgk
  go_wp2_with fail
  go_loopw [13] (fun vk wr => ∃ k : Nat, k ≤ 2340 ∧ vk = .int .i64 (k : Nat) ∧ Row wr 5 g cap (scrK l k) ∧ Bx wr gk 5 (bs (scrKey 2340)) ∧ Below w.heap.size w wr) (fun vk _ => 2340 - (RowKit.intOf vk).toNat)
  case atStart => exact ⟨0, by omega, rfl, HR2.out, HX2.out, HB2.out⟩
  case round =>
    obtain ⟨k, hk, rfl, hr, hx, hb⟩ := hrel
    have HX := Lib.hid hx
    have HB := Lib.hid hb
    have HR := Lib.hid hr
    by_cases hlt : k < 2340
    · have hc := hr.cell (12 + k) (by rw [scrK_len]; omega)
      rw [scrK_pre l hlt] at hc
      have hf := hr.frozen (12 + k) (by have := hr.le; rw [scrK_len] at this; omega)
      have hkc := hx.cell (key_at hlt)
      have hst := hr.store (12 + k) (G.ix l (12 + k) ^^^ kbU k 8) (by rw [scrK_len]; omega)
      rw [scrK_step l hlt] at hst
      obtain ⟨x, hxx⟩ : ∃ x, x = G.ix l (12 + k) := ⟨_, rfl⟩
      obtain ⟨y, hyy⟩ : ∃ y, y = kbU k 8 := ⟨_, rfl⟩
      rw [← hxx] at hc hst
      rw [← hyy] at hkc hst
      have hw1 : IntKind.i64.wrap (12 + (k : Int)) = 12 + (k : Int) := IntWalk.i64_in _ (by omega)
      have hix := fun w' => run_idxS Tryz.underlying123 Tryz.sizeU8s (a := some ⟨g, 0, none⟩) (n := 2352) (cap := cap) (k := 12 + k) (b := g) (off := 0) rfl (by omega) (12 + (k : Int)) (by omega) w'
      have hix2 := fun w' => run_idxS Tryz.underlying123 Tryz.sizeU8s (a := some ⟨gk, 0, none⟩) (n := 2340) (cap := 2340) (k := k) (b := gk) (off := 0) rfl hlt (k : Int) rfl w'
      simp only [Nat.mul_one, Nat.zero_add] at hix hix2
      have hxb : Value.int .u8 (bits .xor .u8 (x.toNat : Int) (y.toNat : Int)) = B (x ^^^ y) := congrArg (Value.int .u8) (xorB x y)
      have HXB := Lib.hid hxb
      have HST : Hid (Row (wr.setCell ⟨g, 12 + k, none⟩ (B (x ^^^ y))) 5 g cap (scrK l (k + 1))) := Lib.hid hst
      clear hr hx hb hst hxx hyy hxb
      go_upto_region 8 with (fail)
      go_still_tail 11, (by kernel_rfl)
      repeat still_step
      change wpList _ _ _ _ _ wr.drew
      go_wp2_with fail
      rw [HXB.out]
      have hdr := (Below.refl (wr.setCell ⟨g, 12 + k, none⟩ (B (x ^^^ y))).heap.size (wr.setCell ⟨g, 12 + k, none⟩ (B (x ^^^ y)))).drew
      have HE1 := Lib.hid (HST.out.below hdr)
      have HE2 := Lib.hid ((HX.out.far (p := ⟨g, 12 + k, none⟩) (by simp only; omega) (B (x ^^^ y))).call hdr)
      have HE3 := Lib.hid ((HB.out.setCell (p := ⟨g, 12 + k, none⟩) (by rw [HGW.out]; exact Nat.le_refl _) (B (x ^^^ y))).drew)
      go_roundw
      case rel => exact ⟨k + 1, by omega, by go_num, HE1.out, HE2.out, HE3.out⟩
      case measure => simp [RowKit.intOf]; omega
    · obtain rfl : k = 2340 := by omega
      have hrd := hr.rd (by rw [scrK_len]; omega)
      rw [scrK_len] at hrd
      have hcx := run_str (P := Tryz.prog) Tryz.underlying123 Tryz.underlying5 Tryz.underlying9 hrd
      clear hr hx hb hrd
      go_wp2_with fail
      go_ret2
      exact ⟨rfl, HB.out⟩
end Go.Proofs.YtflmjdjkfognjaaGreat.T7
namespace Go.Proofs.YtflmjdjkfognjaaGreat.W10
open Go.RowKit
set_option linter.unusedVariables false
abbrev msfv (m s f : Int) : Value := .agg #[.int .i64 m, .int .i64 s, .int .i64 f]
abbrev msfn (n : Int) : Value := msfv (Q.mM n) (Q.mS n) (Q.mF n)
def RV (v : Value) (w : World) (e : Ending) (w' : World) : Prop := e = .returned v ∧ Below w.heap.size w w'
theorem mM_two (n : Int) : Q.mM n = n / 75 / 60 := by unfold Q.mM; omega
theorem numbered_ok (n : Int) (w : World) (h0 : 0 ≤ n) (h1 : n ≤ 449999) : Calls Tryz.prog 166 #[.int .i64 n] w (RV (.tuple #[msfn n, .bool true]) w) := by
  show Calls _ _ _ _ (RV (.tuple #[msfv (Q.mM n) (n / 75 % 60) (n % 75), .bool true]) w)
  rw [mM_two]
  go_enter Tryz.func166, Tryz.ntmps166
  go_wp2
  exact bodyPost_ret (v := .tuple #[msfv (n / 75 / 60) (n / 75 % 60) (n % 75), .bool true]) (by simp [results, Tryz.results166, go_sem]) rfl ⟨rfl, (Below.refl _ _).alloc (Nat.le_refl _) _⟩
set_option maxRecDepth 100000 in
theorem tomsf_ok (n : Int) (w : World) (h0 : -150 ≤ n) (h1 : n ≤ 449849) : Calls Tryz.prog 110 #[.int .i64 n] w (RV (.tuple #[msfn (n + 150), .int .i64 0]) w) := by
  go_enter Tryz.func110, Tryz.ntmps110
  go_wp2_with fail
  refine (numbered_ok (n + 150) _ (by omega) (by omega)).mono ?_
  rintro e w1 ⟨rfl, hb⟩
  have hb1 := ((Below.refl w.heap.size w).alloc (Nat.le_refl _) (.cells #[.int .i64 0, .int .i64 0, .int .i64 0] 36)).trans (hb.mono (by simp))
  have hB : Bx w1 w.heap.size 36 [.int .i64 0, .int .i64 0, .int .i64 0] := (Bx.new w 36 [.int .i64 0, .int .i64 0, .int .i64 0]).call hb
  have g0 := hB.cell (i := 0) rfl
  have g1 := hB.cell (i := 1) rfl
  have g2 := hB.cell (i := 2) rfl
  have gf := hB.free
  have gl := hB.lt
  go_wp2_with fail
  exact bodyPost_ret (v := .tuple #[msfn (n + 150), .int .i64 0]) (by simp [results, Tryz.results110, go_sem, g0, g1, g2, gl]) rfl ⟨rfl, (((hb1.setCell (Nat.le_refl _) _).setCell (Nat.le_refl _) _).setCell (Nat.le_refl _) _).alloc (by simp; omega) _⟩
end Go.Proofs.YtflmjdjkfognjaaGreat.W10
namespace Go.Proofs.YtflmjdjkfognjaaGreat.W10
open Go.RowKit
set_option linter.unusedVariables false
def bcd (n : Int) : Int := n / 10 * 16 + n % 10
def unbcd (x : Int) : Int × Int := if 9 < x / 16 ∨ 9 < x % 16 then (0, 2) else (10 * (x / 16) + x % 16, 0)
def vB (m s f : Int) : Bool := decide (0 ≤ m ∧ m ≤ 99 ∧ 0 ≤ s ∧ s ≤ 59 ∧ 0 ≤ f ∧ f ≤ 74)
theorem vB_f {m s f : Int} (h : ¬ (0 ≤ m ∧ m ≤ 99 ∧ 0 ≤ s ∧ s ≤ 59 ∧ 0 ≤ f ∧ f ≤ 74)) : vB m s f = false := decide_eq_false h
theorem vB_t {m s f : Int} (h : 0 ≤ m ∧ m ≤ 99 ∧ 0 ≤ s ∧ s ≤ 59 ∧ 0 ≤ f ∧ f ≤ 74) : vB m s f = true := decide_eq_true h
theorem vB_true {m s f : Int} : vB m s f = true ↔ (0 ≤ m ∧ m ≤ 99 ∧ 0 ≤ s ∧ s ≤ 59 ∧ 0 ≤ f ∧ f ≤ 74) := decide_eq_true_iff
def R2 (a b : Value) (w : World) (e : Ending) (w' : World) : Prop := e = .returned (.tuple #[a, b]) ∧ w = w'
def R2B (a b : Value) (w : World) (e : Ending) (w' : World) : Prop := e = .returned (.tuple #[a, b]) ∧ Below w.heap.size w w'
theorem or_bcd : ∀ k : Nat, k < 100 → bits .or .i64 ((k : Int) / 10 * 16) ((k : Int) % 10) % 256 = (k : Int) / 10 * 16 + (k : Int) % 10 := by decide +kernel
theorem or_bcd' (n : Int) (h0 : 0 ≤ n) (h1 : n ≤ 99) : bits .or .i64 (n / 10 * 16) (n % 10) % 256 = bcd n := by
  have h := or_bcd n.toNat (by omega)
  rwa [Int.toNat_of_nonneg h0] at h
theorem unbcd_no {c : Int} (h : 9 < c / 16 ∨ 9 < c % 16) : unbcd c = (0, 2) := if_pos h
theorem unbcd_yes {c : Int} (h : c / 16 ≤ 9 ∧ c % 16 ≤ 9) : unbcd c = (10 * (c / 16) + c % 16, 0) := if_neg (by omega)
theorem ret22 {x y : Int} {r : Int × Int} (h : r = (x, y)) : Ending.returned (.tuple #[.int .i64 x, .int .i64 y]) = .returned (.tuple #[.int .i64 r.1, .int .i64 r.2]) := by rw [h]
theorem ret2 {a a' b : Value} (h : a = a') : Ending.returned (.tuple #[a, b]) = .returned (.tuple #[a', b]) := by rw [h]
theorem bcd_any (n : Int) (w : World) (h0 : 0 ≤ n) (h1 : n ≤ 99) : Calls Tryz.prog 114 #[.int .i64 n] w (R2 (.int .u8 (bcd n)) (.int .i64 0) w) := by
  go_enter Tryz.func114, Tryz.ntmps114
  go_wp2
  go_ret2
  refine ⟨ret2 (congrArg (Value.int .u8) ?_), rfl⟩
  first | exact or_bcd' n h0 h1 | rfl
theorem unbcd_any (c : Int) (w : World) (h0 : 0 ≤ c) (h1 : c ≤ 255) : Calls Tryz.prog 118 #[.int .u8 c] w (R2 (.int .i64 (unbcd c).1) (.int .i64 (unbcd c).2) w) := by
  go_enter Tryz.func118, Tryz.ntmps118
  go_wp2
  all_goals
    go_ret2
    refine ⟨ret22 ?_, rfl⟩
    first | exact unbcd_no (.inl (by assumption)) | exact unbcd_no (by assumption) | exact unbcd_yes (by assumption) | exact (unbcd_yes (by assumption)).trans (by rw [Int.mul_comm])
theorem limit_0 (w : World) : Calls Tryz.prog 168 #[.int .i64 0] w (RV (.int .i64 100) w) := by
  go_enter Tryz.func168, Tryz.ntmps168
  go_wp2
  go_ret
  exact ⟨rfl, (Below.refl _ _).alloc (Nat.le_refl _) _⟩
theorem limit_1 (w : World) : Calls Tryz.prog 168 #[.int .i64 1] w (RV (.int .i64 60) w) := by
  go_enter Tryz.func168, Tryz.ntmps168
  go_wp2
  go_ret
  exact ⟨rfl, (Below.refl _ _).alloc (Nat.le_refl _) _⟩
theorem limit_2 (w : World) : Calls Tryz.prog 168 #[.int .i64 2] w (RV (.int .i64 75) w) := by
  go_enter Tryz.func168, Tryz.ntmps168
  go_wp2
  go_ret
  exact ⟨rfl, (Below.refl _ _).alloc (Nat.le_refl _) _⟩
theorem split_any (m s f : Int) (w : World) : Calls Tryz.prog 167 #[msfv m s f] w (RV (msfv m s f) w) := by
  go_enter Tryz.func167, Tryz.ntmps167
  go_wp2
  exact bodyPost_ret (v := msfv m s f) (by simp [results, Tryz.results167, go_sem]) rfl ⟨rfl, ((Below.refl _ _).alloc (Nat.le_refl _) _).alloc (by simp) _⟩
theorem anumber_any (m s f : Int) (w : World) (h : 0 ≤ m ∧ m ≤ 99 ∧ 0 ≤ s ∧ s ≤ 59 ∧ 0 ≤ f ∧ f ≤ 74) : Calls Tryz.prog 143 #[msfv m s f] w (RV (.int .i64 ((60 * m + s) * 75 + f)) w) := by
  obtain ⟨h1, h2, h3, h4, h5, h6⟩ := h
  go_enter Tryz.func143, Tryz.ntmps143
  go_wp2
  go_ret
  exact ⟨rfl, (Below.refl _ _).alloc (Nat.le_refl _) _⟩
end Go.Proofs.YtflmjdjkfognjaaGreat.W10
namespace Go.Proofs.YtflmjdjkfognjaaGreat.W10
open Go.RowKit
set_option linter.unusedVariables false
end Go.Proofs.YtflmjdjkfognjaaGreat.W10
namespace Go.Proofs.YtflmjdjkfognjaaGreat.W10
open Go.RowKit
set_option linter.unusedVariables false
end Go.Proofs.YtflmjdjkfognjaaGreat.W10
namespace Go.Proofs.YtflmjdjkfognjaaGreat.W10
open Go.RowKit
set_option linter.unusedVariables false
def fcs (f : Q.Fr) : List Value := [.int .i64 f.ctl, .int .i64 f.trk, .int .i64 f.pt, .int .i64 f.rm, .int .i64 f.rs, .int .i64 f.rf, .int .i64 f.am, .int .i64 f.as, .int .i64 f.af]
structure PB (w0 : World) (lba : Int) (W : World) : Prop where
  b : Bx W w0.heap.size 3 [.int .i64 lba]
  r : Bx W (w0.heap.size + 1) 38 (fcs Q.z)
  le : Below w0.heap.size w0 W
theorem PB.call {w0 W W' : World} {lba : Int} (h : PB w0 lba W) (hb : Below W.heap.size W W') : PB w0 lba W' := ⟨h.b.call hb, h.r.call hb, h.le.trans (hb.mono h.le.size)⟩
theorem PB.rd {w0 W : World} {lba : Int} (h : PB w0 lba W) {v : Value} {l : List T.Trk} (hr : RdK w0 v l) : RdK W v l := hr.keep h.le
end Go.Proofs.YtflmjdjkfognjaaGreat.W10
namespace Go.Proofs.YtflmjdjkfognjaaGreat.W10
open Go.RowKit
set_option linter.unusedVariables false
theorem ret_f {a : Bool} (h : a = false) : Ending.returned (.bool false) = .returned (.bool a) := by rw [h]
theorem ret_t {a : Bool} (h : a = true) : Ending.returned (.bool true) = .returned (.bool a) := by rw [h]
set_option maxRecDepth 100000 in
set_option maxHeartbeats 2000000 in
theorem avalid_any (m s f : Int) (w : World) : Calls Tryz.prog 111 #[msfv m s f] w (RB (vB m s f) w) := by
  have i0 : ∀ w, (Instr.index 207 (.agg #[.int .i64 m, .int .i64 s, .int .i64 f]) (.int .i64 0)).run Tryz.prog w = .ok (.int .i64 m) w := fun _ => by kernel_rfl
  have i1 : ∀ w, (Instr.index 207 (.agg #[.int .i64 m, .int .i64 s, .int .i64 f]) (.int .i64 1)).run Tryz.prog w = .ok (.int .i64 s) w := fun _ => by kernel_rfl
  have i2 : ∀ w, (Instr.index 207 (.agg #[.int .i64 m, .int .i64 s, .int .i64 f]) (.int .i64 2)).run Tryz.prog w = .ok (.int .i64 f) w := fun _ => by kernel_rfl
  go_enter Tryz.func111, Tryz.ntmps111
  go_wp2_with fail
  refine (split_any m s f _).mono ?_
  rintro e w1 ⟨rfl, hb⟩
  have hb1 := ((Below.refl w.heap.size w).alloc (Nat.le_refl _) (.cells #[.int .i64 m, .int .i64 s, .int .i64 f] 36)).trans (hb.mono (by simp))
  clear hb
  go_wp2_with fail
  go_loopw [7] (fun vi wr => ∃ (k : Nat), k ≤ 3 ∧ vi = .int .i64 k ∧ (0 < k → 0 ≤ m ∧ m ≤ 99) ∧ (1 < k → 0 ≤ s ∧ s ≤ 59) ∧ (2 < k → 0 ≤ f ∧ f ≤ 74) ∧ Below w.heap.size w wr) (fun vi _ => 3 - (intOf vi).toNat)
  case atStart => exact ⟨0, by omega, rfl, fun h => by omega, fun h => by omega, fun h => by omega, hb1⟩
  case round =>
    clear hb1
    obtain ⟨k, hk, rfl, hK0, hK1, hK2, hb⟩ := hrel
    by_cases h3 : k = 3
    · subst h3
      have a0 := Lib.hid (hK0 (by omega)); have a1 := Lib.hid (hK1 (by omega)); have a2 := Lib.hid (hK2 (by omega))
      clear hK0 hK1 hK2
      go_wp2_with fail
      go_ret
      exact ⟨ret_t (vB_t (by have := a0.out; have := a1.out; have := a2.out; omega)), hb⟩
    by_cases h0 : k = 0
    · subst h0
      have A0 := Lib.hid hK0; have A1 := Lib.hid hK1; have A2 := Lib.hid hK2
      clear hK0 hK1 hK2 h3
      by_cases hp : 0 ≤ m
      · have d1 : decide (m < 0) = false := decide_eq_false (by omega)
        by_cases hq : m ≤ 99
        · have d2 : decide (100 ≤ m) = false := decide_eq_false (by omega)
          go_wp2_with fail
          refine (limit_0 _).mono ?_
          rintro e w2 ⟨rfl, hb2⟩
          have hb3 := hb.trans (hb2.mono hb.size)
          go_wp2_with fail
          first
          | (go_roundw
             case rel => exact ⟨1, by omega, by go_num, fun _ => ⟨hp, hq⟩, fun h => by omega, fun h => by omega, hb3⟩
             case measure => simp [intOf])
          | exact ⟨⟨1, by omega, by go_num, fun _ => ⟨hp, hq⟩, fun h => by omega, fun h => by omega, hb3⟩, by simp [intOf]⟩
        · have d2 : decide (100 ≤ m) = true := decide_eq_true (by omega)
          go_wp2_with fail
          refine (limit_0 _).mono ?_
          rintro e w2 ⟨rfl, hb2⟩
          have hb3 := hb.trans (hb2.mono hb.size)
          go_wp2_with fail
          go_ret
          exact ⟨ret_f (vB_f (by omega)), hb3⟩
      · have d1 : decide (m < 0) = true := decide_eq_true (by omega)
        go_wp2_with fail
        go_ret
        exact ⟨ret_f (vB_f (by omega)), hb⟩
    by_cases h1 : k = 1
    · subst h1
      have A0 := Lib.hid hK0; have A1 := Lib.hid hK1; have A2 := Lib.hid hK2
      clear hK0 hK1 hK2 h3
      by_cases hp : 0 ≤ s
      · have d1 : decide (s < 0) = false := decide_eq_false (by omega)
        by_cases hq : s ≤ 59
        · have d2 : decide (60 ≤ s) = false := decide_eq_false (by omega)
          go_wp2_with fail
          refine (limit_1 _).mono ?_
          rintro e w2 ⟨rfl, hb2⟩
          have hb3 := hb.trans (hb2.mono hb.size)
          go_wp2_with fail
          first
          | (go_roundw
             case rel => exact ⟨2, by omega, by go_num, fun _ => A0.out (by omega), fun _ => ⟨hp, hq⟩, fun h => by omega, hb3⟩
             case measure => simp [intOf])
          | exact ⟨⟨2, by omega, by go_num, fun _ => A0.out (by omega), fun _ => ⟨hp, hq⟩, fun h => by omega, hb3⟩, by simp [intOf]⟩
        · have d2 : decide (60 ≤ s) = true := decide_eq_true (by omega)
          go_wp2_with fail
          refine (limit_1 _).mono ?_
          rintro e w2 ⟨rfl, hb2⟩
          have hb3 := hb.trans (hb2.mono hb.size)
          go_wp2_with fail
          go_ret
          exact ⟨ret_f (vB_f (by omega)), hb3⟩
      · have d1 : decide (s < 0) = true := decide_eq_true (by omega)
        go_wp2_with fail
        go_ret
        exact ⟨ret_f (vB_f (by omega)), hb⟩
    by_cases h2 : k = 2
    · subst h2
      have A0 := Lib.hid hK0; have A1 := Lib.hid hK1; have A2 := Lib.hid hK2
      clear hK0 hK1 hK2 h3
      by_cases hp : 0 ≤ f
      · have d1 : decide (f < 0) = false := decide_eq_false (by omega)
        by_cases hq : f ≤ 74
        · have d2 : decide (75 ≤ f) = false := decide_eq_false (by omega)
          go_wp2_with fail
          refine (limit_2 _).mono ?_
          rintro e w2 ⟨rfl, hb2⟩
          have hb3 := hb.trans (hb2.mono hb.size)
          go_wp2_with fail
          first
          | (go_roundw
             case rel => exact ⟨3, by omega, by go_num, fun _ => A0.out (by omega), fun _ => A1.out (by omega), fun _ => ⟨hp, hq⟩, hb3⟩
             case measure => simp [intOf])
          | exact ⟨⟨3, by omega, by go_num, fun _ => A0.out (by omega), fun _ => A1.out (by omega), fun _ => ⟨hp, hq⟩, hb3⟩, by simp [intOf]⟩
        · have d2 : decide (75 ≤ f) = true := decide_eq_true (by omega)
          go_wp2_with fail
          refine (limit_2 _).mono ?_
          rintro e w2 ⟨rfl, hb2⟩
          have hb3 := hb.trans (hb2.mono hb.size)
          go_wp2_with fail
          go_ret
          exact ⟨ret_f (vB_f (by omega)), hb3⟩
      · have d1 : decide (f < 0) = true := decide_eq_true (by omega)
        go_wp2_with fail
        go_ret
        exact ⟨ret_f (vB_f (by omega)), hb⟩
    omega
def trkB (n : Int) : Bool := btw n 0 99 || n == 170
def ptB (n : Int) : Bool := btw n 0 99 || btw n 160 162
def frB (q : Q.Fr) : Bool := btw q.ctl 0 15 && trkB q.trk && ptB q.pt && vB q.rm q.rs q.rf && vB q.am q.as q.af
end Go.Proofs.YtflmjdjkfognjaaGreat.W10
namespace Go.Proofs.YtflmjdjkfognjaaGreat.W10
open Go.RowKit
set_option linter.unusedVariables false
def nmb (m s f : Int) : Int := (60 * m + s) * 75 + f
theorem nmb_bd {m s f : Int} (h : vB m s f = true) : 0 ≤ nmb m s f ∧ nmb m s f < 450000 := by
  have := vB_true.1 h; unfold nmb; omega
set_option maxRecDepth 100000 in
theorem lba_any (m s f : Int) (w : World) (h : vB m s f = true) : Calls Tryz.prog 75 #[msfv m s f] w (R2B (.int .i64 (nmb m s f - 150)) (.int .i64 0) w) := by
  have HV := Lib.hid h
  have hbd := nmb_bd h
  have HN := Lib.hid (fun W => anumber_any m s f W (vB_true.1 h))
  clear h
  have HE : Hid ((60 * m + s) * 75 + f = nmb m s f) := Lib.hid rfl
  go_enter Tryz.func75, Tryz.ntmps75
  go_wp2_with fail
  refine (avalid_any m s f _).mono ?_
  rw [HV.out]
  rintro e w1 ⟨rfl, hb⟩
  have hM := (Bx.new w 36 [.int .i64 m, .int .i64 s, .int .i64 f]).call hb
  have hle := ((Below.refl w.heap.size w).alloc (Nat.le_refl _) (.cells #[.int .i64 m, .int .i64 s, .int .i64 f] 36)).trans (hb.mono (by simp))
  have c0 := hM.cell (i := 0) rfl
  have c1 := hM.cell (i := 1) rfl
  have c2 := hM.cell (i := 2) rfl
  clear hb hM
  go_wp2_with fail
  refine (HN.out _).mono ?_
  rw [HE.out]
  rintro e w2 ⟨rfl, hb2⟩
  go_wp2_with fail
  go_ret2
  exact ⟨rfl, hle.trans (hb2.mono hle.size)⟩
end Go.Proofs.YtflmjdjkfognjaaGreat.W10
