/- The law TocKeeps walked (chapter 14). -/
import Derived.Test.YtiioojlihapdaaaTkAps
import Derived.Test.YtiioojlihapdaaaTkSes
import Derived.Deep.RegionHeld3
import Derived.Deep.Cut
import Derived.Outline
namespace Go.Proofs.Ytiioojlihapdaaa
open Go.RowKit
set_option linter.unusedVariables false

namespace T
/-- an operation that ends without an error found the disc open -/
theorem Step.open {cap cl cl' : Int} {fin fin' : Bool} {l l' : List Trk} (hv : validR cap cl fin l) (h : Step cap cl fin l cl' fin' l') : fin = false := by
  have hdone : fin = true → ∀ i, i < l.length → (tr l i).sta = 2 := fun hf i hi => by
    have h1 := (hv.2.2.2.2.2.2.2 hf).2
    rw [if_pos (by omega)] at h1
    have h2 := okR.mono hv.2.2.2.2.2.1 (i + 1) (l.length - (i + 1)) (by omega)
    have e : i + 1 + (l.length - (i + 1)) = l.length := by omega
    rw [e, sB_succ] at h2
    exact (hv.2.2.2.2.2.1 i hi).2.2.2.2.2.2.2.2.2.2.2.2.2 (by omega)
  cases fin with
  | false => rfl
  | true =>
    rcases h with ⟨h0, _⟩ | ⟨_, _, k, c, h1, h2, _⟩ | ⟨_, _, k, h1, h2, _⟩ | ⟨h0, _⟩ | ⟨h0, _⟩
    · exact h0
    · exact absurd (hdone rfl k h1) h2
    · have := hdone rfl k h1; omega
    · exact h0
    · exact h0
end T

section
variable {P : Program} {t e : TypeId}
/-- 'v[:hi]' -/
theorem run_takeS (ht : P.underlying t = some (.slice e)) {sz : Nat} (hs : (P.info? e).map (·.size) = some sz) {v : Value} {w : World} {n : Nat} {f : Nat → List Value} (h : RdS w sz v n f) (hi : Nat) (h2 : hi ≤ n) :
    ∃ v', RdS w sz v' hi f ∧ ∀ (y : Int) (w' : World), y = hi → (Instr.slice t v none (some (.int .i64 y)) none).run P w' = .ok v' w' := by
  obtain ⟨a, c, b, off, rfl, hc, hcell⟩ := h
  cases hq : P.info? e with
  | none => simp [hq] at hs
  | some i =>
    have hs1 : i.size = sz := by simpa [hq] using hs
    refine ⟨.slice a hi c, ⟨a, c, b, off, rfl, by omega, fun j hj => hcell j (by omega)⟩, ?_⟩
    rintro y w' rfl
    have ha : ¬ c = 0 → Option.map (fun x => x.add 0) a = a := fun _ => by
      cases a with
      | none => rfl
      | some ad => simp [Addr.add]
    simp [Instr.slice, run_underlying ht, Instr.sliceBounds, run_sliceBound, sizeOf, typeInfo, hq, (by omega : hi ≤ c)]
    first | exact ha | skip
end
theorem rd3s {w : World} {b o : Nat} {x : Ses} (h : w.rangeAt b o (scs x)) :
    w.cell? ⟨b, o, none⟩ = some (.int .i64 x.1) ∧ w.cell? ⟨b, o + 1, none⟩ = some (.int .i64 x.2.1) ∧ w.cell? ⟨b, o + 2, none⟩ = some (.bool x.2.2) := ⟨h 0 _ rfl, h 1 _ rfl, h 2 _ rfl⟩
/-- two lists of sessions that read the same are equal -/
theorem sesEq_any (v u : Value) (n : Nat) (f : Nat → Ses) (w : World) (hv : RdS w 3 v n (fun i => scs (f i))) (hu : RdS w 3 u n (fun i => scs (f i))) (hn : n ≤ 110) :
    Calls Try.prog 18 #[v, u] w fun e w' => e = .returned (.bool true) ∧ ∃ m, w' = w.drewN m := by
  obtain ⟨a, c, b, off, rfl, hac, hcell⟩ := hv
  obtain ⟨a2, c2, b2, off2, rfl, hac2, hcell2⟩ := hu
  have HC := Lib.hid hcell; clear hcell
  have HC2 := Lib.hid hcell2; clear hcell2
  go_enter Try.func18, Try.ntmps18
  go_wp2_with fail
  go_loopw [13] (fun vi wr => ∃ (i : Nat), i ≤ n ∧ vi = .int .i64 i ∧ ∃ m, wr = w.drewN m) (fun vi _ => n - (intOf vi).toNat)
  case atStart => exact ⟨0, by omega, rfl, 0, rfl⟩
  case round =>
    obtain ⟨i, hi, rfl, m, rfl⟩ := hrel
    by_cases hlt : i < n
    · obtain ⟨ha, hrange⟩ := HC.out i hlt
      obtain ⟨ha2, hrange2⟩ := HC2.out i hlt
      replace hrange : w.rangeAt b (off + i * 3) (scs (f i)) := hrange
      replace hrange2 : w.rangeAt b2 (off2 + i * 3) (scs (f i)) := hrange2
      generalize f i = x at hrange hrange2
      have hix := fun w' => run_idxS Try.underlying42 Try.sizeSes (cap := c) ha hlt (i : Int) rfl w'
      have hix2 := fun w' => run_idxS Try.underlying42 Try.sizeSes (cap := c2) ha2 hlt (i : Int) rfl w'
      obtain ⟨hc0, hc1, hc2⟩ := rd3s hrange
      obtain ⟨hf0, hf1, hf2⟩ := rd3s hrange2
      have Ha := Lib.hid ha; clear ha
      have Ha2 := Lib.hid ha2; clear ha2
      clear hrange hrange2
      go_wp2_with fail
      go_quiet (fail)
      go_wp2_with fail
      go_roundw
      case rel => exact ⟨i + 1, by omega, by go_num, _, rfl⟩
      case measure => simp [intOf]; omega
    · go_wp2_with fail
      go_ret
      exact ⟨rfl, _, rfl⟩

/-- the table that holds between two operations -/
structure HoldT (cap : Int) (N : Nat) (cl : Int) (fin : Bool) (sv : Value) (l : List T.Trk) (W : World) : Prop where
  valid : T.validR cap cl fin l
  box : Bx W N 24 [.int .i64 cl, .bool fin, sv]
  rd : RdK W sv l
section
variable {cap : Int} {N gd : Nat} {cl : Int} {fin : Bool} {sv : Value} {l : List T.Trk} {W W' : World}
theorem HoldT.call (h : HoldT cap N cl fin sv l W) (hb : Below W.heap.size W W') : HoldT cap N cl fin sv l W' := ⟨h.valid, h.box.call hb, h.rd.keep hb⟩
theorem HoldT.put (h : HoldT cap N cl fin sv l W) {cl' : Int} {fin' : Bool} {sv' : Value} {l' : List T.Trk} (hv : T.validR cap cl' fin' l') (hr : RdK W sv' l') :
    HoldT cap N cl' fin' sv' l' (((W.setCell ⟨N, 0, none⟩ (.int .i64 cl')).setCell ⟨N, 1, none⟩ (.bool fin')).setCell ⟨N, 2, none⟩ sv') :=
  ⟨hv, ((h.box.set 0 _).set 1 _).set 2 _, B1.rd (cl := cl) (fin := fin) (sv := sv) h.box hr _ _ _⟩
end
theorem atD_take {α : Type} {d : α} {l s : List α} {n i : Nat} (h : l.take n = s) (hi : i < n) : atD d l i = atD d s i := by
  rw [← h]; simp [atD, hi]
/-- so far in a list of n elements, from the world w0 -/
def UpTo (n : Nat) (w0 : World) (v : Value) (wr : World) : Prop := ∃ i : Nat, i ≤ n ∧ v = .int .i64 i ∧ Below w0.heap.size w0 wr

set_option maxRecDepth 100000 in
set_option maxHeartbeats 8000000 in
theorem keeps_ok (cap : Int) (l : List Ac) (av : Value) (w : World) (h1 : 1 ≤ cap) (h2 : cap ≤ 449849) (hr : RdA w av l) (hn : l.length ≤ 40) :
    Calls Try.prog 5 #[.int .i64 cap, av] w (RB true w) := by
  obtain ⟨⟨sa, sc, ab, ao, rfl, hac, hcell⟩, hwf⟩ := hr
  have HC := Lib.hid hcell; clear hcell
  have HWF := Lib.hid hwf; clear hwf
  go_enter Try.func5, Try.ntmps5
  go_wp2_with fail
  refine (awake_any _).mono ?_
  rintro e w1 ⟨rfl, hb1⟩
  go_wp2_with fail
  have hH0 : HoldT cap w1.heap.size 0 false (.slice none 0 0) [] (w1.alloc (.cells #[.int .i64 0, .bool false, .slice none 0 0] 24)) :=
    ⟨T.valid_nil h1 h2, Bx.new _ _ _, RdK.nil _⟩
  have hbw := hb1.alloc hb1.size (.cells #[.int .i64 0, .bool false, .slice none 0 0] 24)
  go_loopw [31] (fun vi wr => ∃ (k : Nat) (cl : Int) (fin : Bool) (sv : Value) (tl : List T.Trk), k ≤ l.length ∧ vi = .int .i64 k ∧ HoldT cap w1.heap.size cl fin sv tl wr ∧ Below w.heap.size w wr) (fun vi _ => l.length - (intOf vi).toNat)
  case atStart => exact ⟨0, 0, false, .slice none 0 0, [], by omega, rfl, hH0, hbw⟩
  case round =>
    clear hbw hH0
    obtain ⟨k, cl, fin, sv, tl, hk, rfl, hH, hb⟩ := hrel
    obtain ⟨wo, rfl⟩ : ∃ wo : World, wo = wr := ⟨_, rfl⟩
    obtain ⟨ta, tc, rfl, htac⟩ := RdS.form hH.rd
    by_cases hlt : k < l.length
    · obtain ⟨ha, hrange⟩ := HC.out k hlt
      obtain ⟨_, wfa, wfb⟩ := HWF.out k hlt
      have hrg : wo.rangeAt ab (ao + k * 4) (acs (ac l k)) := fun j u hu => (hb.cell (p := ⟨ab, ao + k * 4 + j, none⟩) (World.block_lt_of_cell? w _ (hrange j u hu))).trans (hrange j u hu)
      clear hrange
      generalize ac l k = x at hrg wfa wfb
      obtain ⟨xk, xa, xb, xf⟩ := x
      simp only at wfa wfb
      obtain ⟨hc0, hc1, hc2, hc3⟩ := rd4 hrg
      clear hrg
      have hix := fun w' => run_idxS Try.underlying35 Try.sizeAct (cap := sc) ha hlt _ rfl w'
      have Ha := Lib.hid ha; clear ha
      have ht0 := hH.box.cell (i := 0) rfl
      have ht1 := hH.box.cell (i := 1) rfl
      have ht2 := hH.box.cell (i := 2) rfl
      have hN := hH.box.lt
      simp only at hc0 hc1 hc2 hc3
      have hbA := (Below.refl wo.heap.size wo).alloc (Nat.le_refl _) (.cells #[.int .i64 xk, .int .i64 xa, .int .i64 xb, .bool xf] 26)
      go_wp2_with fail
      refine (do_any cap cl fin _ tl xk xa xb xf _ (RdK.keep hH.rd hbA) (few_of_valid hH.valid) wfa wfb).mono ?_
      have hD := doR_does hH.valid xk xa xb xf
      generalize doR cap cl fin tl xk xa xb xf = R at hD ⊢
      obtain ⟨rcl, rfin, rl, rcode⟩ := R
      rintro e w3 ⟨v3, rfl, hr3, hb3⟩
      obtain ⟨a3, c3, rfl, _⟩ := RdS.form hr3
      have hB3 := hbA.trans (hb3.mono hbA.size)
      have hH3 := hH.call hB3
      have hb3w := hb.trans (hB3.mono hb.size)
      have hz3 := hb3.size
      simp only [World.size_alloc] at hz3
      simp only at hr3 hD ⊢
      clear hb3 hB3 hbA hc0 hc1 hc2 hc3 ht0 ht1 ht2 hH hb
      have HD := Lib.hid hD; clear hD
      by_cases he : rcode = 0
      · subst he
        have hX3 := Bx.new w3 24 [.int .i64 rcl, .bool rfin, .slice a3 rl.length c3]
        have hbe := (Below.refl w3.heap.size w3).alloc (Nat.le_refl _) (.cells #[.int .i64 rcl, .bool rfin, .slice a3 rl.length c3] 24)
        have hH4 := hH3.call hbe
        have hr4 := RdK.keep hr3 hbe
        have hb4 := hb3w.trans (hbe.mono hb3w.size)
        have hz4 : w3.heap.size < (w3.alloc (.cells #[.int .i64 rcl, .bool rfin, .slice a3 rl.length c3] 24)).heap.size := by simp
        obtain ⟨gX, hgX⟩ : ∃ gX, gX = w3.heap.size := ⟨_, rfl⟩
        go_upto_region 13 with (fail)
        rw [← hgX] at hX3 hz4
        have hNX : w1.heap.size < gX := by have := hH3.box.lt; omega
        simp only [← hgX]
        clear hr3 hb3w hH3 hbe hgX
        generalize w3.alloc (.cells #[.int .i64 rcl, .bool rfin, .slice a3 rl.length c3] 24) = w4 at hX3 hH4 hr4 hb4 hz4 ⊢
        have hS := HD.out.ok rfl
        simp only at hS
        obtain rfl := hS.open hH4.valid
        obtain ⟨hkn, hkc, hkc2, hkk⟩ := hS.kept hH4.valid
        have hV' := hS.valid hH4.valid
        have HSs := Lib.hid (hS.sess hH4.valid)
        clear hS
        have HV' := Lib.hid hV'
        have HK := Lib.hid hkk; clear hkk
        obtain ⟨cn, rfl⟩ : ∃ cn : Nat, cl = cn := ⟨cl.toNat, by have := hH4.valid.2.2.2.1; omega⟩
        have hq0 := hH4.box.cell (i := 0) rfl
        have hq1 := hH4.box.cell (i := 1) rfl
        have hq2 := hH4.box.cell (i := 2) rfl
        have hx0 := hX3.cell (i := 0) rfl
        have hx1 := hX3.cell (i := 1) rfl
        have hx2 := hX3.cell (i := 2) rfl
        have hql := hH4.box.lt
        clear hV'
        go_wp2_with fail
        refine (valid_any cap rcl rfin _ rl _ hr4 (few_of_valid HV'.out)).mono ?_
        unfold ValPost
        rw [T.validB_true.2 HV'.out]
        rintro e w5 ⟨rfl, hb5⟩
        have hH5 := hH4.call hb5
        have hr5 := hr4.keep hb5
        have hX5 := hX3.call hb5
        have hb5w := hb4.trans (hb5.mono hb4.size)
        have hz5 := hb5.size
        clear hH4 hr4 hX3 hb4 hb5 hq0 hq1 hq2 hx0 hx1 hx2
        have hq0 := hH5.box.cell (i := 0) rfl
        have hq1 := hH5.box.cell (i := 1) rfl
        have hq2 := hH5.box.cell (i := 2) rfl
        have hx0 := hX5.cell (i := 0) rfl
        have hx1 := hX5.cell (i := 1) rfl
        have hx2 := hX5.cell (i := 2) rfl
        have hcn : cn ≤ 16 := by have := hH5.valid.2.2.2.2.1; omega
        have htl : tl.length ≤ 99 := hH5.valid.2.2.1
        go_wp2_with fail
        clear hq0 hq1 hq2 hx0 hx1 hx2
        go_loopw [92] (fun vi wr => UpTo tl.length w5 vi wr) (fun vi _ => tl.length - (intOf vi).toNat)
        case atStart => exact ⟨0, by omega, rfl, Below.refl _ _⟩
        case round =>
          obtain ⟨i, hi, rfl, hb6⟩ := hrel
          by_cases hil : i < tl.length
          · obtain ⟨za, zc, zb, zo, hzv, hzac, hzcell⟩ := hH5.rd.keep hb6
            obtain ⟨rfl, rfl⟩ : ta = za ∧ tc = zc := by injection hzv with e1 e2 e3; exact ⟨e1, e3⟩
            obtain ⟨ya, yc, yb, yo, hyv, hyac, hycell⟩ := hr5.keep hb6
            obtain ⟨rfl, rfl⟩ : a3 = ya ∧ c3 = yc := by injection hyv with e1 e2 e3; exact ⟨e1, e3⟩
            have hirl : i < rl.length := by omega
            obtain ⟨hza, hzr⟩ := hzcell i hil
            obtain ⟨hya, hyr⟩ := hycell i hirl
            replace hzr : wr.rangeAt zb (zo + i * 7) (tcs (T.tr tl i)) := hzr
            replace hyr : wr.rangeAt yb (yo + i * 7) (tcs (T.tr rl i)) := hyr
            have hkp := HK.out i hil
            have hX6 := hX5.call hb6
            have hx0 := hX6.cell (i := 0) rfl
            have hx1 := hX6.cell (i := 1) rfl
            have hx2 := hX6.cell (i := 2) rfl
            have hgl := hX6.lt
            have hixz := fun w' => run_idxS Try.underlying22 Try.sizeTrack (cap := tc) hza hil (i : Int) rfl w'
            have hixy := fun w' => run_idxS Try.underlying22 Try.sizeTrack (cap := c3) hya hirl (i : Int) rfl w'
            have Hza := Lib.hid hza; clear hza
            have Hya := Lib.hid hya; clear hya
            clear hzv hyv hzcell hycell
            generalize T.tr tl i = x at hzr hkp
            generalize T.tr rl i = y at hyr hkp
            obtain ⟨x0, x1, x2, x3, x4, x5, x6⟩ := x
            obtain ⟨y0, y1, y2, y3, y4, y5, y6⟩ := y
            obtain ⟨kp1, kp2, kp3, kp4, kp5⟩ := hkp
            simp only at kp1 kp2 kp3 kp4 kp5
            subst kp3 kp4
            by_cases hst : x5 = 2
            · have hxy := kp1 hst
              simp only [T.Trk.mk.injEq] at hxy
              obtain ⟨rfl, _, _, rfl, rfl, rfl, rfl⟩ := hxy
              subst hst
              obtain ⟨hc0, hc1, hc2, hc3, hc4, hc5, hc6⟩ := rd7 hzr
              obtain ⟨hd0, hd1, hd2, hd3, hd4, hd5, hd6⟩ := rd7 hyr
              have hzl : zb < wr.heap.size := World.block_lt_of_cell? wr _ hc0
              have hyl : yb < wr.heap.size := World.block_lt_of_cell? wr _ hd0
              clear kp1 kp2 kp5 hzr hyr
              go_wp2_with fail
              go_roundw
              case rel =>
                have hU : UpTo tl.length w5 (.int .i64 ((i : Int) + 1)) _ := ⟨i + 1, by omega, by go_num, (hb6.alloc hb6.size (.cells #[.int .i64 y0, .int .i64 y1, .int .i64 y2, .int .i64 y3, .int .i64 y4, .int .i64 2, .int .i64 y6] 40)).alloc (by simp only [World.size_alloc]; have := hb6.size; omega) (.cells #[.int .i64 y0, .int .i64 y1, .int .i64 y2, .int .i64 y3, .int .i64 y4, .int .i64 2, .int .i64 y6] 40)⟩
                first | exact hU | ((repeat apply Exists.intro); exact ⟨hU, rfl⟩) | ((repeat apply Exists.intro); exact ⟨hU, rfl, rfl, rfl, rfl, rfl⟩)
              case measure => simp [intOf]; omega
            · have hsb : (x5 == 2) = false := by rw [beq_eq_false_iff_ne]; exact hst
              obtain ⟨hc0, hc1, hc2, hc3, hc4, hc5, hc6⟩ := rd7 hzr
              obtain ⟨hd0, hd1, hd2, hd3, hd4, hd5, hd6⟩ := rd7 hyr
              have hzl : zb < wr.heap.size := World.block_lt_of_cell? wr _ hc0
              have hyl : yb < wr.heap.size := World.block_lt_of_cell? wr _ hd0
              clear kp1 hzr hyr hst
              go_wp2_with fail
              go_roundw
              case rel =>
                have hU : UpTo tl.length w5 (.int .i64 ((i : Int) + 1)) _ := ⟨i + 1, by omega, by go_num, (hb6.alloc hb6.size (.cells #[.int .i64 x0, .int .i64 y1, .int .i64 y2, .int .i64 x3, .int .i64 x4, .int .i64 x5, .int .i64 x6] 40)).alloc (by simp only [World.size_alloc]; have := hb6.size; omega) (.cells #[.int .i64 y0, .int .i64 y1, .int .i64 y2, .int .i64 y3, .int .i64 y4, .int .i64 y5, .int .i64 y6] 40)⟩
                first | exact hU | ((repeat apply Exists.intro); exact ⟨hU, rfl⟩) | ((repeat apply Exists.intro); exact ⟨hU, rfl, rfl, rfl, rfl, rfl⟩)
              case measure => simp [intOf]; omega
          · obtain rfl : i = tl.length := by omega
            have hH7 := hH5.call hb6
            have hr7 := hr5.keep hb6
            have hX7 := hX5.call hb6
            have hb7 := hb5w.trans (hb6.mono hb5w.size)
            have hql7 := hH7.box.lt
            clear hH5 hr5 hX5 hb5w hb6 HK
            have HCA := Lib.hid (fun W (hW : Below wr.heap.size wr W) => sessions_any cn false (.slice ta tl.length tc) tl W (hH7.rd.keep hW) (few_of_valid hH7.valid))
            have HCB := Lib.hid (fun W (hW : Below wr.heap.size wr W) => sessions_any rcl rfin (.slice a3 rl.length c3) rl W (hr7.keep hW) (few_of_valid HV'.out))
            have HS : Hid (∀ W, Below wr.heap.size wr W → Below wr.heap.size wr W ∧ W.cell? ⟨w1.heap.size, 0, none⟩ = some (.int .i64 cn) ∧ W.cell? ⟨w1.heap.size, 1, none⟩ = some (.bool false) ∧ W.cell? ⟨w1.heap.size, 2, none⟩ = some (.slice ta tl.length tc) ∧
                W.cell? ⟨gX, 0, none⟩ = some (.int .i64 rcl) ∧ W.cell? ⟨gX, 1, none⟩ = some (.bool rfin) ∧ W.cell? ⟨gX, 2, none⟩ = some (.slice a3 rl.length c3)) := Lib.hid fun W hW => by
              have q1 := hH7.box.call hW
              have q2 := hX7.call hW
              exact ⟨hW, q1.cell (i := 0) rfl, q1.cell (i := 1) rfl, q1.cell (i := 2) rfl, q2.cell (i := 0) rfl, q2.cell (i := 1) rfl, q2.cell (i := 2) rfl⟩
            go_upto_region 22 with (fail)
            go_region_held3 (fun W => Below wr.heap.size wr W ∧ W.cell? ⟨w1.heap.size, 0, none⟩ = some (.int .i64 cn) ∧ W.cell? ⟨w1.heap.size, 1, none⟩ = some (.bool false) ∧ W.cell? ⟨w1.heap.size, 2, none⟩ = some (.slice ta tl.length tc) ∧
                W.cell? ⟨gX, 0, none⟩ = some (.int .i64 rcl) ∧ W.cell? ⟨gX, 1, none⟩ = some (.bool rfin) ∧ W.cell? ⟨gX, 2, none⟩ = some (.slice a3 rl.length c3))
              (first | exact HS.out _ ((Below.refl _ _).drew) | exact HS.out _ ‹_›)
              (first
                | (go_at_call_of 17 (Value.agg #[.int .i64 (cn : Int), .bool false, .slice ta tl.length tc]); refine (HCA.out _ (And.left ‹Below wr.heap.size wr _ ∧ _›)).mono ?_; rintro e wA ⟨vA, rfl, hA, hbA⟩; have hbA9 := (And.left ‹Below wr.heap.size wr _ ∧ _›).trans (hbA.mono (And.left ‹Below wr.heap.size wr _ ∧ _›).size))
                | (go_at_call_of 17 (Value.agg #[.int .i64 rcl, .bool rfin, .slice a3 rl.length c3]); refine (HCB.out _ (And.left ‹Below wr.heap.size wr _ ∧ _›)).mono ?_; rintro e wB ⟨vB, rfl, hB, hbB⟩; have hbB9 := (And.left ‹Below wr.heap.size wr _ ∧ _›).trans (hbB.mono (And.left ‹Below wr.heap.size wr _ ∧ _›).size)))
            all_goals
              first
                | (have hA2 := hA.keep hbB
                   have hB2 := hB
                   have hb8 := hbB9
                   clear hA hB hbA hbB hbA9 hbB9
                   obtain ⟨W2, rfl⟩ : ∃ W2, W2 = wB := ⟨_, rfl⟩)
                | (have hB2 := hB.keep hbA
                   have hA2 := hA
                   have hb8 := hbA9
                   clear hA hB hbA hbB hbA9 hbB9
                   obtain ⟨W2, rfl⟩ : ∃ W2, W2 = wA := ⟨_, rfl⟩)
              obtain ⟨SS, hs1, hs2, hs3⟩ := HSs.out
              have hsc : SS.length = cn := by omega
              rw [hsc] at hs2 hs3
              have hla : cn ≤ (T.sess cn tl tl.length).length := by have := congrArg List.length hs2; rw [List.length_take] at this; omega
              have hlb : cn ≤ (T.sess rcl rl rl.length).length := by have := congrArg List.length hs3; rw [List.length_take] at this; omega
              have hcg : ∀ i, i < cn → scs (atD sez (T.sess cn tl tl.length) i) = scs (atD sez (T.sess rcl rl rl.length) i) := fun i hi => by
                rw [atD_take hs2 hi, atD_take hs3 hi]
              generalize T.sess cn tl tl.length = SA at hA2 hla hcg
              generalize T.sess rcl rl rl.length = SB at hB2 hlb hcg
              clear hs1 hs2 hs3 hsc HSs HCA HCB HS
              obtain ⟨pa, pc, rfl, _⟩ := hA2.form
              obtain ⟨qa, qc, rfl, _⟩ := hB2.form
              obtain ⟨va', ha', hcA⟩ := run_takeS Try.underlying42 Try.sizeSes hA2 cn hla
              obtain ⟨vb', hb', hcB⟩ := run_takeS Try.underlying42 Try.sizeSes hB2 cn hlb
              have hb'' := RdS.congr hb' (g := fun i => scs (atD sez SA i)) hcg
              have hcA := fun w' => hcA cn w' rfl
              have hcB := fun w' => hcB cn w' rfl
              have hEq : Hid (∀ n, Calls Try.prog 18 #[va', vb'] (W2.drewN n) fun e w' => e = .returned (.bool true) ∧ ∃ m, w' = (W2.drewN n).drewN m) := Lib.hid fun n => sesEq_any _ _ cn _ _ (RdS.drewN ha' n) (RdS.drewN hb'' n) (by omega)
              clear hcg ha' hb' hb'' hA2 hB2
              have hH8 := hH7.call hb8
              have hr8 := hr7.keep hb8
              have hX8 := hX7.call hb8
              have hb9 := hb7.trans (hb8.mono hb7.size)
              have hql8 := hH8.box.lt
              have hqx8 := hX8.lt
              have hqf8 := hH8.box.free
              clear hH7 hr7 hX7 hb7 hb8
              have hq0 := hH8.box.cell (i := 0) rfl
              have hq1 := hH8.box.cell (i := 1) rfl
              have hq2 := hH8.box.cell (i := 2) rfl
              have hx0 := hX8.cell (i := 0) rfl
              have hx1 := hX8.cell (i := 1) rfl
              have hx2 := hX8.cell (i := 2) rfl
              have hd1 : decide (SA.length < cn) = false := decide_eq_false (by omega)
              have hd2 : decide (SB.length < cn) = false := decide_eq_false (by omega)
              clear hla hlb
              go_upto_region 23 with (fail)
              go_quiet ((go_at_call 18; exact Calls.quiet_of (hEq.out _)))
              go_wp2_with fail
              have hbq := Go.Proofs.Ytiioojlihapdaaa.Below.drewN (Below.refl W2.heap.size W2) nq
              exact ⟨⟨k + 1, rcl, rfin, _, rl, by omega, by go_num, (hH8.call hbq).put HV'.out (hr8.keep hbq), (((hb9.trans (hbq.mono hb9.size)).setCell hb1.size _).setCell hb1.size _).setCell hb1.size _⟩, by simp [intOf]; omega⟩
      · have he' : (rcode != 0) = true := by rw [bne_iff_ne]; exact he
        have hbad := HD.out.bad he
        simp only [Res.bad, Res.mk.injEq, and_true] at hbad
        obtain ⟨rfl, rfl, rfl⟩ := hbad
        clear he
        go_wp2_with fail
        go_roundw
        case rel => exact ⟨k + 1, cl, fin, _, tl, by omega, by go_num, hH3.call ((Below.refl _ _).alloc (Nat.le_refl _) _), hb3w.alloc hb3w.size _⟩
        case measure => simp [intOf]; omega
    · go_wp2_with fail
      go_ret
      exact ⟨rfl, hb⟩
set_option maxRecDepth 100000 in
set_option maxHeartbeats 2000000 in
theorem keeps_out (cap : Int) (l : List Ac) (sa : Option Addr) (sc : Nat) (w : World) (hn : l.length ≤ 9223372036854775807) (h : ¬ (1 ≤ cap ∧ cap ≤ 449849 ∧ l.length ≤ 40)) :
    Calls Try.prog 5 #[.int .i64 cap, .slice sa l.length sc] w (RB true w) := by
  by_cases h4 : l.length ≤ 40
  · by_cases h1 : 1 ≤ cap
    · have h2 : ¬ cap ≤ 449849 := fun h2 => h ⟨h1, h2, h4⟩
      clear h
      go_enter Try.func5, Try.ntmps5
      go_wp2_with fail
      refine (awake_any _).mono ?_
      rintro e w1 ⟨rfl, hb1⟩
      go_wp2_with fail
      go_ret
      exact ⟨rfl, hb1⟩
    · clear h
      go_enter Try.func5, Try.ntmps5
      go_wp2_with fail
      refine (awake_any _).mono ?_
      rintro e w1 ⟨rfl, hb1⟩
      go_wp2_with fail
      go_ret
      exact ⟨rfl, hb1⟩
  · clear h
    go_enter Try.func5, Try.ntmps5
    go_wp2_with fail
    refine (awake_any _).mono ?_
    rintro e w1 ⟨rfl, hb1⟩
    go_wp2_with fail
    go_ret
    exact ⟨rfl, hb1⟩

/-- the law -/
theorem keeps_law (w : World) (cap : Int) (hc : (Lit.int .i64 cap).wf = true) (v : Value) (l : List Ac) (h : CameA w v l) :
    Calls Try.prog 5 #[.int .i64 cap, v] w fun e w' => e = .returned (.bool true) ∧ Below w.heap.size w w' := by
  obtain ⟨hr, hn⟩ := h
  by_cases hh : 1 ≤ cap ∧ cap ≤ 449849 ∧ l.length ≤ 40
  · exact keeps_ok cap l v w hh.1 hh.2.1 hr hh.2.2
  · obtain ⟨sa, sc, rfl, _⟩ := RdS.form hr.1
    exact keeps_out cap l sa sc w hn hh
end Go.Proofs.Ytiioojlihapdaaa
