/- Chapter 9 for chapter 12: scratches that came in, Lost of both, Scratch of the package. -/
import Derived.Test.YtpncjadhpnapnaaMq00
import Derived.Test.YtpncjadhpnapnaaOpS
import Derived.Deep.RegionHeld3
import Derived.RegionTactic
import Derived.BigRegion
namespace Go.Proofs.Ytpncjadhpnapnaa.C9
open Go.ChangeShapes Go.WideShapes Go.RowKit Go.Deep D13 Ap
set_option linter.unusedVariables false

section
variable {H : Type} {enc : TypeId × Value → H} {w : World} {base b0 : Nat} {sp : Nat → Bool} {held : Bool}
theorem Try.cellsSc : Try.prog.cellsOf 36 = 2 := by kernel_rfl
theorem Try.cellsI9 : Try.prog.cellsOf 3 = 1 := by kernel_rfl
set_option maxRecDepth 100000 in
theorem scr_cells (n : Nat) (cs : List Value) (x : DataW H × List MemPlace) (h : DataW.trod enc Try.prog w base sp held n 36 cs = some x) : ∃ t : Sc, cs = scc t ∧ Wf t := by
  obtain ⟨ys, n', _, _, hlen, hyl, hf⟩ := DataW.trod_struct Try.underlying36 h
  rw [Try.cellsSc] at hlen
  match cs, hlen with
  | [c0, c1], _ =>
    have g0 : DataW.trod enc Try.prog w base sp held n' 3 (([c0, c1].drop 0).take (Try.prog.cellsOf 3)) = ys[0]? := hf 0 _ rfl
    have g1 : DataW.trod enc Try.prog w base sp held n' 3 (([c0, c1].drop 1).take (Try.prog.cellsOf 3)) = ys[1]? := hf 1 _ rfl
    rw [Try.cellsI9] at g0 g1
    simp only [List.drop, List.take] at g0 g1
    obtain ⟨a0, e0, w0⟩ := leaf_int Try.underlying3 g0 (some_at hyl (by decide))
    obtain ⟨a1, e1, w1⟩ := leaf_int Try.underlying3 g1 (some_at hyl (by decide))
    simp only [List.cons.injEq, and_true] at e0 e1
    subst e0 e1
    exact ⟨⟨a0, a1⟩, rfl, w0, w1⟩
/-- a slice of scratches that came in -/
def CameSc (w : World) (v : Value) (l : List Sc) : Prop := RdSc w v l ∧ (∀ i, i < l.length → Wf (scA l i)) ∧ l.length ≤ 9223372036854775807
set_option maxRecDepth 100000 in
theorem open_cscrs {v : Value} {d : DataW H} {ps : List MemPlace} {r : Reach} (hval : Value.okWide Try.prog w r b0 22 v) (hd : DataW.Trod enc Try.prog w base sp held 22 v d ps) : ∃ l, CameSc w v l := by
  obtain ⟨a, len, cap, rfl⟩ := okWide_slice Try.underlying22 hval
  obtain ⟨fuel, hf⟩ := hd
  obtain ⟨l, h1, h2, h3⟩ := open_rdS scz scc Wf Try.underlying22 Try.cellsSc (by omega) (fun n cs x h => scr_cells n cs x h) (by simpa [Value.cells] using hf)
  exact ⟨l, h1, h3, h2⟩
end
/-- Lost of both, for any numbers -/
theorem plost_any (d : Int) (v : Value) (l : List Sc) (w : World) (h : CameSc w v l) : Calls Try.prog 12 #[.int .i64 d, v] w (LostP (lostR d l) w) := by
  obtain ⟨hr, hwf, hl⟩ := h
  unfold lostR
  by_cases hd : d < 1 ∨ 401408 < d
  · rw [if_pos hd]
    exact plost_range d v l w hr hd
  · rw [if_neg hd]
    obtain ⟨n, rfl⟩ : ∃ n : Nat, d = n := ⟨d.toNat, by omega⟩
    exact plost_ok n v l w (by omega) (by omega) hr hwf hl
theorem rlost_any (d : Int) (v : Value) (l : List Sc) (w : World) (h : CameSc w v l) : Calls Try.prog 51 #[.int .i64 d, v] w (LostP (lostR d l) w) := by
  obtain ⟨hr, hwf, hl⟩ := h
  unfold lostR
  by_cases hd : d < 1 ∨ 401408 < d
  · rw [if_pos hd]
    exact rlost_range d v l w hr hd
  · rw [if_neg hd]
    obtain ⟨n, rfl⟩ : ∃ n : Nat, d = n := ⟨d.toNat, by omega⟩
    rw [Int.toNat_natCast]
    by_cases hf : fitA (n + 108) l = false
    · rw [if_pos hf]
      exact rlost_fit n v l w (by omega) (by omega) hr hwf hl hf
    · rw [if_neg hf]
      exact rlost_ok n v l w (by omega) (by omega) hr hwf hl (by simpa using hf)
theorem CameSc.keep {w w' : World} {v : Value} {l : List Sc} (h : CameSc w v l) (hb : Below w.heap.size w w') : CameSc w' v l := ⟨RdD.keep h.1 hb, h.2⟩
def frA (F : List (List UInt8)) (g : Nat) : List UInt8 := (F[g]?).getD []
def ssD (x : List UInt8) : List Value := [.string (str x)]
theorem ssD_len (x : List UInt8) : (ssD x).length = 1 := rfl
theorem ssD_one (x : List UInt8) : ∀ u ∈ ssD x, u.oneCell' = true := fun u hu => by
  simp only [ssD, List.mem_singleton] at hu
  subst hu
  rfl
def RdStr (w : World) (v : Value) (l : List (List UInt8)) : Prop := RdD [] ssD 1 w v l
theorem ss_append (l : List (List UInt8)) (x : List UInt8) : flD ssD (l ++ [x]) = flD ssD l ++ [.string (str x)] := by rw [flD_append, flD_single]; rfl
theorem Try.infoStr9 : (Try.prog.info? 9).map (fun i => (i.zero, i.size, i.bytes)) = some (some (.string ⟨#[]⟩), 1, 16) := by kernel_rfl
def EncP (R : List (List UInt8) × Int) (w : World) (e : Ending) (w' : World) : Prop := ∃ v, e = .returned (.tuple #[v, .int .i64 R.2]) ∧ w'.ownsRow w.heap.size 9 1 v R.1.length (flD ssD R.1) ∧ Below w.heap.size w w'
theorem EncP.none (c : Int) {w : World} {e : Ending} {w' : World} (he : e = .returned (.tuple #[.slice none 0 0, .int .i64 c])) (hb : Below w.heap.size w w') : EncP ([], c) w e w' := ⟨_, he, ⟨rfl, .inl ⟨rfl, rfl⟩⟩, hb⟩
/-- frames of which the marked ones are empty -/
def scP (F : List (List UInt8)) (m : Nat → Bool) : List (List UInt8) := (List.range F.length).map fun g => if m g = true then [] else frA F g
theorem scP_length (F : List (List UInt8)) (m : Nat → Bool) : (scP F m).length = F.length := by simp [scP]
theorem scP_congr {F : List (List UInt8)} {m m' : Nat → Bool} (h : ∀ g, g < F.length → m g = m' g) : scP F m = scP F m' := List.map_congr_left fun g hg => by rw [h g (List.mem_range.1 hg)]
theorem scP_set (F : List (List UInt8)) (m : Nat → Bool) (k : Nat) : (scP F m).set k [] = scP F (fun g => m g || g == k) := by
  apply List.ext_getElem?
  intro g
  rw [List.getElem?_set, scP_length]
  by_cases hg : g < F.length
  · by_cases hk : k = g
    · subst hk
      rw [if_pos rfl, if_pos hg]
      simp [scP, hg]
    · rw [if_neg hk]
      have hk' : ¬ g = k := fun h => hk h.symm
      simp [scP, hg, hk']
  · rw [List.getElem?_eq_none (l := scP F _) (by rw [scP_length]; omega), List.getElem?_eq_none (l := scP F _) (by rw [scP_length]; omega)]
    split
    · rw [if_neg (by omega)]
    · rfl
theorem scP_none (F : List (List UInt8)) : scP F (gon []) = F := by
  apply List.ext_getElem
  · rw [scP_length]
  · intro i h1 h2
    simp [scP, gon, frA, h2]
/-- the marks while a scratch is worked off -/
def cvX (l : List Sc) (s : Sc) (i : Nat) (g : Nat) : Bool := gon l g || covX s i g
theorem scP_zero (F : List (List UInt8)) (l : List Sc) (s : Sc) : scP F (cvX l s 0) = scP F (gon l) := scP_congr fun g _ => by
  have : covX s ((0 : Nat) : Int) g = false := by
    unfold covX
    rw [Bool.and_eq_false_iff]
    by_cases h : s.f ≤ (g : Int)
    · right; rw [decide_eq_false_iff_not]; omega
    · left; rw [decide_eq_false_iff_not]; exact h
  show (gon l g || covX s ((0 : Nat) : Int) g) = gon l g
  rw [this, Bool.or_false]
theorem scP_step (F : List (List UInt8)) (l : List Sc) (s : Sc) (i k : Nat) (hk : (k : Int) = s.f + i) : (scP F (cvX l s i)).set k [] = scP F (cvX l s (i + 1)) := by
  rw [scP_set]
  refine scP_congr fun g _ => ?_
  unfold cvX
  rw [Bool.or_assoc]
  congr 1
  rw [Bool.eq_iff_iff]
  simp only [covX, Bool.or_eq_true, Bool.and_eq_true, decide_eq_true_eq, beq_iff_eq]
  omega
theorem scP_all (F : List (List UInt8)) (l : List Sc) (s : Sc) (i : Nat) (hi : (i : Int) = s.c) : scP F (cvX l s i) = scP F (gon (l ++ [s])) := scP_congr fun g _ => by
  rw [gon_snoc, ← hi]
  rfl
def scrR (F : List (List UInt8)) (l : List Sc) : List (List UInt8) × Int := if fitA F.length l = false then ([], 1) else (scP F (gon l), 0)
set_option maxRecDepth 100000 in
set_option maxHeartbeats 4000000 in
theorem pscratch_any (va : Value) (F : List (List UInt8)) (v : Value) (l : List Sc) (w : World) (hF : RdStr w va F) (hn : F.length ≤ 1000000) (h : CameSc w v l) :
    Calls Try.prog 44 #[va, v] w (EncP (scrR F l) w) := by
  obtain ⟨hr, hwf, hl⟩ := h
  obtain ⟨aF, cF, rfl, _⟩ := RdD.form hF
  obtain ⟨a, c, rfl, hac⟩ := RdD.form hr
  obtain ⟨b0, off, hcell⟩ := RdD.at hr
  have HC := Lib.hid hcell; clear hcell
  have HW := Lib.hid hwf; clear hwf
  have HNO : Hid (∀ k, k < l.length → fitB F.length (scA l k) = false → scrR F l = ([], 1)) := Lib.hid fun k hk h => by unfold scrR; rw [fitA_false hk h, if_pos rfl]
  have HYES : Hid (fitK F.length l l.length → scrR F l = (scP F (gon l), 0)) := Lib.hid fun h => by unfold scrR; rw [fitA_true h, if_neg (by decide)]
  generalize scrR F l = RES at *
  obtain ⟨N, hN⟩ : ∃ N, N = F.length := ⟨_, rfl⟩
  have HN := Lib.hid hN
  have hoF : (w.alloc (.cells #[] 9)).ownsRow w.heap.size 9 1 (.slice (some ⟨w.heap.size, 0, none⟩) 0 0) 0 (flD ssD []) := World.ownsRow_lit w #[] 0 (Nat.le_refl _) (by simp) (by simp)
  have hb0 : Below w.heap.size w (w.alloc (.cells #[] 9)) := (Below.refl _ _).alloc (Nat.le_refl _) _
  have hrF := RdD.keep hF hb0
  have hbs0 := hb0.size
  rw [← hN] at hn HNO HYES ⊢
  rw [← hN] at hrF
  clear hr hF hN
  go_enter Try.func44, Try.ntmps44
  go_wp2_with (at_builtin; refine wpList_appD rfl _ _ rfl Try.underlying95 Try.infoStr9 rfl (by omega) ssD_len ssD_one hoF rfl hrF rfl (by rw [← HN.out]; unfold maxLen; omega) (by rw [← HN.out]; omega) hbs0 ?_; intro v1 w1 ho1 hg1)
  have hb1 := hb0.grown hg1 hbs0 (ownD_block hoF)
  rw [Nat.zero_add, List.nil_append] at ho1
  rw [← scP_none F] at ho1
  clear hoF hb0 hrF hbs0 hg1
  obtain ⟨ao, co, rfl⟩ := ownD_form ho1
  rw [scP_length, ← HN.out] at ho1 ⊢
  go_loopw [15] (fun vk wr => ∃ k : Nat, k ≤ l.length ∧ vk = .int .i64 k ∧ Hid (fitK N l k) ∧ wr.ownsRow w.heap.size 9 1 (.slice ao N co) N (flD ssD (scP F (gon (l.take k)))) ∧ Below w.heap.size w wr) (fun vk _ => l.length - (intOf vk).toNat)
  case atStart => exact ⟨0, by omega, rfl, Lib.hid fun m hm => by omega, ho1, hb1⟩
  case round =>
    clear ho1 hb1
    obtain ⟨k, hk, rfl, HO, ho, hb⟩ := hrel
    obtain ⟨wo, rfl⟩ : ∃ wo : World, wo = wr := ⟨_, rfl⟩
    have hbs := hb.size
    by_cases hlt : k < l.length
    · obtain ⟨ha, hrange⟩ := HC.out k hlt
      have HT := Lib.hid (take_snocS hlt)
      have HNOk := Lib.hid (HNO.out k hlt)
      have hw9 := HW.out k hlt
      have HS : Hid (fitB N (scA l k) = true → fitK N l (k + 1)) := Lib.hid fun h m hm => by
        by_cases e : m < k
        · exact HO.out m e
        · have : m = k := by omega
          rw [this]; exact h
      change w.rangeAt b0 (off + k * 2) (scc (scA l k)) at hrange
      generalize scA l k = x at *
      obtain ⟨xf, xc⟩ := x
      have hrg : wo.rangeAt b0 (off + k * 2) (scc ⟨xf, xc⟩) := fun j u hu => (hb.cell (p := ⟨b0, off + k * 2 + j, none⟩) (World.block_lt_of_cell? w _ (hrange j u hu))).trans (hrange j u hu)
      clear hrange
      obtain ⟨hc0, hc1⟩ := rd2 hrg
      clear hrg
      simp only at hc0 hc1
      have hix := fun w' => run_idxS Try.underlying22 Try.sizeSc (cap := c) ha hlt _ rfl w'
      have Ha := Lib.hid ha; clear ha
      have hA := (Below.refl wo.heap.size wo).alloc (Nat.le_refl _) (.cells #[.int .i64 xf, .int .i64 xc] 36)
      have HA := Lib.hid hA
      have HSB := Lib.hid (Bx.new wo 36 [.int .i64 xf, .int .i64 xc])
      have HOO := Lib.hid ho
      have HLT := Lib.hid ho
      clear hA ho
      go_wp2_with fail
      refine (fits_any xf xc N _ hw9 (by omega)).mono ?_
      rintro e w1 ⟨rfl, hb1⟩
      have hbA := HA.out.trans (hb1.mono HA.out.size)
      have ho1 := ownD_keep HOO.out hbA
      have hsb1 := HSB.out.call hb1
      have hbw1 := hb.trans (hbA.mono hbs)
      obtain ⟨q, hq⟩ : ∃ q, q = fitB N ⟨xf, xc⟩ := ⟨_, rfl⟩
      rw [← hq] at HS HNOk ⊢
      obtain ⟨⟨f1, f2⟩, c1, c2⟩ := hw9
      simp only at f1 f2 c1 c2
      clear hc0 hc1 hb1 HA HSB hbA HOO
      cases q with
      | false =>
        have hR := HNOk.out rfl
        subst hR
        clear ho1 hsb1 hq
        go_wp2_with fail
        go_ret2
        exact EncP.none 1 rfl hbw1
      | true =>
        obtain ⟨x1, x2, x3, x4⟩ := (fitB_iff _ _).1 hq.symm
        simp only at x1 x2 x3 x4
        have HS2 := Lib.hid (HS.out rfl)
        clear hq HS HNOk
        obtain ⟨fn, rfl⟩ : ∃ fn : Nat, xf = (fn : Int) := ⟨xf.toNat, by omega⟩
        obtain ⟨cn, rfl⟩ : ∃ cn : Nat, xc = (cn : Int) := ⟨xc.toNat, by omega⟩
        obtain ⟨sb, hsb⟩ : ∃ sb, sb = wo.heap.size := ⟨_, rfl⟩
        have hof : Off (.slice ao N co) (fun q => q = sb) := Off.own HLT.out fun q _ hq h => by omega
        rw [← hsb] at hsb1
        simp only [← hsb]
        clear hsb
        have hd1 := hsb1.cell (i := 1) rfl
        obtain ⟨ga, hga⟩ : ∃ ga, ao = some ⟨ga, 0, none⟩ := by
          obtain ⟨g, c', e, _, _⟩ := ownD_addr ho1 (by omega)
          simp only [Value.slice.injEq] at e
          exact ⟨g, e.1⟩
        have hgs : ga ≠ sb := fun h => hof ga (by rw [hga]; rfl) h
        have hwg : w.heap.size ≤ ga := (ho1.lt ga (by rw [hga]; rfl)).1
        have HGA := Lib.hid hga
        clear hof hga HLT
        go_wp2_with fail
        go_loopw [26] (fun vi wr => ∃ j : Nat, j ≤ cn ∧ vi = .int .i64 j ∧ wr.ownsRow w.heap.size 9 1 (.slice ao N co) N (flD ssD (scP F (cvX (l.take k) ⟨fn, cn⟩ j))) ∧ Bx wr sb 36 [.int .i64 fn, .int .i64 cn] ∧ Below w.heap.size w wr) (fun vi _ => cn - (intOf vi).toNat)
        case atStart => exact ⟨0, by omega, rfl, by rw [scP_zero]; exact ho1, hsb1, hbw1⟩
        case round =>
          clear ho1 hsb1 hbw1 hd1
          obtain ⟨j, hj, rfl, ho1, hsb1, hbw1⟩ := hrel
          have hd0 := hsb1.cell (i := 0) rfl
          have hd1 := hsb1.cell (i := 1) rfl
          by_cases hjt : j < cn
          · have hjt' : (j : Int) < (cn : Int) := by omega
            have hkn : fn + j < N := by omega
            have hlen : fn + j < (scP F (cvX (l.take k) ⟨fn, cn⟩ j)).length := by rw [scP_length, ← HN.out]; exact hkn
            have ho2 := ho1
            rw [HGA.out] at ho2
            have hset := ownD_fld (d := []) ssD_len ho2 (fn + j) 0 hlen (by omega) (.string ⟨#[]⟩) [] rfl
            rw [scP_step F _ _ j (fn + j) (by simp only; omega)] at hset
            have hcl : wr.cell? ⟨ga, fn + j, none⟩ = some (.string (str (atD [] (scP F (cvX (l.take k) ⟨fn, cn⟩ j)) (fn + j)))) := by
              have := (ownD_cells (d := []) ssD_len ho2 (fn + j) hlen) 0 _ rfl
              simpa using this
            have hfr : wr.frozen? ⟨ga, fn + j, none⟩ = false := ho2.frozenAt _
            have hix2 := fun w' => run_idxS Try.underlying95 (by kernel_rfl : (Try.prog.info? 9).map (·.size) = some 1) (cap := co) HGA.out hkn ((fn : Int) + (j : Int)) (by omega) w'
            simp only [Nat.mul_one, Nat.zero_add, Nat.add_zero] at hix2 hset
            generalize str (atD [] (scP F (cvX (l.take k) ⟨fn, cn⟩ j)) (fn + j)) = old at hcl
            rw [← HGA.out] at hset
            have HSET := Lib.hid hset
            have HSB2 := Lib.hid (hsb1.far (p := ⟨ga, fn + j, none⟩) hgs (.string ⟨#[]⟩))
            have HBW := Lib.hid hbw1
            clear hset hsb1 ho1 ho2 hbw1 hlen
            go_wp2_with fail
            go_roundw
            case rel => exact ⟨j + 1, by omega, by go_num, HSET.out, HSB2.out, HBW.out.setCell hwg _⟩
            case measure => simp [intOf]; omega
          · obtain rfl : j = cn := by omega
            rw [scP_all F (l.take k) ⟨fn, j⟩ j rfl, ← HT.out] at ho1
            have HO1 := Lib.hid ho1
            clear ho1 hsb1
            go_wp2_with fail
            go_roundw
            case rel => exact ⟨k + 1, by omega, by go_num, HS2, HO1.out, hbw1⟩
            case measure => simp [intOf]; omega
    · obtain rfl : k = l.length := by omega
      rw [List.take_length] at ho
      have hR := HYES.out HO.out
      subst hR
      have HOO := Lib.hid ho
      clear ho
      go_wp2_with fail
      go_ret2
      exact ⟨_, rfl, by simp only [scP_length, ← HN.out]; exact HOO.out, hb⟩
end Go.Proofs.Ytpncjadhpnapnaa.C9
