/- Parts: XWl XWm XD5 XD6 XD9 XDa XD8 XDb -/
import Derived.Test.YtflmjdjkfognjaaGreatTe28
import Derived.Test.YtflmjdjkfognjaaGreatTe18
import Derived.Test.YtflmjdjkfognjaaGreatTe14
import Derived.Test.YtflmjdjkfognjaaGreatTe12
import Derived.Test.YtflmjdjkfognjaaGreatTeShelf
import Derived.Deep.RegionHeld3
import Derived.RegionTactic
import Derived.BigRegion
import Derived.Test.YtflmjdjkfognjaaGreatTe19
import Derived.Test.YtflmjdjkfognjaaGreatTe04
namespace Go.Proofs.YtflmjdjkfognjaaGreat.W8
open Go.RowKit Go.Shelf
set_option linter.unusedVariables false
theorem fit_fst {raw : List UInt8} {m : Int} (h : fitB raw m = true) : fstB m = true ∧ raw.length = 2352 := by
  have h2 : raw.length = 2352 ∧ fstB m = true := by simpa [fitB] using h
  exact ⟨h2.2, h2.1⟩
set_option maxRecDepth 100000 in
set_option maxHeartbeats 1000000 in
theorem encode8_any (raw : List UInt8) (m : Int) (w : World) (hl : raw.length ≤ 9223372036854775807) :
    Calls Tryz.prog 77 #[.string (str raw), .int .i64 m] w fun e w' => e = .returned (.tuple #[.string (str (enc8 raw m).1), .int .i64 (enc8 raw m).2]) ∧ Below w.heap.size w w' := by
  cases hf : fitB raw m with
  | true =>
    have e1 : enc8 raw m = (encN raw (fstI m) 138, 0) := by unfold enc8; rw [hf]; rfl
    rw [e1]
    dsimp only
    exact encode8_ok raw m w (fit_fst hf).1 (fit_fst hf).2
  | false =>
    have e1 : enc8 raw m = ([], 1) := by unfold enc8; rw [hf]; rfl
    rw [e1]
    have hs := str_size raw
    have HF := Lib.hid (fun W => first_any m W)
    cases hb : fstB m with
    | false =>
      rw [hb] at HF
      clear e1 hb hf
      go_enter Tryz.func77, Tryz.ntmps77
      go_wp2_with (refine (HF.out _).mono ?_; rintro e w' ⟨rfl, rfl⟩)
      go_ret2
      exact ⟨rfl, (Below.refl _ _).alloc (Nat.le_refl _) _⟩
    | true =>
      rw [hb] at HF
      have hn : raw.length ≠ 2352 := by
        intro h
        unfold fitB at hf
        rw [hb, h] at hf
        simp at hf
      have hd : ((raw.length : Int) != 2352) = true := by simp; omega
      have HN := Lib.hid hn
      clear e1 hb hf hn
      go_enter Tryz.func77, Tryz.ntmps77
      go_wp2_with (refine (HF.out _).mono ?_; rintro e w' ⟨rfl, rfl⟩)
      go_ret2
      exact ⟨rfl, (Below.refl _ _).alloc (Nat.le_refl _) _⟩
end Go.Proofs.YtflmjdjkfognjaaGreat.W8
namespace Go.Proofs.YtflmjdjkfognjaaGreat.W8
open Go.RowKit Go.Shelf
set_option linter.unusedVariables false
theorem soundN_of {R : List UInt8} {f : Int} : ∀ k, (∀ j, j < k → G.validB (takeL R (wd j) f) 2 = true) → soundN R f k = true
  | 0, _ => rfl
  | k + 1, h => by rw [soundN, soundN_of k (fun j hj => h j (by omega)), h k (by omega)]; rfl
theorem fst_16 (m : Int) : fstI m ≤ 16 := by unfold fstI; split <;> (try split) <;> omega
theorem enc8_ok {raw : List UInt8} {m : Int} (hl : raw.length = 2352) (hm : fstB m = true) : enc8 raw m = (encN raw (fstI m) 138, 0) := by
  unfold enc8 fitB
  rw [hl, hm]
  rfl
theorem vld_enc {raw : List UInt8} {m : Int} (hl : raw.length = 2352) (hm : fstB m = true) : vldB (encN raw (fstI m) 138) m = true := by
  unfold vldB soundB
  rw [hm, encN_length, hl, soundN_of 138 (enc_words hl (fst_16 m) 138 (Nat.le_refl _))]
  rfl
theorem take_enc {raw : List UInt8} {f : Int} (hl : raw.length = 2352) : (encN raw f 138).take 2076 = raw.take 2076 := by
  apply G.ext_ix
  · rw [List.length_take, List.length_take, encN_length]
  · intro i hi
    have h1 : i < 2076 := by rw [List.length_take] at hi; omega
    rw [ix_take h1, ix_take h1, enc_keeps hl i h1 138 (Nat.le_refl _)]
end Go.Proofs.YtflmjdjkfognjaaGreat.W8
namespace Go.Proofs.YtflmjdjkfognjaaGreat.C9
open Go.RowKit W8
set_option linter.unusedVariables false
def d1 : List UInt8 := 1 :: List.replicate 23 0
end Go.Proofs.YtflmjdjkfognjaaGreat.C9
namespace Go.Proofs.YtflmjdjkfognjaaGreat.C9
open Go.ChangeShapes Go.WideShapes Go.RowKit Go.Deep W8
set_option linter.unusedVariables false
section
variable {H : Type} {enc : TypeId × Value → H} {w : World} {base b0 : Nat} {sp : Nat → Bool} {held : Bool}
def CameSc (w : World) (v : Value) (l : List Sc) : Prop := RdSc w v l ∧ (∀ i, i < l.length → Wf (scA l i)) ∧ l.length ≤ 9223372036854775807
end
theorem CameSc.keep {w w' : World} {v : Value} {l : List Sc} (h : CameSc w v l) (hb : Below w.heap.size w w') : CameSc w' v l := ⟨RdD.keep h.1 hb, h.2⟩
theorem lostR_bd (d : Int) (l : List Sc) : (lostR d l).1.length ≤ 11300000 ∧ ∀ x ∈ (lostR d l).1, -9223372036854775808 ≤ x ∧ x ≤ 9223372036854775807 := by
  unfold lostR
  split
  · simp
  · split
    · simp
    · have h1 := lostN_length l d.toNat
      refine ⟨by simp only; omega, fun x hx => ?_⟩
      have := lostN_bd l d.toNat x hx
      omega
theorem LostP.rd {d : Int} {l : List Sc} {w w' : World} {e : Ending} (h : LostP (lostR d l) w e w') : ∃ v, e = .returned (.tuple #[v, .int .i64 (lostR d l).2]) ∧ RdI w' v (lostR d l).1 ∧ Below w.heap.size w w' := by
  obtain ⟨v, he, ho, hb⟩ := h
  obtain ⟨h1, h2⟩ := lostR_bd d l
  exact ⟨v, he, rdI_own ho rfl (by omega) h2, hb⟩
end Go.Proofs.YtflmjdjkfognjaaGreat.C9
namespace Go.Proofs.YtflmjdjkfognjaaGreat.C9
open Go.RowKit W8
set_option linter.unusedVariables false
def scP (F : List (List UInt8)) (m : Nat → Bool) : List (List UInt8) := (List.range F.length).map fun g => if m g = true then [] else frA F g
theorem scP_length (F : List (List UInt8)) (m : Nat → Bool) : (scP F m).length = F.length := by simp [scP]
theorem scP_congr {F : List (List UInt8)} {m m' : Nat → Bool} (h : ∀ g, g < F.length → m g = m' g) : scP F m = scP F m' := List.map_congr_left fun g hg => by rw [h g (List.mem_range.1 hg)]
theorem scP_set (F : List (List UInt8)) (m : Nat → Bool) (k : Nat) : (scP F m).set k [] = scP F (fun g => m g || g == k) := by
  apply List.ext_getElem?
  intro g
  rw [List.getElem?_set, scP_length]
  by_cases hg : g < F.length
  · by_cases hk : k = g
    · subst hk
      rw [if_pos rfl, if_pos hg]
      simp [scP, hg]
    · rw [if_neg hk]
      have hk' : ¬ g = k := fun h => hk h.symm
      simp [scP, hg, hk']
  · rw [List.getElem?_eq_none (l := scP F _) (by rw [scP_length]; omega), List.getElem?_eq_none (l := scP F _) (by rw [scP_length]; omega)]
    split
    · rw [if_neg (by omega)]
    · rfl
theorem scP_none (F : List (List UInt8)) : scP F (gon []) = F := by
  apply List.ext_getElem
  · rw [scP_length]
  · intro i h1 h2
    simp [scP, gon, frA, h2]
def cvX (l : List Sc) (s : Sc) (i : Nat) (g : Nat) : Bool := gon l g || covX s i g
theorem scP_zero (F : List (List UInt8)) (l : List Sc) (s : Sc) : scP F (cvX l s 0) = scP F (gon l) := scP_congr fun g _ => by
  have : covX s ((0 : Nat) : Int) g = false := by
    unfold covX
    rw [Bool.and_eq_false_iff]
    by_cases h : s.f ≤ (g : Int)
    · right; rw [decide_eq_false_iff_not]; omega
    · left; rw [decide_eq_false_iff_not]; exact h
  show (gon l g || covX s ((0 : Nat) : Int) g) = gon l g
  rw [this, Bool.or_false]
theorem scP_step (F : List (List UInt8)) (l : List Sc) (s : Sc) (i k : Nat) (hk : (k : Int) = s.f + i) : (scP F (cvX l s i)).set k [] = scP F (cvX l s (i + 1)) := by
  rw [scP_set]
  refine scP_congr fun g _ => ?_
  unfold cvX
  rw [Bool.or_assoc]
  congr 1
  rw [Bool.eq_iff_iff]
  simp only [covX, Bool.or_eq_true, Bool.and_eq_true, decide_eq_true_eq, beq_iff_eq]
  omega
theorem scP_all (F : List (List UInt8)) (l : List Sc) (s : Sc) (i : Nat) (hi : (i : Int) = s.c) : scP F (cvX l s i) = scP F (gon (l ++ [s])) := scP_congr fun g _ => by
  rw [gon_snoc, ← hi]
  rfl
def scrR (F : List (List UInt8)) (l : List Sc) : List (List UInt8) × Int := if fitA F.length l = false then ([], 1) else (scrF F l, 0)
set_option maxRecDepth 100000 in
set_option maxHeartbeats 4000000 in
theorem pscratch_any (va : Value) (F : List (List UInt8)) (v : Value) (l : List Sc) (w : World) (hF : RdStr w va F) (hn : F.length ≤ 1000000) (h : CameSc w v l) :
    Calls Tryz.prog 31 #[va, v] w (EncP (scrR F l) w) := by
  obtain ⟨hr, hwf, hl⟩ := h
  obtain ⟨aF, cF, rfl, _⟩ := RdD.form hF
  obtain ⟨a, c, rfl, hac⟩ := RdD.form hr
  obtain ⟨b0, off, hcell⟩ := RdD.at hr
  have HC := Lib.hid hcell; clear hcell
  have HW := Lib.hid hwf; clear hwf
  have HNO : Hid (∀ k, k < l.length → fitB F.length (scA l k) = false → scrR F l = ([], 1)) := Lib.hid fun k hk h => by unfold scrR; rw [fitA_false hk h, if_pos rfl]
  have HYES : Hid (fitK F.length l l.length → scrR F l = (scP F (gon l), 0)) := Lib.hid fun h => by unfold scrR; rw [fitA_true h, if_neg (by decide)]; rfl
  generalize scrR F l = RES at *
  obtain ⟨N, hN⟩ : ∃ N, N = F.length := ⟨_, rfl⟩
  have HN := Lib.hid hN
  have hoF : (w.alloc (.cells #[] 9)).ownsRow w.heap.size 9 1 (.slice (some ⟨w.heap.size, 0, none⟩) 0 0) 0 (flD ssD []) := World.ownsRow_lit w #[] 0 (Nat.le_refl _) (by simp) (by simp)
  have hb0 : Below w.heap.size w (w.alloc (.cells #[] 9)) := (Below.refl _ _).alloc (Nat.le_refl _) _
  have hrF := RdD.keep hF hb0
  have hbs0 := hb0.size
  rw [← hN] at hn HNO HYES ⊢
  rw [← hN] at hrF
  clear hr hF hN
  go_enter Tryz.func31, Tryz.ntmps31
  go_wp2_with (at_builtin; refine wpList_appD rfl _ _ rfl Tryz.underlying47 Tryz.infoStr9 rfl (by omega) ssD_len ssD_one hoF rfl hrF rfl (by rw [← HN.out]; unfold maxLen; omega) (by rw [← HN.out]; omega) hbs0 ?_; intro v1 w1 ho1 hg1)
  have hb1 := hb0.grown hg1 hbs0 (ownD_block hoF)
  rw [Nat.zero_add, List.nil_append] at ho1
  rw [← scP_none F] at ho1
  clear hoF hb0 hrF hbs0 hg1
  obtain ⟨ao, co, rfl⟩ := ownD_form ho1
  rw [scP_length, ← HN.out] at ho1 ⊢
  go_loopw [15] (fun vk wr => ∃ k : Nat, k ≤ l.length ∧ vk = .int .i64 k ∧ Hid (fitK N l k) ∧ wr.ownsRow w.heap.size 9 1 (.slice ao N co) N (flD ssD (scP F (gon (l.take k)))) ∧ Below w.heap.size w wr) (fun vk _ => l.length - (intOf vk).toNat)
  case atStart => exact ⟨0, by omega, rfl, Lib.hid fun m hm => by omega, ho1, hb1⟩
  case round =>
    clear ho1 hb1
    obtain ⟨k, hk, rfl, HO, ho, hb⟩ := hrel
    obtain ⟨wo, rfl⟩ : ∃ wo : World, wo = wr := ⟨_, rfl⟩
    have hbs := hb.size
    by_cases hlt : k < l.length
    · obtain ⟨ha, hrange⟩ := HC.out k hlt
      have HT := Lib.hid (take_snocS hlt)
      have HNOk := Lib.hid (HNO.out k hlt)
      have hw9 := HW.out k hlt
      have HS : Hid (fitB N (scA l k) = true → fitK N l (k + 1)) := Lib.hid fun h m hm => by
        by_cases e : m < k
        · exact HO.out m e
        · have : m = k := by omega
          rw [this]; exact h
      change w.rangeAt b0 (off + k * 2) (scc (scA l k)) at hrange
      generalize scA l k = x at *
      obtain ⟨xf, xc⟩ := x
      have hrg : wo.rangeAt b0 (off + k * 2) (scc ⟨xf, xc⟩) := fun j u hu => (hb.cell (p := ⟨b0, off + k * 2 + j, none⟩) (World.block_lt_of_cell? w _ (hrange j u hu))).trans (hrange j u hu)
      clear hrange
      obtain ⟨hc0, hc1⟩ := rd2 hrg
      clear hrg
      simp only at hc0 hc1
      have hix := fun w' => run_idxS Tryz.underlying76 Tryz.sizeSc (cap := c) ha hlt _ rfl w'
      have Ha := Lib.hid ha; clear ha
      have hA := (Below.refl wo.heap.size wo).alloc (Nat.le_refl _) (.cells #[.int .i64 xf, .int .i64 xc] 96)
      have HA := Lib.hid hA
      have HSB := Lib.hid (Bx.new wo 96 [.int .i64 xf, .int .i64 xc])
      have HOO := Lib.hid ho
      have HLT := Lib.hid ho
      clear hA ho
      go_wp2_with fail
      refine (fits_any xf xc N _ hw9 (by omega)).mono ?_
      rintro e w1 ⟨rfl, hb1⟩
      have hbA := HA.out.trans (hb1.mono HA.out.size)
      have ho1 := ownD_keep HOO.out hbA
      have hsb1 := HSB.out.call hb1
      have hbw1 := hb.trans (hbA.mono hbs)
      obtain ⟨q, hq⟩ : ∃ q, q = fitB N ⟨xf, xc⟩ := ⟨_, rfl⟩
      rw [← hq] at HS HNOk ⊢
      obtain ⟨⟨f1, f2⟩, c1, c2⟩ := hw9
      simp only at f1 f2 c1 c2
      clear hc0 hc1 hb1 HA HSB hbA HOO
      cases q with
      | false =>
        have hR := HNOk.out rfl
        subst hR
        clear ho1 hsb1 hq
        go_wp2_with fail
        go_ret2
        exact EncP.none 1 rfl hbw1
      | true =>
        obtain ⟨x1, x2, x3, x4⟩ := (fitB_iff _ _).1 hq.symm
        simp only at x1 x2 x3 x4
        have HS2 := Lib.hid (HS.out rfl)
        clear hq HS HNOk
        obtain ⟨fn, rfl⟩ : ∃ fn : Nat, xf = (fn : Int) := ⟨xf.toNat, by omega⟩
        obtain ⟨cn, rfl⟩ : ∃ cn : Nat, xc = (cn : Int) := ⟨xc.toNat, by omega⟩
        obtain ⟨sb, hsb⟩ : ∃ sb, sb = wo.heap.size := ⟨_, rfl⟩
        have hof : Off (.slice ao N co) (fun q => q = sb) := Off.own HLT.out fun q _ hq h => by omega
        rw [← hsb] at hsb1
        simp only [← hsb]
        clear hsb
        have hd1 := hsb1.cell (i := 1) rfl
        obtain ⟨ga, hga⟩ : ∃ ga, ao = some ⟨ga, 0, none⟩ := by
          obtain ⟨g, c', e, _, _⟩ := ownD_addr ho1 (by omega)
          simp only [Value.slice.injEq] at e
          exact ⟨g, e.1⟩
        have hgs : ga ≠ sb := fun h => hof ga (by rw [hga]; rfl) h
        have hwg : w.heap.size ≤ ga := (ho1.lt ga (by rw [hga]; rfl)).1
        have HGA := Lib.hid hga
        clear hof hga HLT
        go_wp2_with fail
        go_loopw [26] (fun vi wr => ∃ j : Nat, j ≤ cn ∧ vi = .int .i64 j ∧ wr.ownsRow w.heap.size 9 1 (.slice ao N co) N (flD ssD (scP F (cvX (l.take k) ⟨fn, cn⟩ j))) ∧ Bx wr sb 96 [.int .i64 fn, .int .i64 cn] ∧ Below w.heap.size w wr) (fun vi _ => cn - (intOf vi).toNat)
        case atStart => exact ⟨0, by omega, rfl, by rw [scP_zero]; exact ho1, hsb1, hbw1⟩
        case round =>
          clear ho1 hsb1 hbw1 hd1
          obtain ⟨j, hj, rfl, ho1, hsb1, hbw1⟩ := hrel
          have hd0 := hsb1.cell (i := 0) rfl
          have hd1 := hsb1.cell (i := 1) rfl
          by_cases hjt : j < cn
          · have hjt' : (j : Int) < (cn : Int) := by omega
            have hkn : fn + j < N := by omega
            have hlen : fn + j < (scP F (cvX (l.take k) ⟨fn, cn⟩ j)).length := by rw [scP_length, ← HN.out]; exact hkn
            have ho2 := ho1
            rw [HGA.out] at ho2
            have hset := ownD_fld (d := []) ssD_len ho2 (fn + j) 0 hlen (by omega) (.string ⟨#[]⟩) [] rfl
            rw [scP_step F _ _ j (fn + j) (by simp only; omega)] at hset
            have hcl : wr.cell? ⟨ga, fn + j, none⟩ = some (.string (str (atD [] (scP F (cvX (l.take k) ⟨fn, cn⟩ j)) (fn + j)))) := by
              have := (ownD_cells (d := []) ssD_len ho2 (fn + j) hlen) 0 _ rfl
              simpa using this
            have hfr : wr.frozen? ⟨ga, fn + j, none⟩ = false := ho2.frozenAt _
            have hix2 := fun w' => run_idxS Tryz.underlying47 (by kernel_rfl : (Tryz.prog.info? 9).map (·.size) = some 1) (cap := co) HGA.out hkn ((fn : Int) + (j : Int)) (by omega) w'
            simp only [Nat.mul_one, Nat.zero_add, Nat.add_zero] at hix2 hset
            generalize str (atD [] (scP F (cvX (l.take k) ⟨fn, cn⟩ j)) (fn + j)) = old at hcl
            rw [← HGA.out] at hset
            have HSET := Lib.hid hset
            have HSB2 := Lib.hid (hsb1.far (p := ⟨ga, fn + j, none⟩) hgs (.string ⟨#[]⟩))
            have HBW := Lib.hid hbw1
            clear hset hsb1 ho1 ho2 hbw1 hlen
            go_wp2_with fail
            go_roundw
            case rel => exact ⟨j + 1, by omega, by go_num, HSET.out, HSB2.out, HBW.out.setCell hwg _⟩
            case measure => simp [intOf]; omega
          · obtain rfl : j = cn := by omega
            rw [scP_all F (l.take k) ⟨fn, j⟩ j rfl, ← HT.out] at ho1
            have HO1 := Lib.hid ho1
            clear ho1 hsb1
            go_wp2_with fail
            go_roundw
            case rel => exact ⟨k + 1, by omega, by go_num, HS2, HO1.out, hbw1⟩
            case measure => simp [intOf]; omega
    · obtain rfl : k = l.length := by omega
      rw [List.take_length] at ho
      have hR := HYES.out HO.out
      subst hR
      have HOO := Lib.hid ho
      clear ho
      go_wp2_with fail
      go_ret2
      exact ⟨_, rfl, by simp only [scP_length, ← HN.out]; exact HOO.out, hb⟩
end Go.Proofs.YtflmjdjkfognjaaGreat.C9
namespace Go.Proofs.YtflmjdjkfognjaaGreat.C9
open Go.RowKit W8
set_option linter.unusedVariables false
theorem bytes_beq (s : ByteArray) : (s.toList == s.toList) = true := by simp
set_option maxRecDepth 100000 in
set_option maxHeartbeats 2000000 in
theorem strings_same (v1 v2 : Value) (l : List (List UInt8)) (w : World) (h1 : RdStr w v1 l) (h2 : RdStr w v2 l) (hl : l.length ≤ 9223372036854775807) :
    Calls Tryz.prog 21 #[v1, v2] w fun e w' => e = .returned (.bool true) ∧ Below w.heap.size w w' := by
  obtain ⟨a1, c1, rfl, _⟩ := RdD.form h1
  obtain ⟨a2, c2, rfl, _⟩ := RdD.form h2
  obtain ⟨b1, o1, k1⟩ := RdD.at h1
  obtain ⟨b2, o2, k2⟩ := RdD.at h2
  have H1 := Lib.hid k1
  have H2 := Lib.hid k2
  clear h1 h2 k1 k2
  go_enter Tryz.func21, Tryz.ntmps21
  go_wp2_with fail
  go_loopw [5] (fun vi wr => ∃ i : Nat, i ≤ l.length ∧ vi = .int .i64 i ∧ Below w.heap.size w wr) (fun vi _ => l.length - (intOf vi).toNat)
  case atStart => exact ⟨0, by omega, rfl, Below.refl _ _⟩
  case round =>
    obtain ⟨i, hi, rfl, hb⟩ := hrel
    by_cases hlt : i < l.length
    · obtain ⟨ha1, hr1⟩ := H1.out i hlt
      obtain ⟨ha2, hr2⟩ := H2.out i hlt
      have hx1 := fun w' => run_idxS Tryz.underlying47 (by kernel_rfl : (Tryz.prog.info? 9).map (·.size) = some 1) (cap := c1) ha1 hlt (i : Int) rfl w'
      have hx2 := fun w' => run_idxS Tryz.underlying47 (by kernel_rfl : (Tryz.prog.info? 9).map (·.size) = some 1) (cap := c2) ha2 hlt (i : Int) rfl w'
      have hcl1 : wr.cell? ⟨b1, o1 + i * 1, none⟩ = some (.string (str (atD [] l i))) := (hb.cell (p := ⟨b1, o1 + i * 1, none⟩) (World.block_lt_of_cell? w _ (hr1 0 _ rfl))).trans (hr1 0 _ rfl)
      have hcl2 : wr.cell? ⟨b2, o2 + i * 1, none⟩ = some (.string (str (atD [] l i))) := (hb.cell (p := ⟨b2, o2 + i * 1, none⟩) (World.block_lt_of_cell? w _ (hr2 0 _ rfl))).trans (hr2 0 _ rfl)
      simp only [Nat.mul_one] at hx1 hx2 hcl1 hcl2
      generalize str (atD [] l i) = s at hcl1 hcl2
      have HA1 := Lib.hid ha1
      have HA2 := Lib.hid ha2
      have hbb := bytes_beq s
      clear ha1 ha2 hr1 hr2
      go_wp2_with fail
      go_quiet (fail)
      go_wp2_with fail
      go_roundw
      case rel => exact ⟨i + 1, by omega, by go_num, Below.drewN hb _⟩
      case measure => simp [intOf]; omega
    · obtain rfl : i = l.length := by omega
      go_wp2_with fail
      go_ret
      exact ⟨rfl, hb⟩
end Go.Proofs.YtflmjdjkfognjaaGreat.C9
namespace Go.Proofs.YtflmjdjkfognjaaGreat.C9
open Go.RowKit W8
set_option linter.unusedVariables false
theorem Tryz.infoU9 : (Tryz.prog.info? 5).map (fun i => (i.zero, i.size, i.bytes)) = some (some (.int .u8 0), 1, 1) := by kernel_rfl
end Go.Proofs.YtflmjdjkfognjaaGreat.C9
namespace Go.Proofs.YtflmjdjkfognjaaGreat.C9
open Go.ChangeShapes Go.WideShapes Go.RowKit Go.Deep W8
set_option linter.unusedVariables false
theorem pencC_any (d : List UInt8) (w : World) (hl : d.length ≤ 9223372036854775807) : Calls Tryz.prog 30 #[.string (str d)] w (EncP (encR d) w) := by
  unfold encR
  by_cases h : d.length = 0 ∨ d.length % 24 ≠ 0
  · rw [if_pos h]
    exact pencode_arg d w hl h
  · rw [if_neg h]
    by_cases h2 : 784 < d.length / 24
    · rw [if_pos h2]
      exact pencode_big d (d.length / 24) w hl (by omega) h2
    · rw [if_neg h2]
      exact pencode_ok d (d.length / 24) w (by omega) (by omega) (by omega)
theorem EncP.rd {R : List (List UInt8) × Int} {w w' : World} {e : Ending} (h : EncP R w e w') : ∃ v, e = .returned (.tuple #[v, .int .i64 R.2]) ∧ RdStr w' v R.1 ∧ Below w.heap.size w w' := by
  obtain ⟨v, he, ho, hb⟩ := h
  exact ⟨v, he, RdD.ofOwn ssD_len ho, hb⟩
end Go.Proofs.YtflmjdjkfognjaaGreat.C9
