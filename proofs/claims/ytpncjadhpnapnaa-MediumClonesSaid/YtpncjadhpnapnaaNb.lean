/- Chapter 9: Lost of the package walked. -/
import Derived.Test.YtpncjadhpnapnaaNa
import Derived.Deep.Cut
import Derived.Deep.CutRange
namespace Go.Proofs.Ytpncjadhpnapnaa.C9
open Go.RowKit D13 Ap
set_option linter.unusedVariables false

/-- what Lost keeps in memory: the marks of the frames, their box, the marks of the data frames -/
structure LoW (w0 : World) (N gg gb gt : Nat) (G T : List Bool) (W : World) : Prop where
  g : Bx W gg 4 (bb G)
  b : Bx W gb 91 [.slice (some ⟨gg, 0, none⟩) N N]
  t : Bx W gt 4 (bb T)
  le : Below w0.heap.size w0 W
  g1 : w0.heap.size ≤ gg
  g2 : gg < gb
  g3 : gb < gt
section
variable {w0 W W' : World} {N gg gb gt : Nat} {G T : List Bool}
theorem LoW.keep (h : LoW w0 N gg gb gt G T W) (hb : Below (gt + 1) W W') : LoW w0 N gg gb gt G T W' :=
  have h1 := h.g1
  have h2 := h.g2
  have h3 := h.g3
  ⟨h.g.keepB hb (by omega), h.b.keepB hb (by omega), h.t.keepB hb (by omega), h.le.trans (hb.mono (by omega)), h1, h2, h3⟩
theorem LoW.size (h : LoW w0 N gg gb gt G T W) : gt + 1 ≤ W.heap.size := h.t.lt
theorem LoW.call (h : LoW w0 N gg gb gt G T W) (hb : Below W.heap.size W W') : LoW w0 N gg gb gt G T W' := h.keep (hb.mono h.size)
theorem LoW.putG (h : LoW w0 N gg gb gt G T W) (k : Nat) : LoW w0 N gg gb gt (G.set k true) T (W.setCell ⟨gg, k, none⟩ (.bool true)) :=
  have h1 := h.g1
  have h2 := h.g2
  have h3 := h.g3
  ⟨by rw [← bb_set]; exact h.g.set k _, h.b.far (by simp only; omega) _, h.t.far (by simp only; omega) _, h.le.setCell h1 _, h1, h2, h3⟩
theorem LoW.putT (h : LoW w0 N gg gb gt G T W) (k : Nat) : LoW w0 N gg gb gt G (T.set k true) (W.setCell ⟨gt, k, none⟩ (.bool true)) :=
  have h1 := h.g1
  have h2 := h.g2
  have h3 := h.g3
  ⟨h.g.far (by simp only; omega) _, h.b.far (by simp only; omega) _, by rw [← bb_set]; exact h.t.set k _, h.le.setCell (by simp only; omega) _, h1, h2, h3⟩
end
theorem tou_nil : tou [] = fun _ => false := by funext g; simp [tou]
set_option maxRecDepth 100000 in
set_option maxHeartbeats 2000000 in
theorem plost_range (d : Int) (v : Value) (l : List Sc) (w : World) (hr : RdSc w v l) (hd : d < 1 ∨ 401408 < d) :
    Calls Try.prog 12 #[.int .i64 d, v] w (LostP ([], 1) w) := by
  obtain ⟨a, c, rfl, hac⟩ := RdD.form hr
  have HF := Lib.hid (fun W => (frames_any d W).mono (fun e w' (h : e = _ ∧ W = w') => (by rw [frN_bad hd] at h; exact h : e = .returned (.int .i64 0) ∧ W = w')))
  go_enter Try.func12, Try.ntmps12
  go_wp2_with (refine (HF.out _).mono ?_; rintro e w' ⟨rfl, rfl⟩)
  go_ret2
  exact LostP.none 1 rfl (Below.refl _ _)
set_option maxRecDepth 100000 in
set_option maxHeartbeats 8000000 in
theorem plost_ok (n : Nat) (v : Value) (l : List Sc) (w : World) (h1 : 1 ≤ n) (h2 : n ≤ 401408) (hr : RdSc w v l) (hwf : ∀ i, i < l.length → Wf (scA l i)) (hl : l.length ≤ 9223372036854775807) :
    Calls Try.prog 12 #[.int .i64 n, v] w (LostP (if fitA (n + 108) l = false then ([], 1) else (lostN l n, 0)) w) := by
  have HF := Lib.hid (fun W => (frames_any n W).mono (fun e w' (h : e = _ ∧ W = w') => (by rw [frN_ok h1 h2] at h; exact h : e = .returned (.int .i64 ((n + 108 : Nat) : Int)) ∧ W = w')))
  obtain ⟨a, c, rfl, hac⟩ := RdD.form hr
  obtain ⟨b0, off, hcell⟩ := RdD.at hr
  have HC := Lib.hid hcell; clear hcell
  have HW := Lib.hid hwf; clear hwf
  have HNO : Hid (∀ k, k < l.length → fitB (n + 108) (scA l k) = false → (if fitA (n + 108) l = false then (([] : List Int), (1 : Int)) else (lostN l n, 0)) = ([], 1)) := Lib.hid fun k hk h => by rw [fitA_false hk h, if_pos rfl]
  have HYES : Hid (fitK (n + 108) l l.length → (if fitA (n + 108) l = false then (([] : List Int), (1 : Int)) else (lostN l n, 0)) = (lostN l n, 0)) := Lib.hid fun h => by rw [fitA_true h, if_neg (by decide)]
  generalize (if fitA (n + 108) l = false then (([] : List Int), (1 : Int)) else (lostN l n, 0)) = RES at *
  obtain ⟨N, hN⟩ : ∃ N, N = n + 108 := ⟨_, rfl⟩
  rw [← hN] at HF HNO HYES
  have hz : ((N : Int) == 0) = false := by rw [beq_eq_false_iff_ne]; omega
  have hN1 : n + 108 ≤ N := by omega
  have hN2 : N ≤ n + 108 := by omega
  have HN := Lib.hid hN
  clear hr hN
  go_enter Try.func12, Try.ntmps12
  go_wp2_with fail
  refine (HF.out _).mono ?_
  rintro e w' ⟨rfl, rfl⟩
  go_wp2_with (first | (refine wpList_mkBool rfl _ _ rfl Try.underlying91 Try.infoBool9 N rfl rfl rfl rfl (by omega) ?_; intro w2 hbx2 hb2; have hsz2 := hbx2.lt) | (refine wpList_mkBool rfl _ _ rfl Try.underlying91 Try.infoBool9 n rfl rfl rfl rfl (by omega) ?_; intro w3 hbx3 hb3))
  obtain ⟨gt, hgt⟩ : ∃ gt, gt = w2.heap.size + 1 := ⟨_, rfl⟩
  obtain ⟨gb, hgb⟩ : ∃ gb, gb = w2.heap.size := ⟨_, rfl⟩
  obtain ⟨gg, hgg⟩ : ∃ gg, gg = w.heap.size := ⟨_, rfl⟩
  have hlo0 : LoW w N gg gb gt (mk N (gon (l.take 0))) (mk n (tou (l.take 0))) w3 := by
    have hA := Below.alloc (Below.refl w2.heap.size w2) (Nat.le_refl _) (.cells #[Value.slice (some ⟨w.heap.size, 0, none⟩) N N] 91)
    rw [List.take_zero, gon_nil, tou_nil, mk_false, mk_false, hgg, hgb, hgt]
    rw [World.size_alloc] at hbx3
    exact ⟨((hbx2.keepB hA hsz2).call hb3), (Bx.new _ _ _).call hb3, hbx3, hb2.trans ((hA.trans (hb3.mono (by simp))).mono hb2.size), Nat.le_refl _, hsz2, by omega⟩
  simp only [← hgt]
  simp only [← hgb, ← hgg]
  clear hbx2 hb2 hsz2 hbx3 hb3 hgt hgb hgg hz
  have hg1 := hlo0.g1
  have hg2 := hlo0.g2
  have hg3 := hlo0.g3
  go_loopw [28] (fun vk wr => ∃ k : Nat, k ≤ l.length ∧ vk = .int .i64 k ∧ Hid (fitK N l k) ∧ LoW w N gg gb gt (mk N (gon (l.take k))) (mk n (tou (l.take k))) wr) (fun vk _ => l.length - (intOf vk).toNat)
  case atStart => exact ⟨0, by omega, rfl, Lib.hid fun m hm => by omega, hlo0⟩
  case round =>
    clear hlo0
    obtain ⟨k, hk, rfl, HO, hlo⟩ := hrel
    obtain ⟨wo, rfl⟩ : ∃ wo : World, wo = wr := ⟨_, rfl⟩
    have hsz := hlo.size
    by_cases hlt : k < l.length
    · obtain ⟨ha, hrange⟩ := HC.out k hlt
      have HT := Lib.hid (take_snocS hlt)
      have HNOk := Lib.hid (HNO.out k hlt)
      have hw9 := HW.out k hlt
      have HS : Hid (fitB N (scA l k) = true → fitK N l (k + 1)) := Lib.hid fun h m hm => by
        by_cases e : m < k
        · exact HO.out m e
        · have : m = k := by omega
          rw [this]; exact h
      change w.rangeAt b0 (off + k * 2) (scc (scA l k)) at hrange
      generalize scA l k = x at *
      obtain ⟨xf, xc⟩ := x
      have hrg : wo.rangeAt b0 (off + k * 2) (scc ⟨xf, xc⟩) := fun j u hu => (hlo.le.cell (p := ⟨b0, off + k * 2 + j, none⟩) (World.block_lt_of_cell? w _ (hrange j u hu))).trans (hrange j u hu)
      clear hrange
      obtain ⟨hc0, hc1⟩ := rd2 hrg
      clear hrg
      simp only at hc0 hc1
      have hix := fun w' => run_idxS Try.underlying22 Try.sizeSc (cap := c) ha hlt _ rfl w'
      have Ha := Lib.hid ha; clear ha
      have hA := (Below.refl wo.heap.size wo).alloc (Nat.le_refl _) (.cells #[.int .i64 xf, .int .i64 xc] 36)
      have hloA := hlo.call hA
      have hSB := Bx.new wo 36 [.int .i64 xf, .int .i64 xc]
      have HLO := Lib.hid hloA
      have HSB := Lib.hid hSB
      clear hA hloA hSB hlo
      go_wp2_with fail
      refine (fits_any xf xc N _ hw9 (by omega)).mono ?_
      rintro e w1 ⟨rfl, hb1⟩
      have hlo1 := HLO.out.call hb1
      have hsb1 := HSB.out.call hb1
      obtain ⟨q, hq⟩ : ∃ q, q = fitB N ⟨xf, xc⟩ := ⟨_, rfl⟩
      rw [← hq] at HS HNOk ⊢
      obtain ⟨⟨f1, f2⟩, c1, c2⟩ := hw9
      simp only at f1 f2 c1 c2
      clear hc0 hc1 hb1 HLO HSB
      cases q with
      | false =>
        have HR := Lib.hid (HNOk.out rfl)
        have HLE := Lib.hid hlo1.le
        clear hlo1 hsb1 hq
        go_wp2_with fail
        go_ret2
        rw [HR.out]
        exact LostP.none 1 rfl HLE.out
      | true =>
        obtain ⟨x1, x2, x3, x4⟩ := (fitB_iff _ _).1 hq.symm
        simp only at x1 x2 x3 x4
        have HS2 := Lib.hid (HS.out rfl)
        clear hq HS HNOk
        obtain ⟨fn, rfl⟩ : ∃ fn : Nat, xf = (fn : Int) := ⟨xf.toNat, by omega⟩
        obtain ⟨cn, rfl⟩ : ∃ cn : Nat, xc = (cn : Int) := ⟨xc.toNat, by omega⟩
        obtain ⟨sb, hsb⟩ : ∃ sb, sb = wo.heap.size := ⟨_, rfl⟩
        rw [← hsb] at hsb1 hsz
        simp only [← hsb]
        clear hsb
        have hd1 := hsb1.cell (i := 1) rfl
        go_wp2_with fail
        go_loopw [38] (fun vi wr => ∃ j : Nat, j ≤ cn ∧ vi = .int .i64 j ∧ LoW w N gg gb gt (prt N (l.take k) ⟨fn, cn⟩ j) (mk n (tou (l.take k))) wr ∧ Bx wr sb 36 [.int .i64 fn, .int .i64 cn]) (fun vi _ => cn - (intOf vi).toNat)
        case atStart => exact ⟨0, by omega, rfl, by rw [prt_zero]; exact hlo1, hsb1⟩
        case round =>
          clear hlo1 hsb1 hd1
          obtain ⟨j, hj, rfl, hlo1, hsb1⟩ := hrel
          have hd0 := hsb1.cell (i := 0) rfl
          have hd1 := hsb1.cell (i := 1) rfl
          by_cases hjt : j < cn
          · have hjt' : (j : Int) < (cn : Int) := by omega
            have hkn : fn + j < N := by omega
            have hset := hlo1.putG (fn + j)
            rw [prt_succ N _ _ j (fn + j) (by simp only; omega)] at hset
            have hix2 := fun w' => run_idxS Try.underlying91 Try.sizeBool9 (a := some ⟨gg, 0, none⟩) (cap := N) rfl hkn ((fn : Int) + (j : Int)) (by omega) w'
            simp only [Nat.mul_one, Nat.zero_add] at hix2
            have hcb := hlo1.b.cell (i := 0) rfl
            have hcl : wr.cell? ⟨gg, fn + j, none⟩ = some (.bool (gon (l.take k) (fn + j) || covX ⟨fn, cn⟩ j (fn + j))) := hlo1.g.cell (by rw [bb_get]; exact mk_get _ hkn)
            have hfr := hlo1.g.free (fn + j)
            have hsb2 := hsb1.far (p := ⟨gg, fn + j, none⟩) (by simp only; omega) (.bool true)
            have HSET := Lib.hid hset
            have HSB2 := Lib.hid hsb2
            clear hset hsb2 hlo1 hsb1
            go_wp2_with fail
            go_roundw
            case rel => exact ⟨j + 1, by omega, by go_num, HSET.out, HSB2.out⟩
            case measure => simp [intOf]; omega
          · obtain rfl : j = cn := by omega
            rw [prt_all N (l.take k) ⟨fn, j⟩ j rfl, ← HT.out] at hlo1
            clear hd0 hd1 hjt hj
            have hd0 := hsb1.cell (i := 0) rfl
            obtain ⟨lo, hlo2, hlo3, hlo4⟩ : ∃ lo : Nat, fn ≤ lo + 108 ∧ (lo = 0 ∨ lo + 108 ≤ fn) ∧ max 0 ((fn : Int) - 108) = lo := ⟨fn - 108, by omega, by omega, by omega⟩
            have HL4 := Lib.hid hlo4
            have hpz := pto_zero n (l.take k) ⟨fn, j⟩ lo (by simp only; omega)
            rw [← hpz] at hlo1
            clear hlo4 hpz
            obtain ⟨H, hH1, hH2⟩ : ∃ H : Nat, (H = n ∨ H = fn + j) ∧ min (n : Int) ((fn : Int) + j) = H := ⟨min n (fn + j), by omega, by omega⟩
            have HH2 := Lib.hid hH2
            clear hH1 hH2
            have hcase : ((fn : Int) ≤ 108 ∧ lo = 0) ∨ (108 < (fn : Int) ∧ lo + 108 = fn) := by omega
            rcases hcase with ⟨m1, m2⟩ | ⟨m1, m2⟩
            all_goals
              have M2 := Lib.hid m2
              clear m2 hlo3
              by_cases m3 : (n : Int) ≤ (fn : Int) + j
              all_goals
                go_wp2_with fail
                go_loopw [12] (fun vx wr => ∃ x : Nat, lo ≤ x ∧ (x ≤ lo ∨ x ≤ fn + j) ∧ vx = .int .i64 x ∧ LoW w N gg gb gt (mk N (gon (l.take (k + 1)))) (pto n (l.take k) ⟨fn, j⟩ x) wr ∧ Bx wr sb 36 [.int .i64 fn, .int .i64 j]) (fun vx _ => n + 1 - (intOf vx).toNat)
                case atStart => exact ⟨lo, Nat.le_refl _, .inl (Nat.le_refl _), by have := M2.out; congr 1; omega, hlo1, hsb1⟩
                case round =>
                  clear hlo1 hsb1 hd0
                  obtain ⟨x, hx1, hx2, rfl, hlo1, hsb1⟩ := hrel
                  have hd0 := hsb1.cell (i := 0) rfl
                  have hd1 := hsb1.cell (i := 1) rfl
                  have HX2 := Lib.hid hx2
                  clear hx2
                  by_cases hxt : (x : Int) < (n : Int) ∧ (x : Int) < (fn : Int) + j
                  · obtain ⟨ht1, ht2⟩ := hxt
                    have hxn : x < n := by omega
                    have hset := hlo1.putT x
                    rw [pto_succ n _ _ x (by rw [show ((⟨(fn : Int), (j : Int)⟩ : Sc).f) = (fn : Int) from rfl, HL4.out]; omega)] at hset
                    have hix2 := fun w' => run_idxS Try.underlying91 Try.sizeBool9 (a := some ⟨gt, 0, none⟩) (cap := n) rfl hxn (x : Int) rfl w'
                    simp only [Nat.mul_one, Nat.zero_add] at hix2
                    have hcl : wr.cell? ⟨gt, x, none⟩ = some (.bool (tou (l.take k) x || touX ⟨fn, j⟩ x x)) := hlo1.t.cell (by rw [bb_get]; exact mk_get _ hxn)
                    have hfr := hlo1.t.free x
                    have hsb2 := hsb1.far (p := ⟨gt, x, none⟩) (by simp only; omega) (.bool true)
                    have HSET := Lib.hid hset
                    have HSB2 := Lib.hid hsb2
                    clear hset hsb2 hlo1 hsb1
                    go_wp2_with fail
                    go_roundw
                    case rel => exact ⟨x + 1, by omega, .inr (by omega), by go_num, HSET.out, HSB2.out⟩
                    case measure => simp [intOf]; omega
                  · have hpa := pto_all n (l.take k) ⟨fn, j⟩ x (by simp only; omega) (by have := HX2.out; have := HL4.out; simp only; omega)
                    rw [hpa, ← HT.out] at hlo1
                    have HLO := Lib.hid hlo1
                    clear hpa hlo1 hsb1
                    have hxt2 : ¬ ((x : Int) < (n : Int)) ∨ ¬ ((x : Int) < (fn : Int) + j) := by omega
                    have hxt3 : ((n : Int) ≤ (fn : Int) + j ∧ ¬ ((x : Int) < (n : Int))) ∨ (¬ (n : Int) ≤ (fn : Int) + j ∧ ¬ ((x : Int) < (fn : Int) + j)) := by omega
                    clear hxt hxt2 m3
                    rcases hxt3 with ⟨m3, m4⟩ | ⟨m3, m4⟩
                    all_goals
                      go_wp2_with fail
                      go_roundw
                      case rel => exact ⟨k + 1, by omega, by go_num, HS2, HLO.out⟩
                      case measure => simp [intOf]; omega
    · obtain rfl : k = l.length := by omega
      rw [List.take_length] at hlo
      have HR := Lib.hid (HYES.out HO.out)
      clear hlt hk HO HYES HNO HC HW HF hac
      have hRES := HR.out
      subst hRES
      go_wp2_with fail
      go_loopw [13, 68] (fun vo vf wr => ∃ f : Nat, f ≤ n ∧ vf = .int .i64 f ∧ wr.ownsRow (gt + 1) 3 1 vo (lostN l f).length (is (lostN l f)) ∧ LoW w N gg gb gt (mk N (gon l)) (mk n (tou l)) wr) (fun _ vf _ => n - (intOf vf).toNat)
      case atStart => exact ⟨0, by omega, rfl, ownsRow_nil _ _ _, hlo⟩
      case round =>
        clear hlo hsz
        obtain ⟨f, hf, rfl, ho, hlo⟩ := hrel
        obtain ⟨wq, rfl⟩ : ∃ wq : World, wq = wr := ⟨_, rfl⟩
        have hsz := hlo.size
        have hLl := lostN_length l f
        by_cases hlt : f < n
        · have hlt' : (f : Int) < (n : Int) := by omega
          have hE : Hid (lostN l (f + 1) = lostN l f ++ ls (ers l f) f) := Lib.hid rfl
          have HN2 : Hid (tou l f = false → ls (ers l f) f = []) := Lib.hid fun h => by rw [ers_untouched l f h]; exact ls_nil f
          obtain ⟨L, hL⟩ : ∃ L, L = lostN l f := ⟨_, rfl⟩
          rw [← hL] at ho hE hLl
          clear hL
          obtain ⟨ao, co, rfl⟩ := ownD_form ho
          obtain ⟨q, hq⟩ : ∃ q, q = tou l f := ⟨_, rfl⟩
          have hcl : wq.cell? ⟨gt, f, none⟩ = some (.bool q) := hlo.t.cell (by rw [bb_get]; rw [hq]; exact mk_get _ hlt)
          rw [← hq] at HN2
          have hix2 := fun w' => run_idxS Try.underlying91 Try.sizeBool9 (a := some ⟨gt, 0, none⟩) (cap := n) rfl hlt (f : Int) rfl w'
          simp only [Nat.mul_one, Nat.zero_add] at hix2
          have HO := Lib.hid ho
          have HLO := Lib.hid hlo
          clear hq ho hlo
          cases q with
          | false =>
            have HE2 : Hid (lostN l (f + 1) = L) := Lib.hid (by rw [hE.out, HN2.out rfl, List.append_nil])
            go_wp2_with fail
            go_roundw
            case rel => exact ⟨f + 1, by omega, by go_num, by rw [HE2.out]; exact HO.out, HLO.out⟩
            case measure => simp [intOf]; omega
          | true =>
            clear HN2
            have hA := (Below.refl wq.heap.size wq).alloc (Nat.le_refl _) (.cells #[.slice none 0 0] 30)
            have hloA := HLO.out.call hA
            have hbc := hloA.b.cell (i := 0) rfl
            have hsz' : gg < wq.heap.size ∧ gb < wq.heap.size := by omega
            have HK := Lib.hid (collect_lost f n N gg gb wq.heap.size l (wq.alloc (.cells #[.slice none 0 0] 30)) hlt HN.out h2 hsz'.1 hsz'.2 hloA.g hbc ⟨_, Bx.new wq _ _, ownsRow_nil _ _ _⟩)
            clear hloA hbc hA
            go_wp2_with fail
            refine HK.out.mono ?_
            rintro e w4 ⟨rfl, ⟨ve, hbx, hoe⟩, hb4⟩
            have hb4' := ((Below.refl wq.heap.size wq).alloc (Nat.le_refl _) (.cells #[.slice none 0 0] 30)).trans hb4
            have hlo4 := HLO.out.call hb4'
            have ho4 := ownD_keep HO.out hb4'
            have HB := Lib.hid (fun k (hk : k < (ers l f).length) => ers_get l f k hk)
            have hel : (ers l f).length ≤ 28 := ersK_length l f 28
            generalize ers l f = E at hoe hel HB hE
            obtain ⟨ae, ce, rfl⟩ := ownD_form hoe
            obtain ⟨eb, heb⟩ : ∃ eb, eb = wq.heap.size := ⟨_, rfl⟩
            have hoff : Off (.slice ao L.length co) (fun k => k = wq.heap.size ∨ ae = some ⟨k, 0, none⟩) := by
              refine Off.own HO.out fun k _ hk hk2 => ?_
              rcases hk2 with hk2 | hk2
              · omega
              · have := (hoe.lt k (by rw [hk2]; rfl)).1
                omega
            rw [← heb] at hbx hoe hoff hsz
            simp only [← heb]
            clear hb4 hb4' HK hsz' HLO HO heb
            have hd0 := hbx.cell (i := 0) rfl
            go_wp2_with fail
            go_loopw [13, 81] (fun vo vk wr => ∃ k : Nat, k ≤ E.length ∧ vk = .int .i64 k ∧ wr.ownsRow (gt + 1) 3 1 vo (L ++ lsK E f k).length (is (L ++ lsK E f k)) ∧ Off vo (fun k => k = eb ∨ ae = some ⟨k, 0, none⟩) ∧ wr.ownsRow (eb + 1) 3 1 (.slice ae E.length ce) E.length (is E) ∧ Bx wr eb 30 [.slice ae E.length ce] ∧ LoW w N gg gb gt (mk N (gon l)) (mk n (tou l)) wr) (fun _ vk _ => E.length - (intOf vk).toNat)
            case atStart => exact ⟨0, by omega, rfl, by rw [lsK_zero, List.append_nil]; exact ho4, hoff, hoe, hbx, hlo4⟩
            case round =>
              clear ho4 hoff hoe hbx hlo4 hd0
              obtain ⟨k, hk, rfl, hoo, hoff, hoe, hbx, hlo⟩ := hrel
              have hwsz := hlo.size
              have hebl := hbx.lt
              by_cases hkt : k < E.length
              · have hkt' : (k : Int) < (E.length : Int) := by omega
                obtain ⟨ge, ce', he, hge, hge2⟩ := ownD_addr hoe (by omega)
                simp only [Value.slice.injEq] at he
                obtain ⟨rfl, _, rfl⟩ := he
                obtain ⟨hx1, hx2⟩ := HB.out k hkt
                have HS := Lib.hid (lsK_succ E f k (ixI E k) (ixI_some hkt))
                have hcl : wr.cell? ⟨ge, k, none⟩ = some (.int .i64 (ixI E k)) := by rw [hoe.cellAt k (by omega), is_get hkt]
                have hix := fun w' => run_idxS Try.underlying30 Try.sizeInt9 (a := some ⟨ge, 0, none⟩) (cap := ce) rfl hkt _ rfl w'
                simp only [Nat.mul_one, Nat.zero_add] at hix
                have hd0 := hbx.cell (i := 0) rfl
                generalize ixI E k = x at *
                have hll := lsK_length E f k hel
                obtain ⟨M, hM⟩ : ∃ M, M = L ++ lsK E f k := ⟨_, rfl⟩
                have hMl : M.length ≤ 28 * f + 28 := by rw [hM, List.length_append]; omega
                rw [← hM] at hoo
                have HOE := Lib.hid hoe
                have HBX := Lib.hid hbx
                have HLO := Lib.hid hlo
                have HOO := Lib.hid hoo
                have HOF := Lib.hid hoff
                clear hoe hbx hlo hoo hoff
                have hstay : ∀ h : lsK E f (k + 1) = lsK E f k, Hid (L ++ lsK E f (k + 1) = M) := fun h => Lib.hid (by rw [h, hM])
                have HST := Lib.hid hstay
                have HGR : Hid (4 < E.length → x < 24 → L ++ lsK E f (k + 1) = M ++ [24 * (f : Int) + x]) := Lib.hid fun h1 h2 => by rw [HS.out, if_pos ⟨h1, h2⟩, hM, List.append_assoc]
                clear hM hstay
                by_cases h4 : 4 < E.length
                · have h4' : (4 : Int) < (E.length : Int) := by omega
                  by_cases hx : x < 24
                  · have HS2 := Lib.hid (HGR.out h4 hx)
                    clear HS HGR HST
                    have hoa := ownD_keep HOO.out ((Below.refl wr.heap.size wr).alloc (Nat.le_refl _) (.cells #[.int .i64 (24 * (f : Int) + x)] 3))
                    have hA := (Below.refl wr.heap.size wr).alloc (Nat.le_refl _) (.cells #[.int .i64 (24 * (f : Int) + x)] 3)
                    have HA := Lib.hid hA
                    have hbas : gt + 1 ≤ (wr.alloc (.cells #[.int .i64 (24 * (f : Int) + x)] 3)).heap.size := by simp; omega
                    clear hA
                    go_wp2_with (at_builtin; refine wpList_ap1 rfl _ _ rfl Try.underlying30 Try.infoInt9 rfl hoa rfl (g := wr.heap.size) (y := .int .i64 (24 * (f : Int) + x)) rfl (by simp) rfl (by unfold maxLen; omega) (by omega) hbas ?_; intro v7 w7 hown7 hgr7 hno7)
                    have hb7 := (Below.refl (gt + 1) (wr.alloc (.cells #[.int .i64 (24 * (f : Int) + x)] 3))).grown hgr7 hbas (fun q hq => by have := ownD_block hoa q hq; omega)
                    have hlo7 := (HLO.out.call HA.out).keep hb7
                    have hoe7 := own_off (ownD_keep HOE.out HA.out) hgr7 (fun q hq h => HOF.out q h (.inr (by simpa [Value.ownBlock] using hq)))
                    have hbx7 := bx_off (HBX.out.call HA.out) hgr7 (fun h => HOF.out eb h (.inl rfl))
                    have hf7 := HOF.out.step hno7 (fun q hq h => by
                      simp only [World.size_alloc] at hq
                      rcases h with h | h
                      · omega
                      · simp only [Option.some.injEq, Addr.mk.injEq, and_true] at h
                        omega)
                    clear hoa hgr7 hno7 HA HOE HBX HLO HOO HOF
                    go_roundw
                    case rel => exact ⟨k + 1, by omega, by go_num, by rw [HS2.out, is_append, List.length_append]; exact hown7, hf7, hoe7, hbx7, hlo7⟩
                    case measure => simp [intOf]; omega
                  · have HS2 := HST.out (by rw [HS.out, if_neg (fun h => hx h.2)])
                    have hxd : decide (x < 24) = false := decide_eq_false hx
                    clear HS HGR HST
                    go_wp2_with fail
                    go_roundw
                    case rel => exact ⟨k + 1, by omega, by go_num, by rw [HS2.out]; exact HOO.out, HOF.out, HOE.out, HBX.out, HLO.out⟩
                    case measure => simp [intOf]; omega
                · have HS2 := HST.out (by rw [HS.out, if_neg (fun h => h4 h.1)])
                  have h4' : ¬ (4 : Int) < (E.length : Int) := by omega
                  clear HS HGR HST
                  go_wp2_with fail
                  go_roundw
                  case rel => exact ⟨k + 1, by omega, by go_num, by rw [HS2.out]; exact HOO.out, HOF.out, HOE.out, HBX.out, HLO.out⟩
                  case measure => simp [intOf]; omega
              · obtain rfl : k = E.length := by omega
                go_wp2_with fail
                go_roundw
                case rel => exact ⟨f + 1, by omega, by go_num, by rw [hE.out]; exact hoo, hlo⟩
                case measure => simp [intOf]; omega
        · obtain rfl : f = n := by omega
          have HLE := Lib.hid hlo.le
          have HO := Lib.hid ho
          obtain ⟨ao, co, rfl⟩ := ownD_form ho
          clear ho hlo
          go_wp2_with fail
          go_ret2
          exact ⟨_, rfl, own_mono HO.out (by omega), HLE.out⟩
end Go.Proofs.Ytpncjadhpnapnaa.C9
