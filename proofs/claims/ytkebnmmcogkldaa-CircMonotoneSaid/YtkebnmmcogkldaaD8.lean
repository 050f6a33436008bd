/- Chapter 9: Encode of the reference walked. -/
import Derived.Test.YtkebnmmcogkldaaD5
import Derived.Test.YtkebnmmcogkldaaRef4
namespace Go.Proofs.Ytkebnmmcogkldaa.C9
open Go.RowKit W8
set_option linter.unusedVariables false

theorem Try.infoU9 : (Try.prog.info? 5).map (fun i => (i.zero, i.size, i.bytes)) = some (some (.int .u8 0), 1, 1) := by kernel_rfl
def wrds (d : List UInt8) (k : Nat) : List (List UInt8) := (List.range k).map (wrd d)
theorem wrds_length (d : List UInt8) (k : Nat) : (wrds d k).length = k := by simp [wrds]
theorem wrds_succ (d : List UInt8) (k : Nat) : wrds d (k + 1) = wrds d k ++ [wrd d k] := by simp [wrds, List.range_succ]
theorem wrds_at (d : List UInt8) {n f : Nat} (h : f < n) : atD [] (wrds d n) f = wrd d f := by simp [atD, wrds, h]
set_option maxRecDepth 100000 in
set_option maxHeartbeats 1000000 in
theorem rencodeC_arg (d : List UInt8) (w : World) (hl : d.length ≤ 9223372036854775807) (h : d.length = 0 ∨ d.length % 24 ≠ 0) : Calls Try.prog 15 #[.string (str d)] w (EncP ([], 1) w) := by
  have hs := str_size d
  generalize d.length = n at *
  by_cases h0 : n = 0
  · have hq : ((n : Int) == 0) = true := by rw [beq_iff_eq]; omega
    clear h h0
    go_enter Try.func15, Try.ntmps15
    go_wp2_with fail
    go_ret2
    exact EncP.none 1 rfl (Below.refl _ _)
  · have hq : ((n : Int) == 0) = false := by rw [beq_eq_false_iff_ne]; omega
    have hm : (((n : Int) % 24) != 0) = true := by rw [bne_iff_ne]; omega
    clear h h0
    go_enter Try.func15, Try.ntmps15
    go_wp2_with fail
    go_ret2
    exact EncP.none 1 rfl (Below.refl _ _)
set_option maxRecDepth 100000 in
set_option maxHeartbeats 1000000 in
theorem rencodeC_big (d : List UInt8) (n : Nat) (w : World) (hl : d.length ≤ 9223372036854775807) (hd : d.length = 24 * n) (h : 784 < n) : Calls Try.prog 15 #[.string (str d)] w (EncP ([], 7) w) := by
  have hs := str_size d
  rw [hd] at hs hl
  have hq : ((24 * (n : Int)) == 0) = false := by rw [beq_eq_false_iff_ne]; omega
  have hq2 : ((n : Int) == 0) = false := by rw [beq_eq_false_iff_ne]; omega
  have hq3 : (18816 : Int) < 24 * (n : Int) := by omega
  clear hd
  go_enter Try.func15, Try.ntmps15
  go_wp2_with fail
  go_ret2
  exact EncP.none 7 rfl (Below.refl _ _)
set_option maxRecDepth 100000 in
set_option maxHeartbeats 4000000 in
theorem rencodeC_ok (d : List UInt8) (n : Nat) (w : World) (hd : d.length = 24 * n) (h1 : 1 ≤ n) (h2 : n ≤ 784) : Calls Try.prog 15 #[.string (str d)] w (EncP (frms d n (n + 108), 0) w) := by
  have hs := str_size d
  rw [hd] at hs
  have hq : ((24 * (n : Int)) == 0) = false := by rw [beq_eq_false_iff_ne]; omega
  have hq2 : ((n : Int) == 0) = false := by rw [beq_eq_false_iff_ne]; omega
  have hq3 : ¬ (18816 : Int) < 24 * (n : Int) := by omega
  have HD := Lib.hid hd
  obtain ⟨N, hN⟩ : ∃ N, N = n + 108 := ⟨_, rfl⟩
  rw [← hN]
  have hN1 : n + 108 ≤ N := by omega
  have hN2 : N ≤ n + 108 := by omega
  clear hd hN
  go_enter Try.func15, Try.ntmps15
  go_wp2_with fail
  have ho0 : (w.alloc (.cells #[] 9)).ownsRow w.heap.size 9 1 (.slice (some ⟨w.heap.size, 0, none⟩) 0 0) 0 (flD ssD (wrds d 0)) := World.ownsRow_lit w #[] 0 (Nat.le_refl _) (by simp) (by simp)
  have hb0 : Below w.heap.size w (w.alloc (.cells #[] 9)) := (Below.refl _ _).alloc (Nat.le_refl _) _
  go_loopw [4, 5] (fun vo vf wr => ∃ f : Nat, f ≤ n ∧ vf = .int .i64 f ∧ wr.ownsRow w.heap.size 9 1 vo (wrds d f).length (flD ssD (wrds d f)) ∧ Below w.heap.size w wr) (fun _ vf _ => n - (intOf vf).toNat)
  case atStart => exact ⟨0, by omega, rfl, ho0, hb0⟩
  case round =>
    clear ho0 hb0
    obtain ⟨f, hf, rfl, ho, hb⟩ := hrel
    obtain ⟨wo, rfl⟩ : ∃ wo : World, wo = wr := ⟨_, rfl⟩
    have hbs := hb.size
    by_cases hlt : f < n
    · have hlt' : (f : Int) < (n : Int) := by omega
      have hcut := fun W => run_cut9 (P := Try.prog) Try.underlying9 d (24 * f) (24 * f + 24) (by omega) (by rw [HD.out]; omega) (24 * (f : Int)) (24 * (f : Int) + 24) (by omega) (by omega) W
      have hdl := dat_length HD.out hlt
      rw [Nat.add_sub_cancel_left] at hcut
      simp only [show (d.drop (24 * f)).take 24 = dat d f from rfl] at hcut
      have HE := Lib.hid (fun W => rencode_ok (dat d f) 4 W (by intro e; rw [e] at hdl; simp at hdl) (by omega) (by omega) (by omega))
      have HS : Hid (wrds d (f + 1) = wrds d f ++ [G.enc (dat d f) 4]) := Lib.hid (wrds_succ d f)
      have hll := wrds_length d f
      generalize wrds d f = L at ho HS hll
      have HO := Lib.hid ho
      have HB := Lib.hid hb
      clear hdl ho hb
      go_wp2_with fail
      refine (HE.out _).mono ?_
      rintro e w4 ⟨rfl, hb4⟩
      generalize G.enc (dat d f) 4 = x at HS ⊢
      have hA := hb4.alloc hb4.size (.cells #[.string (str x)] 9)
      have hoa := ownD_keep HO.out hA
      have hba := HB.out.trans (hA.mono hbs)
      have hbas := hba.size
      clear hb4 hA hcut HE
      go_wp2_with (at_builtin; refine wpList_ap1 rfl _ _ rfl Try.underlying36 Try.infoStr9 rfl hoa rfl (g := w4.heap.size) (y := .string (str x)) rfl (by simp) rfl (by unfold maxLen; omega) (by omega) hbas ?_; intro v8 w8 hown8 hgr8 hno8)
      have hb8 := hba.grown hgr8 hbas (ownD_block hoa)
      clear hoa hba hgr8
      go_roundw
      case rel => exact ⟨f + 1, by omega, by go_num, by rw [HS.out, ss_append, List.length_append]; exact hown8, hb8⟩
      case measure => simp [intOf]; omega
    · obtain rfl : f = n := by omega
      have hrd := RdD.ofOwn (d := []) ssD_len ho
      obtain ⟨av, cv, rfl⟩ := ownD_form ho
      obtain ⟨bv, ov, hcv⟩ := RdD.at hrd
      rw [wrds_length] at hcv ⊢
      have HCV := Lib.hid hcv
      clear hcv ho hrd hq hq2 hq3
      have hov : (wo.alloc (.cells #[] 9)).ownsRow wo.heap.size 9 1 (.slice (some ⟨wo.heap.size, 0, none⟩) 0 0) 0 (flD ssD (frms d f 0)) := World.ownsRow_lit wo #[] 0 (Nat.le_refl _) (by simp) (by simp)
      have hbo : Below wo.heap.size wo (wo.alloc (.cells #[] 9)) := (Below.refl _ _).alloc (Nat.le_refl _) _
      go_wp2_with fail
      go_loopw [8, 9] (fun vo vg wr => ∃ g : Nat, g ≤ N ∧ vg = .int .i64 g ∧ wr.ownsRow wo.heap.size 9 1 vo (frms d f g).length (flD ssD (frms d f g)) ∧ Below wo.heap.size wo wr) (fun _ vg _ => N - (intOf vg).toNat)
      case atStart => exact ⟨0, by omega, rfl, hov, hbo⟩
      case round =>
        clear hov hbo
        obtain ⟨g, hg, rfl, ho, hbo⟩ := hrel
        obtain ⟨wq, rfl⟩ : ∃ wq : World, wq = wr := ⟨_, rfl⟩
        have hbos := hbo.size
        by_cases hgt : g < N
        · have hgt' : (g : Int) < (f : Int) + 108 := by omega
          have HL := Lib.hid (frms_succ d f g)
          have hll := frms_length d f g
          generalize frms d f g = L at ho HL hll
          have HO := Lib.hid ho
          have hoe : (wq.alloc (.cells #[] 5)).ownsRow wq.heap.size 5 1 (.slice (some ⟨wq.heap.size, 0, none⟩) 0 0) 0 (bs (rowK d f g 0)) := World.ownsRow_lit wq #[] 0 (Nat.le_refl _) (by simp) (by simp)
          have hbe : Below wq.heap.size wq (wq.alloc (.cells #[] 5)) := (Below.refl _ _).alloc (Nat.le_refl _) _
          clear ho
          go_wp2_with fail
          go_loopw [10, 11] (fun ve vi wr => ∃ i : Nat, i ≤ 28 ∧ vi = .int .i64 i ∧ wr.ownsRow wq.heap.size 5 1 ve (rowK d f g i).length (bs (rowK d f g i)) ∧ Below wq.heap.size wq wr) (fun _ vi _ => 28 - (intOf vi).toNat)
          case atStart => exact ⟨0, by omega, rfl, hoe, hbe⟩
          case round =>
            clear hoe hbe
            obtain ⟨i, hi, rfl, hoe, hbe⟩ := hrel
            have hes := hbe.size
            by_cases hit : i < 28
            · have hit' : (i : Int) < 28 := by omega
              have HS := Lib.hid (rowK_succ d f g i)
              have hrl := rowK_length d f g i
              generalize rowK d f g i = R at hoe HS hrl
              obtain ⟨q, hq⟩ : ∃ q, q = sym d f g i := ⟨_, rfl⟩
              rw [← hq] at HS
              have hoa := ownD_keep hoe ((Below.refl wr.heap.size wr).alloc (Nat.le_refl _) (.cells #[B q] 5))
              have hba := hbe.alloc hes (.cells #[B q] 5)
              have hbas := hba.size
              by_cases hc : 4 * i ≤ g ∧ g - 4 * i < f
              · obtain ⟨c1, c2⟩ := hc
                obtain ⟨m, hm⟩ : ∃ m, m = g - 4 * i := ⟨_, rfl⟩
                have hq2 : q = G.ix (wrd d m) i := by rw [hq, hm]; unfold sym; rw [if_pos ⟨c1, c2⟩]
                have hmi : (g : Int) - 4 * (i : Int) = (m : Int) := by omega
                have hmf : m < f := by omega
                obtain ⟨ha, hrange⟩ := HCV.out m hmf
                rw [wrds_at d hmf] at hrange
                have hwl := wrd_length HD.out hmf
                have hcl : wr.cell? ⟨bv, ov + m * 1, none⟩ = some (.string (str (wrd d m))) := (hbo.trans (hbe.mono hbos)).cell (p := ⟨bv, ov + m * 1, none⟩) (World.block_lt_of_cell? wo _ (hrange 0 _ rfl)) |>.trans (hrange 0 _ rfl)
                have hix := fun w' => run_idxS Try.underlying36 (by kernel_rfl : (Try.prog.info? 9).map (·.size) = some 1) (cap := cv) ha hmf (m : Int) rfl w'
                have hsx := fun W => run_sidx (P := Try.prog) Try.underlying9 (wrd d m) i (by omega) (i : Int) rfl W
                simp only [Nat.mul_one] at hix hcl
                rw [← hq2] at hsx
                have Ha := Lib.hid ha
                have hm1 : decide (0 ≤ (m : Int)) = true := by simp
                have hm2 : (m : Int) < (f : Int) := by omega
                have HMI := Lib.hid hmi
                clear hmi hq hq2 hm hrange ha hoe hbe c1 c2 hwl
                go_upto_region 20 with (fail)
                rw [HMI.out]
                go_wp2_with (at_builtin; refine wpList_ap1 rfl _ _ rfl Try.underlying59 Try.infoU9 rfl hoa rfl (g := wr.heap.size) (y := B q) rfl (by simp) rfl (by unfold maxLen; omega) (by omega) hbas ?_; intro v7 w7 hown7 hgr7 hno7)
                have hb7 := hba.grown hgr7 hbas (ownD_block hoa)
                clear hba hoa hgr7
                go_roundw
                case rel => exact ⟨i + 1, by omega, by go_num, by rw [HS.out, bs_append, List.length_append]; exact hown7, hb7⟩
                case measure => simp [intOf]; omega
              · have hq2 : q = 0 := by rw [hq]; unfold sym; rw [if_neg hc]
                subst hq2
                have hm1 : ((g : Int) - 4 * (i : Int) < 0) ∨ (0 ≤ (g : Int) - 4 * (i : Int) ∧ (f : Int) ≤ (g : Int) - 4 * (i : Int)) := by omega
                obtain ⟨m, hm⟩ : ∃ m : Int, (g : Int) - 4 * (i : Int) = m := ⟨_, rfl⟩
                rw [hm] at hm1
                have HM := Lib.hid hm
                clear hm hq hc hoe hbe
                rcases hm1 with m1 | ⟨m1, m2⟩
                · have e1 : decide (0 ≤ m) = false := decide_eq_false (by omega)
                  go_upto_region 20 with (fail)
                  rw [HM.out]
                  go_wp2_with (at_builtin; refine wpList_ap1 rfl _ _ rfl Try.underlying59 Try.infoU9 rfl hoa rfl (g := wr.heap.size) (y := B 0) rfl (by simp) rfl (by unfold maxLen; omega) (by omega) hbas ?_; intro v7 w7 hown7 hgr7 hno7)
                  have hb7 := hba.grown hgr7 hbas (ownD_block hoa)
                  clear hba hoa hgr7
                  go_roundw
                  case rel => exact ⟨i + 1, by omega, by go_num, by rw [HS.out, bs_append, List.length_append]; exact hown7, hb7⟩
                  case measure => simp [intOf]; omega
                · have e1 : decide (0 ≤ m) = true := decide_eq_true (by omega)
                  have e2 : decide (m < (f : Int)) = false := decide_eq_false (by omega)
                  go_upto_region 20 with (fail)
                  rw [HM.out]
                  go_wp2_with (at_builtin; refine wpList_ap1 rfl _ _ rfl Try.underlying59 Try.infoU9 rfl hoa rfl (g := wr.heap.size) (y := B 0) rfl (by simp) rfl (by unfold maxLen; omega) (by omega) hbas ?_; intro v7 w7 hown7 hgr7 hno7)
                  have hb7 := hba.grown hgr7 hbas (ownD_block hoa)
                  clear hba hoa hgr7
                  go_roundw
                  case rel => exact ⟨i + 1, by omega, by go_num, by rw [HS.out, bs_append, List.length_append]; exact hown7, hb7⟩
                  case measure => simp [intOf]; omega
            · obtain rfl : i = 28 := by omega
              have hrl := rowK_length d f g 28
              have hrd := Rd.ofOwn hoe (by omega)
              have hconv := run_str (P := Try.prog) Try.underlying59 Try.underlying5 Try.underlying9 hrd
              have HE := Lib.hid (fun W => rencode_ok (rowK d f g 28) 4 W (by intro e; rw [e] at hrl; simp at hrl) (by omega) (by omega) (by omega))
              obtain ⟨ae, ce, rfl⟩ := ownD_form hoe
              have HBE := Lib.hid hbe
              clear hoe hrd hbe hrl
              go_wp2_with fail
              refine (HE.out _).mono ?_
              rintro e w7 ⟨rfl, hb7⟩
              change Hid (frms d f (g + 1) = L ++ [G.enc (rowK d f g 28) 4]) at HL
              generalize G.enc (rowK d f g 28) 4 = x at HL ⊢
              have hA := (HBE.out.trans (hb7.mono hes)).alloc (HBE.out.trans (hb7.mono hes)).size (.cells #[.string (str x)] 9)
              have hoa := ownD_keep HO.out hA
              have hba := hbo.trans (hA.mono hbos)
              have hbas := hba.size
              clear hconv hb7 hA
              go_wp2_with (at_builtin; refine wpList_ap1 rfl _ _ rfl Try.underlying36 Try.infoStr9 rfl hoa rfl (g := w7.heap.size) (y := .string (str x)) rfl (by simp) rfl (by unfold maxLen; omega) (by omega) hbas ?_; intro v8 w8 hown8 hgr8 hno8)
              have hb8 := hba.grown hgr8 hbas (ownD_block hoa)
              clear hba hoa hgr8
              go_roundw
              case rel => exact ⟨g + 1, by omega, by go_num, by rw [HL.out, ss_append, List.length_append]; exact hown8, hb8⟩
              case measure => simp [intOf]; omega
        · obtain rfl : g = N := by omega
          have hgt' : ¬ (g : Int) < (f : Int) + 108 := by omega
          obtain ⟨ao, co, rfl⟩ := ownD_form ho
          have HO := Lib.hid ho
          clear ho
          go_wp2_with fail
          go_ret2
          exact ⟨_, rfl, own_mono HO.out hbs, hb.trans (hbo.mono hbs)⟩
end Go.Proofs.Ytkebnmmcogkldaa.C9
