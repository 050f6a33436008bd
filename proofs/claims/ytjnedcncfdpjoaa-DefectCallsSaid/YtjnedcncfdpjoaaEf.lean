/- Chapter 13: the law DefectMoves walked. -/
import Derived.Test.YtjnedcncfdpjoaaEd
namespace Go.Proofs.Ytjnedcncfdpjoaa.D13
open Go.RowKit Go.Maps
set_option linter.unusedVariables false

theorem replR_cases {T : Tab} (h : T.used ≤ T.spares) (b : Int) :
    (¬ (0 ≤ b ∧ b < T.blocks) ∧ replR T b = ((0, 2), T)) ∨ ((0 ≤ b ∧ b < T.blocks) ∧ T.used = T.spares ∧ replR T b = ((0, 12), T)) ∨ ((0 ≤ b ∧ b < T.blocks) ∧ T.used < T.spares ∧ replR T b = (((T.first : Int) + T.used, 0), T.repl b)) := by
  unfold replR
  by_cases hr : 0 ≤ b ∧ b < (T.blocks : Int)
  · rw [if_pos hr]
    by_cases hu : T.used = T.spares
    · rw [if_pos hu]; exact .inr (.inl ⟨hr, hu, rfl⟩)
    · rw [if_neg hu]; exact .inr (.inr ⟨hr, by omega, rfl⟩)
  · rw [if_neg hr]; exact .inl ⟨hr, rfl⟩
/-- the sectors of the first 'i' blocks -/
def pL (T : Tab) (i : Nat) : List Int := (List.range i).map fun j : Nat => T.phys j
theorem pL_length (T : Tab) (i : Nat) : (pL T i).length = i := by simp [pL]
theorem pL_succ (T : Tab) (i : Nat) : pL T (i + 1) = pL T i ++ [T.phys i] := by simp [pL, List.range_succ]
theorem pL_get (T : Tab) {i j : Nat} (h : j < i) : ixI (pL T i) j = T.phys j := by simp [ixI, pL, h]
theorem contains13 (v : Value) (l : List Int) (x : Int) (w : World) (hv : RdI w v l) : Calls Try.prog 17 #[v, .int .i64 x] w fun e w' => e = .returned (.bool (l.contains x)) ∧ w' = w := by
  obtain ⟨h0, ⟨a, cap, b, off, rfl, hcap, hcell⟩, hrng⟩ := hv
  by_cases hn : l = []
  · subst hn
    exact Try.slices_Contains_int_empty a cap x w
  · have hpos : 0 < l.length := List.length_pos_iff.2 hn
    obtain ⟨rfl, _⟩ := hcell 0 hpos
    have := Try.slices_Contains_int b off l.length cap l x w (Nat.le_refl _) (by omega) (fun j hj => (hcell j hj).2)
    rwa [List.take_length] at this
theorem phys_not_in {T : Tab} (h : T.Ok) (b : Int) (n : Nat) (hn : n ≤ T.blocks) : (pL T n).contains ((T.first : Int) + T.used) = false := by
  rw [← Bool.not_eq_true]
  intro hc
  rw [List.contains_iff_mem] at hc
  simp only [pL, List.mem_map, List.mem_range] at hc
  obtain ⟨j, hj, e⟩ := hc
  have := h.phys_range (b := j) (by omega) (by omega)
  omega
set_option maxRecDepth 100000 in
set_option maxHeartbeats 4000000 in
theorem moves_skip (w : World) (b s : Int) (hb : In64 b) (hs : In64 s) (v1 : Value) (l1 : List Int) (h1 : CameI w v1 l1) (v2 : Value) (l2 : List Int) (h2 : CameI w v2 l2) (hno : 40 < b ∨ 20 < l1.length ∨ 80 < l2.length) :
    Calls Try.prog 5 #[.int .i64 b, .int .i64 s, v1, v2] w fun e w' => e = .returned (.bool true) ∧ Below w.heap.size w w' := by
  obtain ⟨_, hl1, a1, c1, rfl⟩ := h1
  obtain ⟨_, hl2, a2, c2, rfl⟩ := h2
  obtain ⟨b1, b2⟩ := hb
  have hcase : 40 < b ∨ (¬ 40 < b ∧ 20 < l1.length) ∨ (¬ 40 < b ∧ ¬ 20 < l1.length ∧ 80 < l2.length) := by omega
  clear hno
  rcases hcase with g1 | ⟨g1, g2⟩ | ⟨g1, g2, g3⟩
  all_goals
    go_enter Try.func5, Try.ntmps5
    go_wp2_with fail
    refine (awake13_any _).mono ?_
    rintro e w1 ⟨rfl, hb1⟩
    go_wp2_with fail
    go_ret
    exact ⟨rfl, hb1⟩
set_option maxRecDepth 100000 in
set_option maxHeartbeats 4000000 in
theorem moves_bad (w : World) (b s : Int) (hb : In64 b) (hs : In64 s) (v1 : Value) (l1 : List Int) (h1 : RdI w v1 l1) (v2 : Value) (l2 : List Int) (h2 : RdI w v2 l2) (g1 : b ≤ 40) (g2 : l1.length ≤ 20) (g3 : l2.length ≤ 80) (hno : ¬ shp b s l1) :
    Calls Try.prog 5 #[.int .i64 b, .int .i64 s, v1, v2] w fun e w' => e = .returned (.bool true) ∧ Below w.heap.size w w' := by
  have HNW := Lib.hid (fun W hv => new_any b s hb hs v1 l1 W hv)
  have H1 := Lib.hid h1
  obtain ⟨a1, c1, rfl⟩ := RdI.formD h1
  obtain ⟨a2, c2, rfl⟩ := RdI.formD h2
  have HS := Lib.hid hno
  clear h1 h2 hno
  go_enter Try.func5, Try.ntmps5
  go_wp2_with fail
  refine (awake13_any _).mono ?_
  rintro e w1 ⟨rfl, hb1⟩
  have HB1 := Lib.hid hb1
  have HN1 := Lib.hid (HNW.out w1 (H1.out.keep hb1))
  clear hb1
  go_wp2_with fail
  refine HN1.out.mono ?_
  rintro e w2 ⟨hb2, h2'⟩
  have HB2 := Lib.hid (HB1.out.trans (hb2.mono HB1.out.size))
  clear hb2
  rcases h2' with ⟨hn, _⟩ | ⟨hn, rfl⟩
  · exact absurd hn HS.out
  · clear hn
    go_wp2_with fail
    go_ret
    exact ⟨rfl, HB2.out⟩
set_option maxRecDepth 100000 in
set_option maxHeartbeats 8000000 in
theorem moves_main (w : World) (b s : Int) (hb : In64 b) (hs : In64 s) (v1 : Value) (l1 : List Int) (h1 : RdI w v1 l1) (v2 : Value) (l2 : List Int) (h2 : RdI w v2 l2) (g1 : b ≤ 40) (g2 : l1.length ≤ 20) (g3 : l2.length ≤ 80) (hsh : shp b s l1) :
    Calls Try.prog 5 #[.int .i64 b, .int .i64 s, v1, v2] w fun e w' => e = .returned (.bool true) ∧ Below w.heap.size w w' := by
  have HNW := Lib.hid (fun W hv => new_any b s hb hs v1 l1 W hv)
  have H1 := Lib.hid h1
  have H2 := Lib.hid h2
  obtain ⟨a1, c1, rfl⟩ := RdI.formD h1
  obtain ⟨a2, c2, rfl⟩ := RdI.formD h2
  have HS := Lib.hid hsh
  have b1 := hsh.1.1
  have s1 := hsh.1.2.2.1
  have s2 := hsh.1.2.2.2.1
  clear h1 h2 hsh hb hs
  go_enter Try.func5, Try.ntmps5
  go_wp2_with fail
  refine (awake13_any _).mono ?_
  rintro e w1 ⟨rfl, hb1⟩
  have HB1 := Lib.hid hb1
  have HN1 := Lib.hid (HNW.out w1 (H1.out.keep hb1))
  clear hb1
  go_wp2_with fail
  refine HN1.out.mono ?_
  rintro e w2 ⟨hb2, h2'⟩
  have HB2 := Lib.hid (HB1.out.trans (hb2.mono HB1.out.size))
  have hb1s := HB1.out.size
  clear hb2
  rcases h2' with ⟨_, g, gm, vp, rfl, hT, hg, hgm⟩ | ⟨hn, _⟩
  rotate_left
  · exact absurd HS.out hn
  have HT := Lib.hid hT
  have HG : Hid (w.heap.size ≤ g ∧ w.heap.size ≤ gm) := Lib.hid ⟨by omega, by omega⟩
  clear hT hg hgm hb1s
  have HB40 : Hid (∀ T : Tab, Left b s l1 T → T.blocks ≤ 40 ∧ (T.blocks : Int) = b) := Lib.hid fun T h => by have := h.hb; omega
  go_wp2_with fail
  go_loopw [55] (fun vk wr => ∃ k : Nat, k ≤ l2.length ∧ vk = .int .i64 k ∧ TabW wr g gm vp (reps (tab0 b s l1) (l2.take k)) ∧ Below w.heap.size w wr) (fun vk _ => l2.length - (intOf vk).toNat)
  case atStart => exact ⟨0, by omega, rfl, HT.out, HB2.out⟩
  case round =>
    obtain ⟨k, hk, rfl, hT, hb⟩ := hrel
    have HT2 := Lib.hid hT
    have HB3 := Lib.hid hb
    by_cases hlt : k < l2.length
    · obtain ⟨bl, off, hcell⟩ := RdI.at (H2.out.keep hb)
      obtain ⟨ha, hcl⟩ := hcell k hlt
      have hix := fun w' => run_idxS Try.underlying22 Try.sizeInt13 (cap := c2) ha hlt (k : Int) rfl w'
      simp only [Nat.mul_one] at hix
      have hxr : In64 (ixI l2 k) := H2.out.2.2 k hlt
      have HX := Lib.hid (reps_take (tab0 b s l1) l2 k hlt)
      have HLE := Lib.hid ((Left.zero HS.out).reps (l2.take k))
      generalize reps (tab0 b s l1) (l2.take k) = T at *
      generalize ixI l2 k = x at *
      have HA := Lib.hid ha
      obtain ⟨hb40, hbb⟩ := HB40.out T HLE.out
      have HBB := Lib.hid hbb
      have HXR := Lib.hid hxr
      obtain ⟨wo, rfl⟩ : ∃ wo : World, wo = wr := ⟨_, rfl⟩
      clear ha hT hb hcell hbb hxr
      go_wp2_with fail
      go_loopw [60, 13] (fun vi vb wq => ∃ i : Nat, i ≤ T.blocks ∧ vi = .int .i64 i ∧ wq.ownsRow wo.heap.size 3 1 vb i (is (pL T i)) ∧ Below wo.heap.size wo wq) (fun vi _ _ => T.blocks - (intOf vi).toNat)
      case atStart => exact ⟨0, by omega, rfl, ownsRow_nil _ _ _, Below.refl _ _⟩
      case round =>
        obtain ⟨i, hi, rfl, hO, hB⟩ := hrel
        have HO := Lib.hid hO
        have HB := Lib.hid hB
        clear hO hB
        by_cases hil : i < T.blocks
        · have hil' : (i : Int) < b := by have := HBB.out; omega
          have HP := Lib.hid (physical_any (HT2.out.below HB.out) i (by unfold In64; omega))
          have hPR : physR T i = (T.phys i, 0) := by unfold physR; rw [if_pos ⟨by omega, by omega⟩]
          rw [hPR] at HP
          have HSC := Lib.hid (pL_succ T i)
          have hpr := HT2.out.ok.phys_range (b := i) (by omega) (by omega)
          clear hPR hpr
          generalize T.phys i = y at *
          go_wp2_with fail
          refine HP.out.mono ?_
          rintro e w6 ⟨rfl, q6, rfl⟩
          have HB6 := Lib.hid (Below.drewN HB.out q6)
          have HO6 := Lib.hid (ownD_keep HO.out (Below.drewN (Below.refl _ _) q6))
          generalize wr.drewN q6 = w6 at *
          have hoA := ownD_keep HO6.out ((Below.refl w6.heap.size w6).alloc (Nat.le_refl _) (.cells #[.int .i64 y] 3))
          have hbA := HB6.out.alloc HB6.out.size (.cells #[.int .i64 y] 3)
          have HBA := Lib.hid hbA
          have hbas := hbA.size
          have hrd := reads_lit w6 [y] 3 (by simp)
          clear hbA
          go_wp2_with (at_builtin; refine wpList_appI rfl _ _ rfl Try.underlying22 Try.infoInt13 hoA rfl hrd rfl (by simp only [List.length_singleton]; omega) hbas ?_; intro v8 w8 hown8 hgr8)
          have hb8 := HBA.out.grown hgr8 HBA.out.size (fun j hj => ownD_block hoA j hj)
          go_roundw
          case rel => exact ⟨i + 1, by omega, by go_num, by rw [HSC.out]; exact hown8, hb8⟩
          case measure => simp [intOf]; omega
        · obtain rfl : i = T.blocks := by omega
          have hnl : ¬ ((T.blocks : Int) < b) := by have := HBB.out; omega
          have HT5 := Lib.hid (HT2.out.below HB.out)
          have HFR := Lib.hid (free_any HT5.out)
          obtain ⟨fr, hfr⟩ : ∃ fr : Int, fr = (T.spares : Int) - T.used := ⟨_, rfl⟩
          rw [← hfr] at HFR
          have HFV := Lib.hid hfr
          clear hfr
          go_wp2_with fail
          refine HFR.out.mono ?_
          rintro e w7 ⟨rfl, q7, rfl⟩
          have HT7 := Lib.hid (HT5.out.below (Below.drewN (Below.refl _ _) q7))
          have HB7 := Lib.hid (HB3.out.trans ((Below.drewN HB.out q7).mono HB3.out.size))
          have HO7 := Lib.hid (ownD_keep HO.out (Below.drewN (Below.refl _ _) q7))
          have HGW : Hid (g < wo.heap.size ∧ gm < wo.heap.size) := Lib.hid ⟨HT2.out.box.lt, HT2.out.map.lt⟩
          generalize wr.drewN q7 = w7 at *
          have HR := Lib.hid (replace_any HT7.out x HXR.out)
          rcases replR_cases HT2.out.ok.us x with ⟨hv, he⟩ | ⟨hv, hu, he⟩ | ⟨hv, hu, he⟩
          · rw [he] at HR HX
            clear he
            have hv2 : x < 0 ∨ (0 ≤ x ∧ b ≤ x) := by have := HBB.out; omega
            clear hv
            have hfr0 : 0 ≤ fr ∧ fr ≤ 64 := by have := HFV.out; have := HT2.out.ok.sp; have := HT2.out.ok.us; omega
            rcases hv2 with hx0 | ⟨hx0, hx1⟩
            · go_wp2_with fail
              refine HR.out.mono ?_
              rintro e w8 ⟨rfl, hT8, htu⟩
              dsimp only at hT8
              have HT8 := Lib.hid hT8
              have HO8 := Lib.hid (htu.own HO7.out (fun e => by have := ownD_block HO7.out _ e; have := HGW.out; omega) (fun e => by have := ownD_block HO7.out _ e; have := HGW.out; omega))
              have HB8 := Lib.hid (HB7.out.trans (htu.below HG.out.1 HG.out.2 HB7.out.size))
              obtain ⟨a5, c5, rfl⟩ := ownD_form HO8.out
              clear hT8 htu
              go_wp2_with fail
              go_loopw [117] (fun vi wq => ∃ i : Nat, i ≤ T.blocks ∧ vi = .int .i64 i ∧ Below w8.heap.size w8 wq) (fun vi _ => T.blocks - (intOf vi).toNat)
              case atStart => exact ⟨0, by omega, rfl, Below.refl _ _⟩
              case round =>
                obtain ⟨i, hi, rfl, hB⟩ := hrel
                have HBi := Lib.hid hB
                by_cases hil : i < T.blocks
                · have hil' : (i : Int) < b := by have := HBB.out; omega
                  have HP := Lib.hid (physical_any (HT8.out.below HBi.out) i (by unfold In64; omega))
                  have hPR : physR T i = (Tab.phys T i, 0) := by unfold physR; rw [if_pos ⟨by omega, by show (i : Int) < (T.blocks : Int); omega⟩]
                  rw [hPR] at HP
                  clear hPR
                  have HOi := Lib.hid (fun W (hW : Below w8.heap.size w8 W) => rdI_own (own_mono (ownD_keep HO8.out hW) (Nat.zero_le _)) (pL_length T T.blocks) (by omega) (fun z hz => by
                    simp only [pL, List.mem_map, List.mem_range] at hz
                    obtain ⟨j, hj, rfl⟩ := hz
                    have := HT2.out.ok.phys_range (b := j) (by omega) (by omega)
                    have := HT2.out.ok.us; have := HT2.out.ok.sp; have := HT2.out.ok.pl; have := first_int T
                    omega))
                  have hlen : (pL T T.blocks).length = T.blocks := pL_length _ _
                  have hph := HT2.out.ok.phys_range (b := i) (by omega) (by omega)
                  have hpr0 := hph.1
                  have hpr1 : T.phys i ≤ 10000 := by have := HT2.out.ok.us; have := HT2.out.ok.sp; have := HT2.out.ok.pl; have := first_int T; omega
                  clear hph
                  go_wp2_with fail
                  refine HP.out.mono ?_
                  rintro e w9 ⟨rfl, q9, rfl⟩
                  have hB9 := Below.drewN HBi.out q9
                  have hr9 := HOi.out _ hB9
                  obtain ⟨b9, o9, hcell9⟩ := RdI.at (a := a5) (c := c5) (l := pL T T.blocks) (by rw [hlen]; exact hr9)
                  obtain ⟨ha9, hc9⟩ := hcell9 i (by rw [hlen]; exact hil)
                  rw [pL_get T hil] at hc9
                  have hix9 := fun w' => run_idxS Try.underlying22 Try.sizeInt13 (cap := c5) ha9 hil (i : Int) rfl w'
                  simp only [Nat.mul_one] at hix9
                  have HA9 := Lib.hid ha9
                  have HB9 := Lib.hid hB9
                  clear hr9 hcell9 ha9 hB9 hB
                  generalize wr.drewN q9 = w9 at *
                  generalize T.phys i = y at *
                  go_wp2_with fail
                  go_roundw
                  case rel => exact ⟨i + 1, by omega, by go_num, HB9.out⟩
                  case measure => simp [intOf]; omega
                · obtain rfl : i = T.blocks := by omega
                  have hnl : ¬ ((T.blocks : Int) < b) := by have := HBB.out; omega
                  have HF9 := Lib.hid (free_any (HT8.out.below HBi.out))
                  have hfv : Hid (((Tab.spares T : Nat) : Int) - ((Tab.used T : Nat) : Int) = fr) := Lib.hid (by rw [HFV.out])
                  rw [hfv.out] at HF9
                  have hfr : 0 ≤ fr ∧ fr ≤ 64 := by have := HFV.out; have := HT2.out.ok.sp; have := HT2.out.ok.us; omega
                  obtain ⟨hf1, hf2⟩ := hfr
                  clear hB
                  go_wp2_with fail
                  refine HF9.out.mono ?_
                  rintro e w9 ⟨rfl, q9, rfl⟩
                  go_wp2_with fail
                  go_roundw
                  case rel => exact ⟨k + 1, by omega, by go_num, by rw [HX.out]; exact HT8.out.below (Below.drewN HBi.out q9), Below.drewN (HB8.out.trans (HBi.out.mono HB8.out.size)) q9⟩
                  case measure => simp [intOf]; omega

            · go_wp2_with fail
              refine HR.out.mono ?_
              rintro e w8 ⟨rfl, hT8, htu⟩
              dsimp only at hT8
              have HT8 := Lib.hid hT8
              have HO8 := Lib.hid (htu.own HO7.out (fun e => by have := ownD_block HO7.out _ e; have := HGW.out; omega) (fun e => by have := ownD_block HO7.out _ e; have := HGW.out; omega))
              have HB8 := Lib.hid (HB7.out.trans (htu.below HG.out.1 HG.out.2 HB7.out.size))
              obtain ⟨a5, c5, rfl⟩ := ownD_form HO8.out
              clear hT8 htu
              go_wp2_with fail
              go_loopw [117] (fun vi wq => ∃ i : Nat, i ≤ T.blocks ∧ vi = .int .i64 i ∧ Below w8.heap.size w8 wq) (fun vi _ => T.blocks - (intOf vi).toNat)
              case atStart => exact ⟨0, by omega, rfl, Below.refl _ _⟩
              case round =>
                obtain ⟨i, hi, rfl, hB⟩ := hrel
                have HBi := Lib.hid hB
                by_cases hil : i < T.blocks
                · have hil' : (i : Int) < b := by have := HBB.out; omega
                  have HP := Lib.hid (physical_any (HT8.out.below HBi.out) i (by unfold In64; omega))
                  have hPR : physR T i = (Tab.phys T i, 0) := by unfold physR; rw [if_pos ⟨by omega, by show (i : Int) < (T.blocks : Int); omega⟩]
                  rw [hPR] at HP
                  clear hPR
                  have HOi := Lib.hid (fun W (hW : Below w8.heap.size w8 W) => rdI_own (own_mono (ownD_keep HO8.out hW) (Nat.zero_le _)) (pL_length T T.blocks) (by omega) (fun z hz => by
                    simp only [pL, List.mem_map, List.mem_range] at hz
                    obtain ⟨j, hj, rfl⟩ := hz
                    have := HT2.out.ok.phys_range (b := j) (by omega) (by omega)
                    have := HT2.out.ok.us; have := HT2.out.ok.sp; have := HT2.out.ok.pl; have := first_int T
                    omega))
                  have hlen : (pL T T.blocks).length = T.blocks := pL_length _ _
                  have hph := HT2.out.ok.phys_range (b := i) (by omega) (by omega)
                  have hpr0 := hph.1
                  have hpr1 : T.phys i ≤ 10000 := by have := HT2.out.ok.us; have := HT2.out.ok.sp; have := HT2.out.ok.pl; have := first_int T; omega
                  clear hph
                  go_wp2_with fail
                  refine HP.out.mono ?_
                  rintro e w9 ⟨rfl, q9, rfl⟩
                  have hB9 := Below.drewN HBi.out q9
                  have hr9 := HOi.out _ hB9
                  obtain ⟨b9, o9, hcell9⟩ := RdI.at (a := a5) (c := c5) (l := pL T T.blocks) (by rw [hlen]; exact hr9)
                  obtain ⟨ha9, hc9⟩ := hcell9 i (by rw [hlen]; exact hil)
                  rw [pL_get T hil] at hc9
                  have hix9 := fun w' => run_idxS Try.underlying22 Try.sizeInt13 (cap := c5) ha9 hil (i : Int) rfl w'
                  simp only [Nat.mul_one] at hix9
                  have HA9 := Lib.hid ha9
                  have HB9 := Lib.hid hB9
                  clear hr9 hcell9 ha9 hB9 hB
                  generalize wr.drewN q9 = w9 at *
                  generalize T.phys i = y at *
                  go_wp2_with fail
                  go_roundw
                  case rel => exact ⟨i + 1, by omega, by go_num, HB9.out⟩
                  case measure => simp [intOf]; omega
                · obtain rfl : i = T.blocks := by omega
                  have hnl : ¬ ((T.blocks : Int) < b) := by have := HBB.out; omega
                  have HF9 := Lib.hid (free_any (HT8.out.below HBi.out))
                  have hfv : Hid (((Tab.spares T : Nat) : Int) - ((Tab.used T : Nat) : Int) = fr) := Lib.hid (by rw [HFV.out])
                  rw [hfv.out] at HF9
                  have hfr : 0 ≤ fr ∧ fr ≤ 64 := by have := HFV.out; have := HT2.out.ok.sp; have := HT2.out.ok.us; omega
                  obtain ⟨hf1, hf2⟩ := hfr
                  clear hB
                  go_wp2_with fail
                  refine HF9.out.mono ?_
                  rintro e w9 ⟨rfl, q9, rfl⟩
                  go_wp2_with fail
                  go_roundw
                  case rel => exact ⟨k + 1, by omega, by go_num, by rw [HX.out]; exact HT8.out.below (Below.drewN HBi.out q9), Below.drewN (HB8.out.trans (HBi.out.mono HB8.out.size)) q9⟩
                  case measure => simp [intOf]; omega

          · rw [he] at HR HX
            clear he
            obtain ⟨hx0, hx1'⟩ := hv
            have hx1 : x < b := by have := HBB.out; omega
            have hfz : fr = 0 := by have := HFV.out; omega
            subst hfz
            clear hx1' hu
            go_wp2_with fail
            refine HR.out.mono ?_
            rintro e w8 ⟨rfl, hT8, htu⟩
            dsimp only at hT8
            have HT8 := Lib.hid hT8
            have HO8 := Lib.hid (htu.own HO7.out (fun e => by have := ownD_block HO7.out _ e; have := HGW.out; omega) (fun e => by have := ownD_block HO7.out _ e; have := HGW.out; omega))
            have HB8 := Lib.hid (HB7.out.trans (htu.below HG.out.1 HG.out.2 HB7.out.size))
            obtain ⟨a5, c5, rfl⟩ := ownD_form HO8.out
            clear hT8 htu
            go_wp2_with fail
            go_loopw [117] (fun vi wq => ∃ i : Nat, i ≤ T.blocks ∧ vi = .int .i64 i ∧ Below w8.heap.size w8 wq) (fun vi _ => T.blocks - (intOf vi).toNat)
            case atStart => exact ⟨0, by omega, rfl, Below.refl _ _⟩
            case round =>
              obtain ⟨i, hi, rfl, hB⟩ := hrel
              have HBi := Lib.hid hB
              by_cases hil : i < T.blocks
              · have hil' : (i : Int) < b := by have := HBB.out; omega
                have HP := Lib.hid (physical_any (HT8.out.below HBi.out) i (by unfold In64; omega))
                have hPR : physR T i = (Tab.phys T i, 0) := by unfold physR; rw [if_pos ⟨by omega, by show (i : Int) < (T.blocks : Int); omega⟩]
                rw [hPR] at HP
                clear hPR
                have HOi := Lib.hid (fun W (hW : Below w8.heap.size w8 W) => rdI_own (own_mono (ownD_keep HO8.out hW) (Nat.zero_le _)) (pL_length T T.blocks) (by omega) (fun z hz => by
                  simp only [pL, List.mem_map, List.mem_range] at hz
                  obtain ⟨j, hj, rfl⟩ := hz
                  have := HT2.out.ok.phys_range (b := j) (by omega) (by omega)
                  have := HT2.out.ok.us; have := HT2.out.ok.sp; have := HT2.out.ok.pl; have := first_int T
                  omega))
                have hlen : (pL T T.blocks).length = T.blocks := pL_length _ _
                have hph := HT2.out.ok.phys_range (b := i) (by omega) (by omega)
                have hpr0 := hph.1
                have hpr1 : T.phys i ≤ 10000 := by have := HT2.out.ok.us; have := HT2.out.ok.sp; have := HT2.out.ok.pl; have := first_int T; omega
                clear hph
                go_wp2_with fail
                refine HP.out.mono ?_
                rintro e w9 ⟨rfl, q9, rfl⟩
                have hB9 := Below.drewN HBi.out q9
                have hr9 := HOi.out _ hB9
                obtain ⟨b9, o9, hcell9⟩ := RdI.at (a := a5) (c := c5) (l := pL T T.blocks) (by rw [hlen]; exact hr9)
                obtain ⟨ha9, hc9⟩ := hcell9 i (by rw [hlen]; exact hil)
                rw [pL_get T hil] at hc9
                have hix9 := fun w' => run_idxS Try.underlying22 Try.sizeInt13 (cap := c5) ha9 hil (i : Int) rfl w'
                simp only [Nat.mul_one] at hix9
                have HA9 := Lib.hid ha9
                have HB9 := Lib.hid hB9
                clear hr9 hcell9 ha9 hB9 hB
                generalize wr.drewN q9 = w9 at *
                generalize T.phys i = y at *
                go_wp2_with fail
                go_roundw
                case rel => exact ⟨i + 1, by omega, by go_num, HB9.out⟩
                case measure => simp [intOf]; omega
              · obtain rfl : i = T.blocks := by omega
                have hnl : ¬ ((T.blocks : Int) < b) := by have := HBB.out; omega
                have HF9 := Lib.hid (free_any (HT8.out.below HBi.out))
                have hfv : Hid (((Tab.spares T : Nat) : Int) - ((Tab.used T : Nat) : Int) = 0) := Lib.hid (by exact HFV.out.symm)
                rw [hfv.out] at HF9
                clear hB
                go_wp2_with fail
                refine HF9.out.mono ?_
                rintro e w9 ⟨rfl, q9, rfl⟩
                go_wp2_with fail
                go_roundw
                case rel => exact ⟨k + 1, by omega, by go_num, by rw [HX.out]; exact HT8.out.below (Below.drewN HBi.out q9), Below.drewN (HB8.out.trans (HBi.out.mono HB8.out.size)) q9⟩
                case measure => simp [intOf]; omega

          · rw [he] at HR HX
            clear he
            obtain ⟨hx0, hx1'⟩ := hv
            have hx1 : x < b := by have := HBB.out; omega
            have hfr1 : 0 < fr := by have := HFV.out; omega
            have hfr2 : fr ≤ 64 := by have := HFV.out; have := HT2.out.ok.sp; omega
            clear hx1' hu
            go_wp2_with fail
            refine HR.out.mono ?_
            rintro e w8 ⟨rfl, hT8, htu⟩
            dsimp only at hT8
            have HT8 := Lib.hid hT8
            have HO8 := Lib.hid (htu.own HO7.out (fun e => by have := ownD_block HO7.out _ e; have := HGW.out; omega) (fun e => by have := ownD_block HO7.out _ e; have := HGW.out; omega))
            have HB8 := Lib.hid (HB7.out.trans (htu.below HG.out.1 HG.out.2 HB7.out.size))
            obtain ⟨a5, c5, rfl⟩ := ownD_form HO8.out
            clear hT8 htu
            go_wp2_with fail
            go_loopw [117] (fun vi wq => ∃ i : Nat, i ≤ T.blocks ∧ vi = .int .i64 i ∧ Below w8.heap.size w8 wq) (fun vi _ => T.blocks - (intOf vi).toNat)
            case atStart => exact ⟨0, by omega, rfl, Below.refl _ _⟩
            case round =>
              obtain ⟨i, hi, rfl, hB⟩ := hrel
              have HBi := Lib.hid hB
              by_cases hil : i < T.blocks
              · have hil' : (i : Int) < b := by have := HBB.out; omega
                have HP := Lib.hid (physical_any (HT8.out.below HBi.out) i (by unfold In64; omega))
                have hPR : physR (T.repl x) i = (Tab.phys (T.repl x) i, 0) := by unfold physR; rw [if_pos ⟨by omega, by show (i : Int) < (T.blocks : Int); omega⟩]
                rw [hPR] at HP
                clear hPR
                have HOi := Lib.hid (fun W (hW : Below w8.heap.size w8 W) => rdI_own (own_mono (ownD_keep HO8.out hW) (Nat.zero_le _)) (pL_length T T.blocks) (by omega) (fun z hz => by
                  simp only [pL, List.mem_map, List.mem_range] at hz
                  obtain ⟨j, hj, rfl⟩ := hz
                  have := HT2.out.ok.phys_range (b := j) (by omega) (by omega)
                  have := HT2.out.ok.us; have := HT2.out.ok.sp; have := HT2.out.ok.pl; have := first_int T
                  omega))
                have hlen : (pL T T.blocks).length = T.blocks := pL_length _ _
                by_cases hix : (i : Int) = x
                · have hq : Tab.phys (T.repl x) i = (T.first : Int) + T.used := by rw [Tab.repl_phys, if_pos hix]
                  rw [hq] at HP
                  have hnc : (pL T T.blocks).contains ((T.first : Int) + T.used) = false := phys_not_in HT2.out.ok x _ (Nat.le_refl _)
                  have HCO := Lib.hid (fun W hW => contains13 _ (pL T T.blocks) ((T.first : Int) + T.used) W (HOi.out W hW))
                  rw [hnc] at HCO
                  subst hix
                  clear hq hnc hB
                  go_wp2_with fail
                  refine HP.out.mono ?_
                  rintro e w9 ⟨rfl, q9, rfl⟩
                  have HB9 := Lib.hid (Below.drewN HBi.out q9)
                  have HC9 := Lib.hid (HCO.out _ HB9.out)
                  generalize wr.drewN q9 = w9 at *
                  go_wp2_with fail
                  refine HC9.out.mono ?_
                  rintro e w10 ⟨rfl, rfl⟩
                  go_wp2_with fail
                  go_roundw
                  case rel => exact ⟨i + 1, by omega, by go_num, HB9.out⟩
                  case measure => simp [intOf]; omega
                · have hq : Tab.phys (T.repl x) i = T.phys i := by rw [Tab.repl_phys, if_neg hix]
                  rw [hq] at HP
                  clear hq
                  have hie : ((i : Int) == x) = false := by rw [beq_eq_false_iff_ne]; exact hix
                  have hph := HT2.out.ok.phys_range (b := i) (by omega) (by omega)
                  have hpr0 := hph.1
                  have hpr1 : T.phys i ≤ 10000 := by have := HT2.out.ok.us; have := HT2.out.ok.sp; have := HT2.out.ok.pl; have := first_int T; omega
                  clear hph
                  go_wp2_with fail
                  refine HP.out.mono ?_
                  rintro e w9 ⟨rfl, q9, rfl⟩
                  have hB9 := Below.drewN HBi.out q9
                  have hr9 := HOi.out _ hB9
                  obtain ⟨b9, o9, hcell9⟩ := RdI.at (a := a5) (c := c5) (l := pL T T.blocks) (by rw [hlen]; exact hr9)
                  obtain ⟨ha9, hc9⟩ := hcell9 i (by rw [hlen]; exact hil)
                  rw [pL_get T hil] at hc9
                  have hix9 := fun w' => run_idxS Try.underlying22 Try.sizeInt13 (cap := c5) ha9 hil (i : Int) rfl w'
                  simp only [Nat.mul_one] at hix9
                  have HA9 := Lib.hid ha9
                  have HB9 := Lib.hid hB9
                  clear hr9 hcell9 ha9 hB9 hB
                  generalize wr.drewN q9 = w9 at *
                  generalize T.phys i = y at *
                  go_wp2_with fail
                  go_roundw
                  case rel => exact ⟨i + 1, by omega, by go_num, HB9.out⟩
                  case measure => simp [intOf]; omega
              · obtain rfl : i = T.blocks := by omega
                have hnl : ¬ ((T.blocks : Int) < b) := by have := HBB.out; omega
                have HF9 := Lib.hid (free_any (HT8.out.below HBi.out))
                have hfv : Hid (((Tab.spares (T.repl x) : Nat) : Int) - ((Tab.used (T.repl x) : Nat) : Int) = fr - 1) := Lib.hid (by rw [HFV.out]; show (T.spares : Int) - ((T.used + 1 : Nat) : Int) = _; omega)
                rw [hfv.out] at HF9
                have hfr : 0 ≤ fr ∧ fr ≤ 64 := by have := HFV.out; have := HT2.out.ok.sp; have := HT2.out.ok.us; omega
                obtain ⟨hf1, hf2⟩ := hfr
                clear hB
                go_wp2_with fail
                refine HF9.out.mono ?_
                rintro e w9 ⟨rfl, q9, rfl⟩
                go_wp2_with fail
                go_roundw
                case rel => exact ⟨k + 1, by omega, by go_num, by rw [HX.out]; exact HT8.out.below (Below.drewN HBi.out q9), Below.drewN (HB8.out.trans (HBi.out.mono HB8.out.size)) q9⟩
                case measure => simp [intOf]; omega


    · obtain rfl : k = l2.length := by omega
      go_wp2_with fail
      go_ret
      exact ⟨rfl, HB3.out⟩
theorem moves_law (w : World) (b : Int) (hb : (Lit.int .i64 b).wf = true) (s : Int) (hs : (Lit.int .i64 s).wf = true) (v1 : Value) (l1 : List Int) (h1 : CameI w v1 l1) (v2 : Value) (l2 : List Int) (h2 : CameI w v2 l2) :
    Calls Try.prog 5 #[.int .i64 b, .int .i64 s, v1, v2] w fun e w' => e = .returned (.bool true) ∧ Below w.heap.size w w' := by
  by_cases hno : 40 < b ∨ 20 < l1.length ∨ 80 < l2.length
  · exact moves_skip w b s (in64_of hb) (in64_of hs) v1 l1 h1 v2 l2 h2 hno
  · by_cases hsh : shp b s l1
    · exact moves_main w b s (in64_of hb) (in64_of hs) v1 l1 (h1.1 (by omega)) v2 l2 (h2.1 (by omega)) (by omega) (by omega) (by omega) hsh
    · exact moves_bad w b s (in64_of hb) (in64_of hs) v1 l1 (h1.1 (by omega)) v2 l2 (h2.1 (by omega)) (by omega) (by omega) (by omega) hsh
end Go.Proofs.Ytjnedcncfdpjoaa.D13
