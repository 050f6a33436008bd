/- Chapter 12: MediumScratches. -/
import Derived.Test.YtpncjadhpnapnaaGk
namespace Go.Proofs.Ytpncjadhpnapnaa.D12
open Go.RowKit Go.Maps C9
open D13 (RdI ixI is)
set_option linter.unusedVariables false

/-- all erased offsets, up to the sector 'i' and 'j' of its own -/
theorem all_step (M : Med) (i j : Nat) (hj : j < (M.gone i).length) : M.all i ++ ((M.gone i).take (j + 1)).map (fun x => 2352 * (i : Int) + x) = (M.all i ++ ((M.gone i).take j).map (fun x => 2352 * (i : Int) + x)) ++ [2352 * (i : Int) + ixI (M.gone i) j] := by
  rw [List.append_assoc, List.take_succ_eq_append_getElem hj, ← D13.ixI_get hj, List.map_append]
  rfl
theorem all_len (M : Med) : ∀ i, (M.all i).length ≤ 2352 * i
  | 0 => by simp [Med.all]
  | i + 1 => by
    have h1 := all_len M i
    have h2 : (M.gone i).length ≤ 2352 := by
      unfold Med.gone
      rw [List.length_map]
      exact Nat.le_trans (List.length_filter_le _ _) (by simp)
    simp only [Med.all, List.length_append, List.length_map]
    omega
theorem gone_len (M : Med) (i : Nat) : (M.gone i).length ≤ 2352 := by
  unfold Med.gone
  rw [List.length_map]
  exact Nat.le_trans (List.length_filter_le _ _) (by simp)
set_option maxRecDepth 100000 in
set_option maxHeartbeats 8000000 in
theorem scratches12_law (w : World) (a : Int) (ha : (Lit.int .u8 a).wf = true) (v1 : Value) (l : List Sc) (hl : CameSc w v1 l) :
    Calls Try.prog 3 #[.int .u8 a, v1] w fun e w' => e = .returned (.bool true) ∧ Below w.heap.size w w' := by
  obtain ⟨ha0, ha1⟩ := u8_wf ha
  clear ha
  obtain ⟨x, rfl⟩ : ∃ x : Nat, a = x := ⟨a.toNat, by omega⟩
  obtain ⟨al, cl, rfl, _⟩ := RdD.form hl.1
  have HL := Lib.hid hl
  have HLL := Lib.hid hl.2.2
  have hl63 := hl.2.2
  clear hl
  have HAW := Lib.hid (awake12 w)
  obtain ⟨n, hn⟩ : ∃ n : Nat, n = 1 + x % 4 := ⟨_, rfl⟩
  have hn1 : (1 : Int) + (x : Int) % 4 = (n : Int) := by omega
  have hnb : 1 ≤ n ∧ n ≤ 4 := by omega
  have HNEW := Lib.hid (fun W => new12 1 (n : Nat) 1 (by unfold newOk; omega) W)
  rw [show (1 : Int).toNat = 1 from rfl, Int.toNat_natCast] at HNEW
  have HREP := Lib.hid (fun W => repeat12 120 2352 (by omega) W)
  obtain ⟨rx, hrx⟩ : ∃ rx : List UInt8, rx = List.replicate 2352 120 := ⟨_, rfl⟩
  have HRX : Hid (rx.length = 2352) := Lib.hid (by rw [hrx]; exact List.length_replicate)
  change Hid (∀ W, Calls Try.prog 9 #[.string ⟨#[120]⟩, .int .i64 2352] W fun e w' => e = .returned (.string (str (List.replicate 2352 120))) ∧ Below W.heap.size W w') at HREP
  rw [← hrx] at HREP
  clear hn hrx
  go_enter Try.func3, Try.ntmps3
  go_wp2_with fail
  refine HAW.out.mono ?_
  rintro e w1 ⟨rfl, hb1⟩
  have HB1 := Lib.hid hb1
  clear hb1
  by_cases h8 : 8 < l.length
  · have hq : decide (8 < (l.length : Int)) = true := decide_eq_true (by omega)
    go_wp2_with fail
    go_ret
    exact ⟨rfl, HB1.out⟩
  have hq : decide (8 < (l.length : Int)) = false := decide_eq_false (by omega)
  have hl8 : l.length ≤ 8 := by omega
  clear h8
  go_wp2_with fail
  refine (HREP.out _).mono ?_
  rintro e w2 ⟨rfl, hb2⟩
  have HB2 := Lib.hid (HB1.out.trans (hb2.mono HB1.out.size))
  clear hb2
  go_wp2_with fail
  refine (HNEW.out _).mono ?_
  rintro e w3 hw
  obtain ⟨g, X3, R3, rfl, hm3, hb3, hx3⟩ := hw
  have H3 : Hid (Have w w3 g (sM n 0 rx []) X3 R3) := Lib.hid ⟨by rw [← sM_zero]; exact hm3, HB2.out.trans (hb3.mono HB2.out.size), fun b hb => Nat.le_trans HB2.out.size (hx3 b hb)⟩
  clear hm3 hb3 hx3
  go_wp2_with fail
  refine (HNEW.out _).mono ?_
  rintro e w4 hw
  obtain ⟨h, Y4, Q4, rfl, h4⟩ := Have2.two H3.out hw
  rw [sM_zero n rx] at h4
  have H4 := Lib.hid h4
  clear h4 hw hn1
  go_wp2_with fail
  go_loopw [61] (fun vk wr => ∃ i X R Y Q, i ≤ n ∧ vk = .int .i64 (i : Nat) ∧ Have2 w wr g h (sM n i rx []) (sM n i rx []) X R Y Q w4 (fun _ => False)) (fun vk _ => n - (RowKit.intOf vk).toNat)
  case atStart => exact ⟨0, X3, R3, Y4, Q4, by omega, rfl, H4.out⟩
  case round =>
    obtain ⟨i, X, R, Y, Q, hi, rfl, hh⟩ := hrel
    have HH := Lib.hid hh
    have HOK := Lib.hid (fun i => sM_ok (n := n) (j := i) (rx := rx) (scr := []) hnb HRX.out (by simp) (by simp [fitA]))
    clear hh
    by_cases hlt : i < n
    · go_wp2_with fail
      refine (record12 HH.out.a.m (HOK.out i) (by omega) i rx (by rw [HRX.out]; omega)).mono ?_
      rintro e w5 hw
      rw [sM_record HRX.out hlt] at hw
      obtain ⟨rfl, X5, R5, h5⟩ := HH.out.step hw
      have H5 := Lib.hid h5
      clear h5 hw
      go_wp2_with fail
      refine (record12 H5.out.b.m (HOK.out i) (by omega) i rx (by rw [HRX.out]; omega)).mono ?_
      rintro e w6 hw
      rw [sM_record HRX.out hlt] at hw
      obtain ⟨rfl, Y6, Q6, h6⟩ := H5.out.step2 hw
      have H6 := Lib.hid h6
      clear h6 hw
      go_wp2_with fail
      go_roundw
      case rel => exact ⟨i + 1, X5, R5, Y6, Q6, by omega, by go_num, H6.out⟩
      case measure => simp [RowKit.intOf]; omega
    · obtain rfl : i = n := by omega
      go_wp2_with fail
      refine (plost_any _ _ l _ (HL.out.keep HH.out.a.b)).mono ?_
      rintro e w5 ⟨vL, rfl, hoL, hb5⟩
      have H5 := Lib.hid (HH.out.fix hb5)
      obtain ⟨aL, cL, rfl⟩ := ownD_form hoL
      have HOL := Lib.hid hoL
      have HL5 := Lib.hid (HL.out.keep H5.out.a.b)
      clear hoL hb5
      go_wp2_with fail
      refine (scratch12 H5.out.a.m (HOK.out i) _ l HL5.out (by omega)).mono ?_
      rintro e w6 hw
      by_cases hf : fitA (98 * i + 108) l = false
      · rw [sM_scratch_bad hf] at hw
        obtain ⟨rfl, X6, R6, h6⟩ := H5.out.step hw
        have H6 := Lib.hid h6
        have hLR : lostR (98 * (i : Int)) l = ([], 1) := by
          unfold lostR
          have e : (98 * (i : Int)).toNat = 98 * i := by omega
          rw [if_neg (by omega), e, if_pos hf]
        rw [hLR]
        clear h6 hw hLR
        go_wp2_with fail
        refine (clean12 H6.out.a.m (HOK.out i) 0).mono ?_
        rw [sM_clean hnb.1]
        rintro e w7 ⟨rfl, hb7⟩
        have HF := Lib.hid (H6.out.a.below hb7).b
        clear hb7
        go_wp2_with fail
        go_ret
        exact ⟨rfl, HF.out⟩
      have hft : fitA (98 * i + 108) l = true := by simpa using hf
      have HFT := Lib.hid hft
      rw [sM_scratch hft (by simp; omega), List.nil_append] at hw
      obtain ⟨rfl, X6, R6, h6⟩ := H5.out.step hw
      have H6 := Lib.hid h6
      have hLR : lostR (98 * (i : Int)) l = (lostL i l, 0) := lostR_all (by omega) (by omega) hft
      rw [hLR] at HOL
      rw [hLR]
      clear h6 hw hLR hf hft
      obtain ⟨wo, rfl⟩ : ∃ wo : World, wo = wr := ⟨_, rfl⟩
      have HOKL := Lib.hid (fun k => sM_ok (n := i) (j := i) (rx := rx) (scr := l.take k) hnb HRX.out (by rw [List.length_take]; omega) (by
        have h1 := HFT.out
        rw [← List.take_append_drop k l, fitA_append, Bool.and_eq_true] at h1
        exact h1.1))
      obtain ⟨Zp, hZp⟩ : ∃ Zp : Nat → Prop, Zp = fun k => wo.heap.size ≤ k ∧ k < w5.heap.size := ⟨_, rfl⟩
      rw [← hZp] at H6
      have HZP := Lib.hid hZp
      clear hZp HH H5 HOK hlt hi
      go_wp2_with fail
      go_loopw [96] (fun vk wr => ∃ k Y Q, k ≤ l.length ∧ vk = .int .i64 (k : Nat) ∧ Have2 w wr g h (sM i i rx l) (sM i i rx (l.take k)) X6 R6 Y Q w5 Zp) (fun vk _ => l.length - (RowKit.intOf vk).toNat)
      case atStart => exact ⟨0, Y, Q, by omega, rfl, by rw [List.take_zero]; exact H6.out⟩
      case round =>
        obtain ⟨k, Y7, Q7, hk, rfl, hh⟩ := hrel
        have HH := Lib.hid hh
        clear hh
        by_cases hlt : k < l.length
        · obtain ⟨bl, off, hcell⟩ := RdD.at (HL.out.keep HH.out.a.b).1
          obtain ⟨hva, hrange⟩ := hcell k hlt
          change wr.rangeAt bl (off + k * 2) (scc (scA l k)) at hrange
          obtain ⟨hc0, hc1⟩ := rd2 hrange
          have hix := fun w' => run_idxS Try.underlying22 Try.sizeSc (cap := cl) (n := l.length) (k := k) (b := bl) (off := off) hva hlt _ rfl w'
          have HTK : Hid (l.take (k + 1) = l.take k ++ [scA l k]) := Lib.hid (take_snocS hlt)
          have HWF := Lib.hid (HL.out.2.1 k hlt)
          have HFX := Lib.hid (fitA_at HFT.out hlt)
          generalize scA l k = s at *
          obtain ⟨sf, sc⟩ := s
          simp only at hc0 hc1
          have hA := (Below.refl wr.heap.size wr).alloc (Nat.le_refl _) (.cells #[.int .i64 sf, .int .i64 sc] 36)
          have hA2 := (Below.refl (wr.alloc (.cells #[.int .i64 sf, .int .i64 sc] 36)).heap.size (wr.alloc (.cells #[.int .i64 sf, .int .i64 sc] 36))).alloc (Nat.le_refl _) (.cells #[.int .i64 sf, .int .i64 sc] 36)
          have HA := Lib.hid (HH.out.below (hA.trans (hA2.mono hA.size)))
          have HX := Lib.hid (Bx.new (wr.alloc (.cells #[.int .i64 sf, .int .i64 sc] 36)) 36 (scc ⟨sf, sc⟩))
          have hsz : (wr.alloc (.cells #[.int .i64 sf, .int .i64 sc] 36)).heap.size = wr.heap.size + 1 := by simp
          have HSZ := Lib.hid hsz
          clear hcell hrange hva hA hA2 hsz
          go_wp2_with fail
          have hcm := cameSc_one ⟨sf, sc⟩ HWF.out HX.out
          rw [HSZ.out] at hcm
          refine (scratch12 HA.out.b.m (HOKL.out k) _ [⟨sf, sc⟩] hcm (by simp)).mono ?_
          rintro e w8 hw
          rw [sM_scratch (by unfold fitA; simp only [List.all_cons, List.all_nil, Bool.and_true]; exact HFX.out) (by rw [List.length_take]; simp only [List.length_singleton]; omega), ← HTK.out] at hw
          obtain ⟨rfl, Y8, Q8, h8⟩ := HA.out.step2 hw
          have H8 := Lib.hid h8
          clear h8 hw hcm
          go_wp2_with fail
          go_roundw
          case rel => exact ⟨k + 1, Y8, Q8, by omega, by go_num, H8.out⟩
          case measure => simp [RowKit.intOf]; omega
        · obtain rfl : k = l.length := by omega
          have HS : Hid (Have2 w wr g h (sM i i rx l) (sM i i rx l) X6 R6 Y7 Q7 w5 Zp) := Lib.hid (by have := HH.out; rwa [List.take_length] at this)
          have HOKS := Lib.hid (HOKL.out l.length)
          rw [List.take_length] at HOKS
          obtain ⟨wS, rfl⟩ : ∃ wS : World, wS = wr := ⟨_, rfl⟩
          obtain ⟨M, hM⟩ : ∃ M, M = sM i i rx l := ⟨_, rfl⟩
          rw [← hM] at HS HOKS
          have HM := Lib.hid hM
          clear HH H6 HOKL hlt hk hM hq
          go_wp2_with fail
          go_loopw [107, 16] (fun vk va wr => ∃ t : Nat, t ≤ i ∧ vk = .int .i64 t ∧ wr.ownsRow wS.heap.size 3 1 va (M.all t).length (is (M.all t)) ∧ Below wS.heap.size wS wr) (fun vk _ _ => i - (RowKit.intOf vk).toNat)
          case atStart => exact ⟨0, by omega, rfl, ⟨rfl, .inl ⟨rfl, rfl⟩⟩, Below.refl _ _⟩
          case round =>
            obtain ⟨t, ht, rfl, ho, hb⟩ := hrel
            have HO := Lib.hid ho
            have HB := Lib.hid hb
            obtain ⟨wi, rfl⟩ : ∃ wi : World, wi = wr := ⟨_, rfl⟩
            clear ho hb
            by_cases hlt : t < i
            · have hrd : M.readR (t : Nat) = (M.out t, M.gone t, 0) := by rw [HM.out]; exact sM_read hlt
              have HRD := Lib.hid hrd
              clear hrd
              go_wp2_with fail
              refine (read12 (HS.out.below HB.out).a.m HOKS.out t).mono ?_
              rw [HRD.out]
              rintro e w8 ⟨v8, rfl, ho8, hb8⟩
              obtain ⟨a8, c8, rfl⟩ := ownD_form ho8
              have HB8 := Lib.hid (HB.out.trans (hb8.mono HB.out.size))
              have HO8 := Lib.hid ho8
              have HA8 := Lib.hid (ownD_keep HO.out hb8)
              have HSZ8 := Lib.hid hb8.size
              clear ho8 hb8
              simp only
              go_wp2_with fail
              refine (read12 (HS.out.below HB8.out).b.m HOKS.out t).mono ?_
              rw [HRD.out]
              rintro e w9 ⟨v9, rfl, ho9, hb9⟩
              obtain ⟨a9, c9, rfl⟩ := ownD_form ho9
              have HB9 := Lib.hid (HB8.out.trans (hb9.mono HB8.out.size))
              have hg64 : ∀ x ∈ M.gone t, -9223372036854775808 ≤ x ∧ x ≤ 9223372036854775807 := fun x hx => by have := gone_bd M t x hx; omega
              have hgl := gone_len M t
              have HEQ := Lib.hid (equal12 (D13.rdI_own (ownD_keep HO8.out hb9) rfl (by show (M.gone t).length ≤ _; omega) hg64) (D13.rdI_own ho9 rfl (by show (M.gone t).length ≤ _; omega) hg64))
              rw [decide_eq_true rfl] at HEQ
              have HO9 := Lib.hid (ownD_keep HO8.out hb9)
              have HA9 := Lib.hid (ownD_keep HA8.out hb9)
              have HOFF : Hid (Ap.Off u16 fun q => (Value.slice a8 (M.gone t).length c8).ownBlock = some q) := Lib.hid fun q h1 h2 => by
                have h3 := (HO.out.lt q h1).2
                have h4 := (HO8.out.lt q h2).1
                omega
              have hss : (str (M.out t)).size = 2352 := by rw [str_size, out_length]
              have HIX := Lib.hid (fun (k : Nat) (hk : k < 2352) (w' : World) => run_sidx12 (P := Try.prog) Try.underlying9 (M.out t) k (by rw [out_length]; exact hk) k rfl w')
              obtain ⟨so, hso⟩ : ∃ so, so = str (M.out t) := ⟨_, rfl⟩
              rw [← hso] at hss HIX
              simp only
              rw [← hso]
              clear ho9 hb9 hg64 hso
              go_wp2_with fail
              refine HEQ.out.mono ?_
              rintro e w10 ⟨rfl, hb10⟩
              have HB10 := Lib.hid (HB9.out.trans (hb10.mono HB9.out.size))
              have HO10 := Lib.hid (ownD_keep HO9.out hb10)
              have HA10 := Lib.hid (ownD_keep HA9.out hb10)
              clear hb10 HEQ
              go_wp2_with fail
              go_loopw [148, 16] (fun vk va wr => ∃ j : Nat, j ≤ (M.gone t).length ∧ vk = .int .i64 j ∧ wr.ownsRow wS.heap.size 3 1 va ((M.all t).length + j) (is (M.all t ++ ((M.gone t).take j).map (fun x => 2352 * (t : Int) + x))) ∧
                Ap.Off va (fun q => (Value.slice a8 (M.gone t).length c8).ownBlock = some q) ∧ wr.ownsRow wi.heap.size 3 1 (.slice a8 (M.gone t).length c8) (M.gone t).length (is (M.gone t)) ∧ Below wS.heap.size wS wr) (fun vk _ _ => (M.gone t).length - (RowKit.intOf vk).toNat)
              case atStart => exact ⟨0, by omega, rfl, by rw [List.take_zero, List.map_nil, List.append_nil]; exact HA10.out, HOFF.out, HO10.out, HB10.out⟩
              case round =>
                obtain ⟨j, hj, rfl, ha, hoff, hx, hb⟩ := hrel
                have HAJ := Lib.hid ha
                have HFJ := Lib.hid hoff
                have HXJ := Lib.hid hx
                have HBJ := Lib.hid hb
                obtain ⟨wj, rfl⟩ : ∃ wj : World, wj = wr := ⟨_, rfl⟩
                clear ha hoff hb
                by_cases hjt : j < (M.gone t).length
                · obtain ⟨ga, ca, hva, hga1, hga2⟩ := ownD_addr hx (by omega)
                  simp only [Value.slice.injEq] at hva
                  obtain ⟨hva, hva2, hva3⟩ := hva
                  clear hva2 hva3
                  have hcl : wj.cell? ⟨ga, j, none⟩ = some (.int .i64 (ixI (M.gone t) j)) := by
                    rw [hva] at hx
                    have := hx.cells (g := ga) rfl j _ (D13.is_get hjt)
                    rwa [Addr.add_lit, Nat.zero_add] at this
                  have hix := fun w' => run_idxS Try.underlying30 Try.sizeInt9 (cap := c8) (n := (M.gone t).length) (k := j) (b := ga) (off := 0) hva hjt _ rfl w'
                  simp only [Nat.mul_one, Nat.zero_add] at hix
                  obtain ⟨hy0, hy1, hy2⟩ := out_gone (D13.ixI_mem (l := M.gone t) hjt)
                  have HST := Lib.hid (all_step M t j hjt)
                  generalize ixI (M.gone t) j = y at *
                  obtain ⟨z, rfl⟩ : ∃ z : Nat, y = z := ⟨y.toNat, by omega⟩
                  rw [Int.toNat_natCast] at hy2
                  have hsi := HIX.out z (by omega)
                  rw [hy2] at hsi
                  simp only [show (B 0 : Value) = Value.int .u8 0 from rfl] at hsi
                  have HVA := Lib.hid hva
                  have hal := (Below.refl wj.heap.size wj).alloc (Nat.le_refl _) (.cells #[.int .i64 (2352 * (t : Int) + z)] 3)
                  have ha6 := ownD_keep HAJ.out hal
                  have hx6 := ownD_keep HXJ.out hal
                  have HX6 := Lib.hid hx6
                  have hc6 : (wj.alloc (.cells #[.int .i64 (2352 * (t : Int) + z)] 3)).cell? ⟨wj.heap.size, 0, none⟩ = some (.int .i64 (2352 * (t : Int) + z)) := (Bx.new wj 3 [.int .i64 (2352 * (t : Int) + z)]).cell (i := 0) rfl
                  have HB6 := Lib.hid (HBJ.out.trans (hal.mono HBJ.out.size))
                  have hb6s := HB6.out.size
                  have HALL := Lib.hid (all_len M t)
                  clear hx hal hx6 hva hga1 hga2
                  go_wp2_with (at_builtin; refine Ap.wpList_ap1 rfl _ _ rfl Try.underlying30 Try.infoInt9 rfl ha6 rfl rfl hc6 rfl (by have := HALL.out; unfold maxLen; omega) (by have := HALL.out; omega) hb6s ?_; intro v7 w7 hown7 hgr7 hnew7)
                  have hstp : is (M.all t ++ ((M.gone t).take j).map (fun x => 2352 * (t : Int) + x)) ++ [Value.int .i64 (2352 * (t : Int) + z)] = is (M.all t ++ ((M.gone t).take (j + 1)).map (fun x => 2352 * (t : Int) + x)) := by
                    rw [HST.out, D13.is_append (M.all t ++ _)]
                    rfl
                  rw [hstp] at hown7
                  have HX7 := Lib.hid (Ap.own_off HX6.out hgr7 (fun k hk hu => HFJ.out k hu hk))
                  have HF7 := Lib.hid (Ap.Off.step HFJ.out hnew7 (fun k hk h2 => by have := (HX6.out.lt k h2).2; omega))
                  have HB7 := Lib.hid (HB6.out.grown hgr7 hb6s (ownD_block ha6))
                  clear hgr7 hnew7 hstp
                  go_roundw
                  case rel => exact ⟨j + 1, by omega, by go_num, hown7, HF7.out, HX7.out, HB7.out⟩
                  case measure => simp [RowKit.intOf]; omega
                · obtain rfl : j = (M.gone t).length := by omega
                  have HAE : Hid (wj.ownsRow wS.heap.size 3 1 u16 (M.all (t + 1)).length (is (M.all (t + 1)))) := Lib.hid (by
                    have := HAJ.out
                    rw [List.take_length] at this
                    have e : (M.all (t + 1)).length = (M.all t).length + (M.gone t).length := by simp [Med.all]
                    rw [e]
                    exact this)
                  clear hx
                  go_wp2_with fail
                  go_roundw
                  case rel => exact ⟨t + 1, by omega, by go_num, HAE.out, HBJ.out⟩
                  case measure => simp [RowKit.intOf]; omega
            · obtain rfl : t = i := by omega
              have hbd : ∀ x ∈ M.all t, -9223372036854775808 ≤ x ∧ x ≤ 9223372036854775807 := fun x hx => by have := all_bd M t x hx; omega
              have hal := all_len M t
              have hr1 : RdI wi u16 (M.all t) := D13.rdI_own HO.out rfl (by omega) hbd
              have e : M.all t = lostL t l := by rw [HM.out]; exact sM_all t rx l
              have ho5 : wi.ownsRow wo.heap.size 3 1 (.slice aL (lostL t l).length cL) (lostL t l).length (is (lostL t l)) := own_moved HOL.out fun k h1 h2 => by
                have hz := HS.out.z k (by rw [HZP.out]; exact ⟨h1, h2⟩)
                exact (HB.out.block k hz.1).trans hz.2
              rw [e] at hr1 hal hbd
              have hr2 := D13.rdI_own ho5 rfl (by omega) hbd
              have HEQ := Lib.hid (equal12 hr1 hr2)
              rw [decide_eq_true rfl] at HEQ
              have HF := Lib.hid (HS.out.a.b.trans (HB.out.mono HS.out.a.b.size))
              clear hbd hal hr1 e ho5 hr2
              go_wp2_with fail
              refine HEQ.out.mono ?_
              rintro e w8 ⟨rfl, hb8⟩
              have HF8 := Lib.hid (HF.out.trans (hb8.mono HF.out.size))
              clear hb8
              go_wp2_with fail
              go_ret
              exact ⟨rfl, HF8.out⟩
end Go.Proofs.Ytpncjadhpnapnaa.D12
