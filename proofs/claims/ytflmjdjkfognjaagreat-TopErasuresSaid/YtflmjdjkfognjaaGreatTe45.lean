/- Parts: XJk -/
import Derived.Test.YtflmjdjkfognjaaGreatTe44
namespace Go.Proofs.YtflmjdjkfognjaaGreat.T7
open Go Go.RowKit C9 D12
set_option linter.unusedVariables false
theorem er_in {w : World} {vE : Value} {l : List Int} (h : RdI w vE l) : ∀ x ∈ l, -9223372036854775808 ≤ x ∧ x ≤ 9223372036854775807 := fun x hx => by
  obtain ⟨i, hi, rfl⟩ := List.getElem_of_mem hx
  have := h.2.2 i hi
  rwa [W8.ixI_get hi] at this
set_option maxRecDepth 100000 in
set_option maxHeartbeats 8000000 in
theorem erasures_ok (w : World) (v1 : Value) (L : List (List UInt8)) (hL : CameStr w v1 L) (v2 : Value) (D : List DV) (hD : CameDams w v2 D) (h1 : 1 ≤ L.length) (h2 : L.length ≤ 3) (h3 : D.length ≤ 3) (hl : ∀ i, i < L.length → (atD [] L i).length = 2048) :
    Calls Tryz.prog 4 #[v1, v2] w fun e w' => e = .returned (.bool true) ∧ Below w.heap.size w w' := by
  have HC := Lib.hid (coded_any w)
  have HP := Lib.hid (fun W (hW : Below w.heap.size w W) => dpress7 v1 L W (RdD.keep hL.1 hW) h1 (by omega) hl)
  have HL := Lib.hid hl
  have HRL := Lib.hid hL.1
  obtain ⟨a1, c1, rfl, _⟩ := RdD.form hL.1
  obtain ⟨a2, c2, rfl, _⟩ := RdD.form hD.1
  obtain ⟨bd, od, kd⟩ := RdD.at hD.1
  have HKD := Lib.hid kd
  have HCD := Lib.hid hD.2.2
  obtain ⟨n1, hn1⟩ : ∃ n, n = L.length := ⟨_, rfl⟩
  obtain ⟨n2, hn2⟩ : ∃ n, n = D.length := ⟨_, rfl⟩
  have HN1 := Lib.hid hn1
  have HN2 := Lib.hid hn2
  rw [← hn1] at h1 h2
  rw [← hn2] at h3
  have d0 : ((n1 : Int) == 0) = false := beq_eq_false_iff_ne.2 (by omega)
  have d1 : decide (3 < (n1 : Int)) = false := decide_eq_false (by omega)
  have d2 : decide (3 < (n2 : Int)) = false := decide_eq_false (by omega)
  have hmm := @run_makeMap Tryz.prog
  rw [← hn1] at HP HRL ⊢
  rw [← hn2]
  clear hL hD hl kd hn1 hn2
  go_enter Tryz.func4, Tryz.ntmps4
  go_wp2_with fail
  refine HC.out.mono ?_
  rintro e w1 ⟨rfl, hb1⟩
  have HB1 := Lib.hid hb1
  have HP1 := Lib.hid (HP.out w1 hb1)
  clear hb1
  go_wp2_with fail
  refine HP1.out.mono ?_
  rintro e w2 ⟨p, pm, X, R, rfl, hq⟩
  obtain ⟨⟨vt, hbox⟩, hmed, hnew, hp, hb2⟩ := hq
  have hset := SetI.made w2
  have hal := (Below.refl w2.heap.size w2).alloc (Nat.le_refl _) (.map #[] 0)
  have HI0 : Hid (ErI L w p pm w2.heap.size vt 0 0 (fun _ => false) (medPress (recs L L.length)) X R (w2.alloc (.map #[] 0))) := Lib.hid (by
    obtain ⟨Ly, hmed⟩ := hmed
    refine ⟨hset, Nat.le_refl _, hbox.call hal, MedW.below ⟨Ly, hmed⟩ hal, PrM.start (by rw [← HN1.out]; exact h1) (by rw [← HN1.out]; omega), fun b hb => ?_, Nat.ne_of_lt hbox.lt, Nat.le_trans HB1.out.size hp, Nat.le_trans HB1.out.size hb2.size, HB1.out.trans ((hb2.trans (hal.mono hb2.size)).mono HB1.out.size)⟩
    have := hmed.lt b hb
    obtain ⟨h5, h6⟩ := hnew b hb
    have := HB1.out.size
    exact ⟨by omega, h6, by omega⟩)
  clear hbox hmed hnew hp hb2 hset hal HP1
  obtain ⟨mb, hmb⟩ : ∃ mb, mb = w2.heap.size := ⟨_, rfl⟩
  rw [← hmb] at HI0
  have HMB := Lib.hid hmb
  clear hmb
  go_wp2_with fail
  rw [← HMB.out]
  go_loopw [41] (fun vi wr => ∃ k : Nat, k ≤ n2 ∧ vi = .int .i64 k ∧ ∃ m S M X R, ErI L w p pm mb vt k m S M X R wr) (fun vi _ => n2 - (RowKit.intOf vi).toNat)
  case atStart => exact ⟨0, by omega, rfl, 0, _, _, X, R, HI0.out⟩
  case round =>
    clear X R HI0
    obtain ⟨k, hk, rfl, m, S, M, X, R, hI⟩ := hrel
    have HMS : Hid (w.heap.size ≤ wr.heap.size) := Lib.hid hI.bl.size
    by_cases hlt : k < n2
    · have hkD : k < D.length := by rw [← HN2.out]; exact hlt
      obtain ⟨ha, hrange⟩ := HKD.out k hkD
      have hcd := HCD.out k hkD
      obtain ⟨⟨d, vE, vC⟩, hx⟩ : ∃ x, x = atD dvz D k := ⟨_, rfl⟩
      rw [← hx] at hrange hcd
      have hcd : CameD w vE vC d := hcd
      have hix := fun w' => run_idxS Tryz.underlying48 (by kernel_rfl : (Tryz.prog.info? 56).map (·.size) = some 3) (cap := c2) (n := n2) ha hlt (k : Int) rfl w'
      have hlb : In64 d.lba := hcd.lba
      obtain ⟨ce, he, hvE⟩ : ∃ a c, vE = .slice a d.er.length c := by
        obtain ⟨a, c, e, _⟩ := RdS.form hcd.er.1
        exact ⟨a, c, e⟩
      subst hvE
      obtain ⟨cc, hcc, hvC⟩ : ∃ a c, vC = .slice a d.ch.length c := by
        obtain ⟨a, c, e, _⟩ := RdD.form hcd.ch.1
        exact ⟨a, c, e⟩
      subst hvC
      have hc0 : wr.cell? ⟨bd, od + k * 3, none⟩ = some (.int .i64 d.lba) := by
        have := hrange 0 _ rfl
        exact (hI.bl.cell (p := ⟨bd, od + k * 3 + 0, none⟩) (World.block_lt_of_cell? w _ this)).trans this
      have hc1 : wr.cell? ⟨bd, od + k * 3 + 1, none⟩ = some (.slice ce d.er.length he) := by
        have := hrange 1 _ rfl
        exact (hI.bl.cell (p := ⟨bd, od + k * 3 + 1, none⟩) (World.block_lt_of_cell? w _ this)).trans this
      have hc2 : wr.cell? ⟨bd, od + k * 3 + 2, none⟩ = some (.slice cc d.ch.length hcc) := by
        have := hrange 2 _ rfl
        exact (hI.bl.cell (p := ⟨bd, od + k * 3 + 2, none⟩) (World.block_lt_of_cell? w _ this)).trans this
      have hel := hcd.er.2.1
      obtain ⟨wx, hwx⟩ : ∃ wx, wx = wr.alloc (.cells #[.int .i64 d.lba, .slice ce d.er.length he, .slice cc d.ch.length hcc] 56) := ⟨_, rfl⟩
      obtain ⟨bx, hbx⟩ : ∃ b, b = wr.heap.size := ⟨_, rfl⟩
      have hal := (Below.refl wr.heap.size wr).alloc (Nat.le_refl _) (.cells #[.int .i64 d.lba, .slice ce d.er.length he, .slice cc d.ch.length hcc] 56)
      rw [← hwx] at hal
      have hI1 := hI.below hal
      have hxb : Bx wx bx 56 [.int .i64 d.lba, .slice ce d.er.length he, .slice cc d.ch.length hcc] := by rw [hwx, hbx]; exact Bx.new wr _ _
      have hlook := hI1.set.run d.lba hlb.1 hlb.2
      have HI1 := Lib.hid hI1
      have HXB := Lib.hid hxb
      have HBXE := Lib.hid hbx
      have HBX : Hid (bx < wx.heap.size ∧ bx ≠ p ∧ bx ≠ mb ∧ ∀ b, X b ∨ R b → b ≠ bx) := Lib.hid (by
        obtain ⟨Ly, hmed⟩ := hI.med
        have h7 := hI.box.lt
        have h8 := hI.set.lt
        exact ⟨hxb.lt, by omega, by omega, fun b hb e => by have := hmed.lt b hb; omega⟩)
      have HWX : Hid (wr.alloc (.cells #[.int .i64 d.lba, .slice ce d.er.length he, .slice cc d.ch.length hcc] 56) = wx) := Lib.hid hwx.symm
      have HCDD := Lib.hid hcd
      have HA := Lib.hid ha
      have HLB := Lib.hid hlb
      have x0 := hxb.cell (i := 0) rfl
      have x1 := hxb.cell (i := 1) rfl
      obtain ⟨q, hq⟩ : ∃ q, q = S d.lba := ⟨_, rfl⟩
      rw [← hq] at hlook
      have HQ := Lib.hid hq
      clear hI hI1 hxb hbx hwx hcd hx hrange hal ha hq hlb
      go_upto_region 12 with (fail)
      rw [HWX.out, ← HBXE.out]
      cases q
      · by_cases h400 : d.er.length ≤ 400
        · have hd4 : decide (400 < (d.er.length : Int)) = false := decide_eq_false (by omega)
          clear hc0 hc1 hc2
          have hset := HI1.out.set
          have hm10 : m < 1000000 := by have := HI1.out.le; omega
          go_upto_region 14 with (first
            | (at_mapUpdate
               refine wpList_setI rfl _ _ _ rfl hset rfl rfl rfl HLB.out.1 HLB.out.2 hm10 ?_
               intro w5 hset5 hgr5)
            | fail)
          have HI5 := Lib.hid (HI1.out.grown hset5 hgr5 (HI1.out.pr.set d.lba) (by have := HI1.out.le; omega))
          have HP5 : Hid (PrM L M S) := Lib.hid HI1.out.pr
          have HX5 : Hid (Bx w5 bx 56 [.int .i64 d.lba, .slice ce d.er.length he, .slice cc d.ch.length hcc]) := Lib.hid ((hgr5.block bx HBX.out.1 (fun e => HBX.out.2.2.1 (Option.some.inj e))).trans HXB.out)
          have HBW : Hid (w.heap.size ≤ bx) := Lib.hid (by
            rw [HBXE.out]
            have h8 := HI1.out.bl.size
            have h9 : wx.heap.size = wr.heap.size + 1 := by rw [← HWX.out, World.size_alloc]
            have h10 := HMS.out
            omega)
          have y1 := HX5.out.cell (i := 1) rfl
          have HRE := Lib.hid (HCDD.out.er.rd (by omega))
          have HIN := Lib.hid (er_in HRE.out)
          have HCLO := Lib.hid (W8.clone8_any _ d.er w5 (HRE.out.keep HI5.out.bl) (by omega))
          clear hset hm10 hset5 hgr5 x0 x1
          go_wp2_with fail
          refine HCLO.out.mono ?_
          rintro e w6 ⟨⟨v6, rfl, hv6⟩, hb6⟩
          have HDL := Lib.hid (delC 18 (fun _ _ => by kernel_rfl) (fun x => decide (12 ≤ x)) v6 d.er w5 w6 (by omega) HIN.out hv6 hb6 (fun x W => topE1 x W))
          clear hv6 hb6 y1
          go_wp2_with fail
          refine HDL.out.mono ?_
          rintro e w7 ⟨v7, rfl, hr7, hb7⟩
          have HB7 := Lib.hid hb7
          have HPE := Lib.hid (W8.peel_any 0 v7 (inn d.er) w7 hr7 (Nat.le_trans (inn_sub _).length_le (by omega)))
          clear hr7 hb7
          go_wp2_with fail
          refine HPE.out.mono ?_
          rintro e w8 ⟨(⟨_, rfl⟩ | ⟨_, v8, i8, rfl, hr8, _⟩), hb8⟩
          · have HI8 := Lib.hid (HI5.out.below (HB7.out.trans (hb8.mono HB7.out.size)))
            clear hb8
            go_wp2_with fail
            go_roundw
            case rel => exact ⟨k + 1, by omega, by go_num, m + 1, _, M, X, R, HI8.out⟩
            case measure => simp [RowKit.intOf]; omega
          · have HI8 := Lib.hid (HI5.out.below (HB7.out.trans (hb8.mono HB7.out.size)))
            have HX8 := Lib.hid (HX5.out.call (HB7.out.trans (hb8.mono HB7.out.size)))
            obtain ⟨r, hr⟩ : ∃ r, r = W8.keepL (W8.itP (inn d.er) i8) (inn d.er) := ⟨_, rfl⟩
            rw [← hr] at hr8
            obtain ⟨a8, c8, hv8⟩ : ∃ a c, v8 = .slice a r.length c := by obtain ⟨_, ⟨a, c, b, o, h, _⟩, _⟩ := hr8; exact ⟨a, c, h⟩
            subst hv8
            have HRR := Lib.hid hr
            have hrl := hr8.1
            clear hb8 hr8 hr
            by_cases hre : r = []
            · have hPL : Hid (Peels (inn d.er)) := Lib.hid ⟨i8, by rw [← HRR.out]; exact hre⟩
              subst hre
              have z2 := HX8.out.cell (i := 2) rfl
              have zf := HX8.out.free 2
              obtain ⟨w9, hw9⟩ : ∃ w9, w9 = w8.setCell ⟨bx, 2, none⟩ (.slice none 0 0) := ⟨_, rfl⟩
              have hx9 := HX8.out.set 2 (.slice none 0 0)
              have hI9 := HI8.out.far (HBX.out.2) HBW.out 2 (.slice none 0 0)
              rw [← hw9] at hx9 hI9
              have hx9 : Bx w9 bx 56 [.int .i64 d.lba, .slice ce d.er.length he, .slice none 0 0] := hx9
              have HW9 : Hid (w8.setCell ⟨bx, 2, none⟩ (.slice none 0 0) = w9) := Lib.hid hw9.symm
              have y0 := hx9.cell (i := 0) rfl
              have y1 := hx9.cell (i := 1) rfl
              have y2 := hx9.cell (i := 2) rfl
              have HI9 := Lib.hid hI9
              have HDM := Lib.hid (ddamage7 (n := M.n) (at_ := d.lba) hI9.med hI9.pr.ok (by rw [hI9.pr.n]; exact hI9.box.cell (i := 1) rfl) (hI9.box.cell (i := 2) rfl) (.slice ce d.er.length he) (.slice none 0 0) { d with ch := [] }
                (fun W hW => place_nil ((hI9.box.call hW).cell (i := 3) rfl) d.lba) ⟨HRE.out, RdD.nil w, HLB.out, by simp, fun i hi => by simp at hi⟩ hI9.bl (fun b hb => (hI9.new b (.inl hb)).1) HLB.out)
              have HDR : Hid (dmgR M M.n d.lba { d with ch := [] } = M.damage { d with ch := [] }) := Lib.hid (dmgR_nil M { d with ch := [] })
              rw [HDR.out] at HDM
              have HPD := Lib.hid (HP5.out.dam { d with ch := [] } rfl HQ.out.symm hPL.out)
              unfold damv at HDM
              clear hx9 hI9 hw9
              go_upto_region 18 with (fail)
              rw [HW9.out]
              clear z2 zf
              go_wp2_with fail
              refine HDM.out.mono ?_
              rintro e w10 ⟨rfl, X2, R2, hm10, hc10⟩
              have HI10 := Lib.hid (HI9.out.dam hm10 hc10 HPD.out)
              clear hm10 hc10 y0 y1 y2
              rcases dam_two M { d with ch := [] } with hdt | hdt
              · rw [hdt] at HI10 ⊢
                clear hdt
                dsimp only at HI10 ⊢
                go_wp2_with fail
                go_roundw
                case rel => exact ⟨k + 1, by omega, by go_num, m + 1, _, _, X2, R2, HI10.out⟩
                case measure => simp [RowKit.intOf]; omega
              · rw [hdt]
                clear hdt
                go_wp2_with fail
                go_roundw
                case rel => exact ⟨k + 1, by omega, by go_num, m + 1, _, _, X2, R2, HI10.out⟩
                case measure => simp [RowKit.intOf]; omega
            · have hlr : ¬ r.length = 0 := fun h => hre (List.length_eq_zero_iff.1 h)
              have hdl : decide (0 < (r.length : Int)) = true := decide_eq_true (by omega)
              clear hre
              go_wp2_with fail
              go_roundw
              case rel => exact ⟨k + 1, by omega, by go_num, m + 1, _, M, X, R, HI8.out⟩
              case measure => simp [RowKit.intOf]; omega
        · have hd4 : decide (400 < (d.er.length : Int)) = true := decide_eq_true (by omega)
          clear hc0 hc1 hc2
          go_wp2_with fail
          go_roundw
          case rel => exact ⟨k + 1, by omega, by go_num, m, S, M, X, R, HI1.out.next⟩
          case measure => simp [RowKit.intOf]; omega
      · clear hc0 hc1 hc2
        go_wp2_with fail
        go_roundw
        case rel => exact ⟨k + 1, by omega, by go_num, m, S, M, X, R, HI1.out.next⟩
        case measure => simp [RowKit.intOf]; omega
    · obtain rfl : k = n2 := by omega
      have HIM := Lib.hid (image7 (p := p) (n := n1) (w := wr) (fun i => atD [] L i) (by omega) (by rw [HN1.out]; exact hI.box.cell (i := 1) rfl) (fun i hi W hW =>
        blk_good (hI.med.below hW) hI.pr.ok ((hI.box.call hW).cell (i := 2) rfl) (place_nil ((hI.box.call hW).cell (i := 3) rfl) _) (hI.pr.blk HL.out (by rw [← HN1.out]; omega) (by rw [← HN1.out]; exact hi))))
      have HIL : Hid (imgL (fun i => atD [] L i) n1 = L) := Lib.hid (by
        apply List.ext_getElem
        · rw [imgL_len, HN1.out]
        · intro i g1 g2
          simp [imgL, atD, g2])
      have HBI := Lib.hid hI.bl
      have HSM := Lib.hid (fun va W (hW : Below w.heap.size w W) (ho : RdStr W va L) => strings_same va (.slice a1 n1 c1) L W ho (RdD.keep HRL.out hW) (by rw [← HN1.out]; omega))
      clear hI
      go_wp2_with fail
      refine HIM.out.mono ?_
      rintro e w3 ⟨g, rfl, hg, hb3⟩
      have hb4 := HBI.out.trans (hb3.mono HBI.out.size)
      rw [HIL.out] at hg
      have hrd : RdStr w3 (.slice (some ⟨g, 0, none⟩) n1 n1) L := RdD.ofOwn ssD_len (by rw [← HN1.out]; exact hg)
      have HB4 := Lib.hid hb4
      have HS4 := Lib.hid (HSM.out _ w3 hb4 hrd)
      clear hg hb3 hb4 hrd
      go_wp2_with fail
      refine HS4.out.mono ?_
      rintro e w5 ⟨rfl, hb5⟩
      have HB5 := Lib.hid (HB4.out.trans (hb5.mono HB4.out.size))
      clear hb5
      go_wp2_with fail
      go_ret
      exact ⟨rfl, HB5.out⟩
theorem erasures_top (w : World) (v1 : Value) (L : List (List UInt8)) (hL : CameStr w v1 L) (v2 : Value) (D : List DV) (hD : CameDams w v2 D) :
    Calls Tryz.prog 4 #[v1, v2] w fun e w' => e = .returned (.bool true) ∧ Below w.heap.size w w' := by
  obtain ⟨a1, c1, rfl, _⟩ := RdD.form hL.1
  obtain ⟨a2, c2, rfl, _⟩ := RdD.form hD.1
  by_cases h : L.length = 0 ∨ 3 < L.length ∨ 3 < D.length
  · exact erasures_many w a1 _ c1 a2 _ c2 hL.2.1 hD.2.1 h
  · by_cases hl : ∀ i, i < L.length → (atD [] L i).length = 2048
    · exact erasures_ok w _ L hL _ D hD (by omega) (by omega) (by omega) hl
    · refine erasures_bad w _ L hL a2 _ c2 (by omega) (by omega) (by omega) ?_
      simp only [Classical.not_forall] at hl
      obtain ⟨i, hi, hne⟩ := hl
      exact anyS_at hi (decide_eq_true hne)
end Go.Proofs.YtflmjdjkfognjaaGreat.T7
