/- Chapter 13: the law DefectCounts walked. -/
import Derived.Test.YtjnedcncfdpjoaaEg
namespace Go.Proofs.Ytjnedcncfdpjoaa.D13
open Go.RowKit Go.Maps
set_option linter.unusedVariables false

set_option maxRecDepth 100000 in
set_option maxHeartbeats 4000000 in
theorem counts_skip (w : World) (b s : Int) (hb : In64 b) (hs : In64 s) (v1 : Value) (l1 : List Int) (h1 : CameI w v1 l1) (v2 : Value) (l2 : List Int) (h2 : CameI w v2 l2) (hno : 40 < b ∨ 20 < l1.length ∨ 80 < l2.length) :
    Calls Try.prog 6 #[.int .i64 b, .int .i64 s, v1, v2] w fun e w' => e = .returned (.bool true) ∧ Below w.heap.size w w' := by
  obtain ⟨_, hl1, a1, c1, rfl⟩ := h1
  obtain ⟨_, hl2, a2, c2, rfl⟩ := h2
  obtain ⟨b1, b2⟩ := hb
  have hcase : 40 < b ∨ (¬ 40 < b ∧ 20 < l1.length) ∨ (¬ 40 < b ∧ ¬ 20 < l1.length ∧ 80 < l2.length) := by omega
  clear hno
  rcases hcase with g1 | ⟨g1, g2⟩ | ⟨g1, g2, g3⟩
  all_goals
    go_enter Try.func6, Try.ntmps6
    go_wp2_with fail
    refine (awake13_any _).mono ?_
    rintro e w1 ⟨rfl, hb1⟩
    go_wp2_with fail
    go_ret
    exact ⟨rfl, hb1⟩
set_option maxRecDepth 100000 in
set_option maxHeartbeats 4000000 in
theorem counts_bad (w : World) (b s : Int) (hb : In64 b) (hs : In64 s) (v1 : Value) (l1 : List Int) (h1 : RdI w v1 l1) (v2 : Value) (l2 : List Int) (h2 : RdI w v2 l2) (g1 : b ≤ 40) (g2 : l1.length ≤ 20) (g3 : l2.length ≤ 80) (hno : ¬ shp b s l1) :
    Calls Try.prog 6 #[.int .i64 b, .int .i64 s, v1, v2] w fun e w' => e = .returned (.bool true) ∧ Below w.heap.size w w' := by
  have HNW := Lib.hid (fun W hv => new_any b s hb hs v1 l1 W hv)
  have H1 := Lib.hid h1
  obtain ⟨a1, c1, rfl⟩ := RdI.formD h1
  obtain ⟨a2, c2, rfl⟩ := RdI.formD h2
  have HS := Lib.hid hno
  clear h1 h2 hno
  go_enter Try.func6, Try.ntmps6
  go_wp2_with fail
  refine (awake13_any _).mono ?_
  rintro e w1 ⟨rfl, hb1⟩
  have HB1 := Lib.hid hb1
  have HN1 := Lib.hid (HNW.out w1 (H1.out.keep hb1))
  clear hb1
  go_wp2_with fail
  refine HN1.out.mono ?_
  rintro e w2 ⟨hb2, h2'⟩
  have HB2 := Lib.hid (HB1.out.trans (hb2.mono HB1.out.size))
  clear hb2
  rcases h2' with ⟨hn, _⟩ | ⟨hn, rfl⟩
  · exact absurd hn HS.out
  · clear hn
    go_wp2_with fail
    go_ret
    exact ⟨rfl, HB2.out⟩
set_option maxRecDepth 100000 in
set_option maxHeartbeats 8000000 in
theorem counts_main (w : World) (b s : Int) (hb : In64 b) (hs : In64 s) (v1 : Value) (l1 : List Int) (h1 : RdI w v1 l1) (v2 : Value) (l2 : List Int) (h2 : RdI w v2 l2) (g1 : b ≤ 40) (g2 : l1.length ≤ 20) (g3 : l2.length ≤ 80) (hsh : shp b s l1) :
    Calls Try.prog 6 #[.int .i64 b, .int .i64 s, v1, v2] w fun e w' => e = .returned (.bool true) ∧ Below w.heap.size w w' := by
  have HNW := Lib.hid (fun W hv => new_any b s hb hs v1 l1 W hv)
  have H1 := Lib.hid h1
  have H2 := Lib.hid h2
  obtain ⟨a1, c1, rfl⟩ := RdI.formD h1
  obtain ⟨a2, c2, rfl⟩ := RdI.formD h2
  have HS := Lib.hid hsh
  have b1 := hsh.1.1
  have s1 := hsh.1.2.2.1
  have s2 := hsh.1.2.2.2.1
  clear h1 h2 hsh hb hs
  go_enter Try.func6, Try.ntmps6
  go_wp2_with fail
  refine (awake13_any _).mono ?_
  rintro e w1 ⟨rfl, hb1⟩
  have HB1 := Lib.hid hb1
  have HN1 := Lib.hid (HNW.out w1 (H1.out.keep hb1))
  clear hb1
  go_wp2_with fail
  refine HN1.out.mono ?_
  rintro e w2 ⟨hb2, h2'⟩
  have HB2 := Lib.hid (HB1.out.trans (hb2.mono HB1.out.size))
  have hb1s := HB1.out.size
  clear hb2
  rcases h2' with ⟨_, g, gm, vp, rfl, hT, hg, hgm⟩ | ⟨hn, _⟩
  rotate_left
  · exact absurd HS.out hn
  have HT := Lib.hid hT
  have HG : Hid (w.heap.size ≤ g ∧ w.heap.size ≤ gm) := Lib.hid ⟨by omega, by omega⟩
  clear hT hg hgm hb1s
  have HLL : Hid (∀ T : Tab, Left b s l1 T → T.prim.length = l1.length ∧ (T.spares : Int) = s) := Lib.hid fun T h => ⟨by rw [h.hp], h.hs⟩
  go_wp2_with fail
  go_loopw [49, 11] (fun vk vn wr => ∃ k : Nat, k ≤ l2.length ∧ vk = .int .i64 k ∧ vn = .int .i64 ((l1.length : Int) + ((reps (tab0 b s l1) (l2.take k)).used : Int)) ∧ TabW wr g gm vp (reps (tab0 b s l1) (l2.take k)) ∧ Below w.heap.size w wr) (fun vk _ _ => l2.length - (RowKit.intOf vk).toNat)
  case atStart => exact ⟨0, by omega, rfl, by simp [reps, tab0], HT.out, HB2.out⟩
  case round =>
    obtain ⟨k, hk, rfl, rfl, hT, hb⟩ := hrel
    have HT2 := Lib.hid hT
    have HB3 := Lib.hid hb
    by_cases hlt : k < l2.length
    · obtain ⟨bl, off, hcell⟩ := RdI.at (H2.out.keep hb)
      obtain ⟨ha, hcl⟩ := hcell k hlt
      have hix := fun w' => run_idxS Try.underlying22 Try.sizeInt13 (cap := c2) ha hlt (k : Int) rfl w'
      simp only [Nat.mul_one] at hix
      have hxr : In64 (ixI l2 k) := H2.out.2.2 k hlt
      have HX := Lib.hid (reps_take (tab0 b s l1) l2 k hlt)
      have HLE := Lib.hid (HLL.out _ ((Left.zero HS.out).reps (l2.take k)))
      generalize reps (tab0 b s l1) (l2.take k) = T at *
      generalize ixI l2 k = x at *
      have HA := Lib.hid ha
      have HR := Lib.hid (replace_any hT x hxr)
      have huss : T.used ≤ 64 := by have := hT.ok.us; have := hT.ok.sp; omega
      clear ha hT hb hcell hxr
      rcases replR_cases HT2.out.ok.us x with ⟨hv, he⟩ | ⟨hv, hu, he⟩ | ⟨hv, hu, he⟩
      · rw [he] at HR HX
        clear he
        skip
        clear hv
        go_wp2_with fail
        refine HR.out.mono ?_
        rintro e w8 ⟨rfl, hT8, htu⟩
        dsimp only at hT8
        have HT8 := Lib.hid hT8
        have HB8 := Lib.hid (HB3.out.trans (htu.below HG.out.1 HG.out.2 HB3.out.size))
        have HBA := Lib.hid (bad_any hT8)
        have HFW := Lib.hid (fun W hW => free_any (hT8.below (w' := W) hW))
        have HBL : Hid ((((Tab.bad T).length : Nat) : Int) = (l1.length : Int) + (T.used : Int)) := Lib.hid (by
          have h1 := HT8.out.ok.bad_length
          have h2 := HLE.out.1
          skip
          omega)
        have HFR : Hid (((Tab.spares T : Nat) : Int) - ((Tab.used T : Nat) : Int) = s - (T.used : Int)) := Lib.hid (by
          have h2 := HLE.out.2
          skip
          omega)
        rw [HFR.out] at HFW
        clear hT8 htu
        generalize (Tab.bad T) = bl' at *
        obtain ⟨nb, hnb⟩ : ∃ nb, nb = bl'.length := ⟨_, rfl⟩
        rw [← hnb] at HBA HBL
        clear hnb
        generalize hus : T.used = us at *
        go_wp2_with fail
        refine HBA.out.mono ?_
        rintro e w9 ⟨v9, rfl, ho9, hb9⟩
        have HF9 := Lib.hid (HFW.out w9 hb9)
        have HB9 := Lib.hid hb9
        obtain ⟨a9, c9, rfl⟩ := ownD_form ho9
        clear ho9 hb9
        have hnbe := HBL.out
        go_wp2_with fail
        refine HF9.out.mono ?_
        rintro e w10 ⟨rfl, q10, rfl⟩
        have HB10 := Lib.hid (Below.drewN HB9.out q10)
        generalize w9.drewN q10 = w10 at *
        go_wp2_with fail
        go_roundw
        case rel => exact ⟨k + 1, by omega, by go_num, by rw [HX.out]; rw [hus], by rw [HX.out]; exact HT8.out.below HB10.out, HB8.out.trans (HB10.out.mono HB8.out.size)⟩
        case measure => simp [RowKit.intOf]; omega
      · rw [he] at HR HX
        clear he
        clear hu
        clear hv
        go_wp2_with fail
        refine HR.out.mono ?_
        rintro e w8 ⟨rfl, hT8, htu⟩
        dsimp only at hT8
        have HT8 := Lib.hid hT8
        have HB8 := Lib.hid (HB3.out.trans (htu.below HG.out.1 HG.out.2 HB3.out.size))
        have HBA := Lib.hid (bad_any hT8)
        have HFW := Lib.hid (fun W hW => free_any (hT8.below (w' := W) hW))
        have HBL : Hid ((((Tab.bad T).length : Nat) : Int) = (l1.length : Int) + (T.used : Int)) := Lib.hid (by
          have h1 := HT8.out.ok.bad_length
          have h2 := HLE.out.1
          skip
          omega)
        have HFR : Hid (((Tab.spares T : Nat) : Int) - ((Tab.used T : Nat) : Int) = s - (T.used : Int)) := Lib.hid (by
          have h2 := HLE.out.2
          skip
          omega)
        rw [HFR.out] at HFW
        clear hT8 htu
        generalize (Tab.bad T) = bl' at *
        obtain ⟨nb, hnb⟩ : ∃ nb, nb = bl'.length := ⟨_, rfl⟩
        rw [← hnb] at HBA HBL
        clear hnb
        generalize hus : T.used = us at *
        go_wp2_with fail
        refine HBA.out.mono ?_
        rintro e w9 ⟨v9, rfl, ho9, hb9⟩
        have HF9 := Lib.hid (HFW.out w9 hb9)
        have HB9 := Lib.hid hb9
        obtain ⟨a9, c9, rfl⟩ := ownD_form ho9
        clear ho9 hb9
        have hnbe := HBL.out
        go_wp2_with fail
        refine HF9.out.mono ?_
        rintro e w10 ⟨rfl, q10, rfl⟩
        have HB10 := Lib.hid (Below.drewN HB9.out q10)
        generalize w9.drewN q10 = w10 at *
        go_wp2_with fail
        go_roundw
        case rel => exact ⟨k + 1, by omega, by go_num, by rw [HX.out]; rw [hus], by rw [HX.out]; exact HT8.out.below HB10.out, HB8.out.trans (HB10.out.mono HB8.out.size)⟩
        case measure => simp [RowKit.intOf]; omega
      · rw [he] at HR HX
        clear he
        clear hu
        clear hv
        go_wp2_with fail
        refine HR.out.mono ?_
        rintro e w8 ⟨rfl, hT8, htu⟩
        dsimp only at hT8
        have HT8 := Lib.hid hT8
        have HB8 := Lib.hid (HB3.out.trans (htu.below HG.out.1 HG.out.2 HB3.out.size))
        have HBA := Lib.hid (bad_any hT8)
        have HFW := Lib.hid (fun W hW => free_any (hT8.below (w' := W) hW))
        have HBL : Hid ((((Tab.bad (T.repl x)).length : Nat) : Int) = (l1.length : Int) + ((T.used : Int) + 1)) := Lib.hid (by
          have h1 := HT8.out.ok.bad_length
          have h2 := HLE.out.1
          change _ = T.prim.length + (T.used + 1) at h1
          omega)
        have HFR : Hid (((Tab.spares (T.repl x) : Nat) : Int) - ((Tab.used (T.repl x) : Nat) : Int) = s - ((T.used : Int) + 1)) := Lib.hid (by
          have h2 := HLE.out.2
          show (T.spares : Int) - ((T.used + 1 : Nat) : Int) = _
          omega)
        rw [HFR.out] at HFW
        clear hT8 htu
        generalize (Tab.bad (T.repl x)) = bl' at *
        obtain ⟨nb, hnb⟩ : ∃ nb, nb = bl'.length := ⟨_, rfl⟩
        rw [← hnb] at HBA HBL
        clear hnb
        generalize hus : T.used = us at *
        go_wp2_with fail
        refine HBA.out.mono ?_
        rintro e w9 ⟨v9, rfl, ho9, hb9⟩
        have HF9 := Lib.hid (HFW.out w9 hb9)
        have HB9 := Lib.hid hb9
        obtain ⟨a9, c9, rfl⟩ := ownD_form ho9
        clear ho9 hb9
        have hnbe := HBL.out
        go_wp2_with fail
        refine HF9.out.mono ?_
        rintro e w10 ⟨rfl, q10, rfl⟩
        have HB10 := Lib.hid (Below.drewN HB9.out q10)
        generalize w9.drewN q10 = w10 at *
        go_wp2_with fail
        go_roundw
        case rel => exact ⟨k + 1, by omega, by go_num, by rw [HX.out]; show _ = Value.int .i64 ((l1.length : Int) + ((T.used + 1 : Nat) : Int)); rw [hus]; congr 1, by rw [HX.out]; exact HT8.out.below HB10.out, HB8.out.trans (HB10.out.mono HB8.out.size)⟩
        case measure => simp [RowKit.intOf]; omega
    · obtain rfl : k = l2.length := by omega
      have hle := (replaced_any hT).1
      have HRP := Lib.hid (replaced_any hT).2
      have huss : (reps (tab0 b s l1) (l2.take l2.length)).used ≤ 64 := by have := hT.ok.us; have := hT.ok.sp; omega
      clear hT hb
      generalize reps (tab0 b s l1) (l2.take l2.length) = T at *
      go_wp2_with fail
      refine HRP.out.mono ?_
      rintro e w9 ⟨v9, rfl, ho9, hb9⟩
      have HB9 := Lib.hid (HB3.out.trans (hb9.mono HB3.out.size))
      obtain ⟨a9, c9, rfl⟩ := ownD_form ho9
      clear ho9 hb9
      go_wp2_with fail
      go_ret
      exact ⟨retB (by simp; omega), HB9.out⟩
theorem counts_law (w : World) (b : Int) (hb : (Lit.int .i64 b).wf = true) (s : Int) (hs : (Lit.int .i64 s).wf = true) (v1 : Value) (l1 : List Int) (h1 : CameI w v1 l1) (v2 : Value) (l2 : List Int) (h2 : CameI w v2 l2) :
    Calls Try.prog 6 #[.int .i64 b, .int .i64 s, v1, v2] w fun e w' => e = .returned (.bool true) ∧ Below w.heap.size w w' := by
  by_cases hno : 40 < b ∨ 20 < l1.length ∨ 80 < l2.length
  · exact counts_skip w b s (in64_of hb) (in64_of hs) v1 l1 h1 v2 l2 h2 hno
  · by_cases hsh : shp b s l1
    · exact counts_main w b s (in64_of hb) (in64_of hs) v1 l1 (h1.1 (by omega)) v2 l2 (h2.1 (by omega)) (by omega) (by omega) (by omega) hsh
    · exact counts_bad w b s (in64_of hb) (in64_of hs) v1 l1 (h1.1 (by omega)) v2 l2 (h2.1 (by omega)) (by omega) (by omega) (by omega) hsh
end Go.Proofs.Ytjnedcncfdpjoaa.D13
