/- Chapter 12: a medium and the reference are the same. -/
import Derived.Test.YtpncjadhpnapnaaMq23
import Derived.Test.YtpncjadhpnapnaaInr
namespace Go.Proofs.Ytpncjadhpnapnaa.D12
open Go.RowKit Go.Maps C9
open D13 (RdI ixI is)
set_option linter.unusedVariables false

def smaV (g b : Nat) (M : Med) (aL : Option Addr) (cL : Nat) (i : Nat) (v : Value) (W : World) : Prop := match i with
  | 0 => v = .pointer (some ⟨g, 0, none⟩)
  | 1 => v = .int .i64 M.kind
  | 2 => v = .pointer (some ⟨b, 0, none⟩)
  | 3 => v = .int .i64 M.kind
  | 4 => v = .bool false
  | 5 => v = .bool false
  | 6 => v = .pointer (some ⟨g, 0, none⟩)
  | 7 => v = .int .i64 M.n
  | 8 => v = .pointer (some ⟨b, 2, none⟩)
  | 9 => v = .slice aL M.n cL
  | 10 => v = .int .i64 M.n
  | 11 => v = .bool false
  | 12 => v = .bool false
  | _ => True
theorem smaV_keep (g b : Nat) (M : Med) (aL : Option Addr) (cL : Nat) (i : Nat) (v : Value) (W W' : World) (hR : (fun w W => Below w.heap.size w W) W W') (h : smaV g b M aL cL i v W) : smaV g b M aL cL i v W' := by
  unfold smaV at h ⊢
  split at h <;> first | exact h
def smbV (g b l7 c7 c8 : Nat) (M : Med) (aL aS aD a7 a8 : Option Addr) (cL cS cD : Nat) (s : ByteArray) (c st cn wt ii : Int) (cl : Bool) (i : Nat) (v : Value) (W : World) : Prop := match i with
  | 0 => v = .string s
  | 1 => v = .string s
  | 2 => v = .bool false
  | 3 => v = .bool false
  | 4 => v = .slice a7 l7 c7
  | 5 => v = .slice a8 l7 c8
  | 6 => v = .bool true
  | 7 => v = .bool false
  | 8 => v = .bool false
  | 9 => v = .bool false
  | 10 => v = .int .i64 c
  | 11 => v = .int .i64 c
  | 12 => v = .bool false
  | 13 => v = .bool false
  | 14 => v = .bool false
  | 15 => v = .int .i64 st
  | 16 => v = .int .i64 st
  | 17 => v = .bool false
  | 18 => v = .bool false
  | 19 => v = .bool false
  | 20 => v = .int .i64 cn
  | 21 => v = .int .i64 cn
  | 22 => v = .bool false
  | 23 => v = .bool false
  | 24 => v = .bool false
  | 25 => v = .int .i64 wt
  | 26 => v = .int .i64 wt
  | 27 => v = .bool false
  | 28 => v = .bool false
  | 29 => v = .bool false
  | 30 => v = .int .i64 wt
  | 31 => v = .int .i64 wt
  | 32 => v = .bool false
  | 33 => v = .bool false
  | 34 => v = .bool false
  | 35 => v = .pointer (some ⟨g, 0, none⟩)
  | 36 => v = .int .i64 ii
  | 37 => v = .bool cl
  | 38 => v = .agg #[.int .i64 M.kind, .int .i64 M.endu, .slice aL M.n cL, .slice aS M.scr.length cS, .slice aD M.n cD]
  | 39 => v = .int .i64 ii
  | 40 => v = .bool cl
  | 41 => v = .bool false
  | 42 => v = .bool false
  | _ => True
theorem smbV_keep (g b l7 c7 c8 : Nat) (M : Med) (aL aS aD a7 a8 : Option Addr) (cL cS cD : Nat) (s : ByteArray) (c st cn wt ii : Int) (cl : Bool) (i : Nat) (v : Value) (W W' : World) (hR : (fun w W => Below w.heap.size w W) W W') (h : smbV g b l7 c7 c8 M aL aS aD a7 a8 cL cS cD s c st cn wt ii cl i v W) : smbV g b l7 c7 c8 M aL aS aD a7 a8 cL cS cD s c st cn wt ii cl i v W' := by
  unfold smbV at h ⊢
  split at h <;> first | exact h
theorem gone_bdo (M : Med) (i : Nat) : (∀ x ∈ M.gone i, 0 ≤ x ∧ x < 2352) ∧ (M.gone i).length ≤ 2352 := by
  refine ⟨gone_bd M i, ?_⟩
  unfold Med.gone
  rw [List.length_map]
  exact Nat.le_trans (List.length_filter_le _ _) (by simp)
theorem readR_bdo (M : Med) (i : Int) : (∀ x ∈ (M.readR i).2.1, 0 ≤ x ∧ x < 2352) ∧ (M.readR i).2.1.length ≤ 2352 := by
  unfold Med.readR
  have hz : (∀ x ∈ ([] : List Int), 0 ≤ x ∧ x < 2352) ∧ ([] : List Int).length ≤ 2352 := ⟨fun x hx => (by cases hx), Nat.zero_le _⟩
  split
  · split
    · exact hz
    · split
      · dsimp only
        exact gone_bdo M _
      · exact hz
  · exact hz
set_option maxRecDepth 100000 in
set_option maxHeartbeats 8000000 in
theorem same12 {w : World} {g : Nat} {M : Med} {X R : Nat → Prop} {N : Nat} (h : MedW w g M X R) (ho : M.Ok N) {vL vS vD : Value} {P : Nat → Prop} {SS : List RS} (h2 : RmF P w vL vS vD M SS) (hN : N ≤ 1000000000) :
    Calls Try.prog 29 #[.pointer (some ⟨g, 0, none⟩), rmv M vL vS vD] w fun e w' => e = .returned (.bool true) ∧ Below w.heap.size w w' := by
  have hn := ho.n
  have hre := h2.here
  obtain ⟨⟨aL, cL, rfl⟩, ⟨aS, cS, rfl⟩, aD, cD, rfl⟩ := hre.forms
  have hSn := hre.n
  have hA := (Below.refl w.heap.size w).alloc (Nat.le_refl _) (.cells #[.int .i64 M.kind, .int .i64 M.endu, .slice aL M.n cL, .slice aS M.scr.length cS, .slice aD M.n cD] 59)
  have HOK := Lib.hid ho
  have HN : Hid (M.n ≤ 4096) := Lib.hid hn.2
  have HSE := Lib.hid (fun i hi => ho.sec i hi)
  obtain ⟨b, hb⟩ : ∃ b, b = w.heap.size := ⟨_, rfl⟩
  obtain ⟨w2, hw2⟩ : ∃ w2, w2 = w.alloc (.cells #[.int .i64 M.kind, .int .i64 M.endu, .slice aL M.n cL, .slice aS M.scr.length cS, .slice aD M.n cD] 59) := ⟨_, rfl⟩
  have hbx := Bx.new w 59 [.int .i64 M.kind, .int .i64 M.endu, .slice aL M.n cL, .slice aS M.scr.length cS, .slice aD M.n cD]
  rw [← hb] at hbx
  change Bx (w.alloc (.cells #[.int .i64 M.kind, .int .i64 M.endu, .slice aL M.n cL, .slice aS M.scr.length cS, .slice aD M.n cD] 59)) _ _ _ at hbx
  rw [← hw2] at hbx hA
  have HA := Lib.hid hA
  have HBX := Lib.hid (fun W (hW : Below w2.heap.size w2 W) => hbx.call hW)
  have HKM := Lib.hid (fun W (hW : Below w2.heap.size w2 W) => h.below (hA.trans (hW.mono hA.size)))
  have HKR := Lib.hid (fun W (hW : Below w2.heap.size w2 W) => h2.res (hA.trans (hW.mono hA.size)))
  have HRE := Lib.hid (fun W (hW : Below w2.heap.size w2 W) => hre.keep (hA.trans (hW.mono hA.size)))
  have HW2 := Lib.hid hw2
  have HB := Lib.hid hb
  have HSS := Lib.hid hSn
  clear h h2 hre hbx hA hb hw2 ho hSn
  unfold rmv
  go_enter Try.func29, Try.ntmps29
  go_upto_region 1 with (fail)
  rw [← HW2.out, ← HB.out]
  refine wp_region_inr (by kernel_rfl) (fun w W => Below w.heap.size w W) (fun W => Below w2.heap.size w2 W) (smaV g b M aL cL) (fun _ => false) (by kernel_rfl) (fun _ _ hR hc => hc.trans (hR.mono hc.size)) (smaV_keep g b M aL cL) ((Below.refl _ _).drew) ⟨?_, ?_, ?_, ?_, ?_, ?_, ?_, ?_, ?_, ?_, ?_, ?_, ?_, trivial⟩ ?_
  · intro a W hc hsz hold hdep
    have o0 : a.tmps.getD 0 undef = .pointer (some ⟨g, 0, none⟩) := hold 0 (by kernel_rfl)
    clear hsz hold hdep
    refine stepR_do rfl (wanted_none rfl) ?_
    refine stepR_val (v := .pointer (some ⟨g, 0, none⟩)) (Below.refl _ _) rfl fun K hK => ?_
    go_simp
    exact hK
  · intro a W hc hsz hold hdep
    have d0 : a.tmps.getD 19 undef = .pointer (some ⟨g, 0, none⟩) := hdep 0 (by kernel_rfl) rfl _ rfl
    have e0 : a.tmps[19]?.getD undef = .pointer (some ⟨g, 0, none⟩) := by rw [← Array.getD_eq_getD_getElem?]; exact d0
    clear hsz hold hdep
    refine stepR_do rfl (wanted_none rfl) ?_
    have HCC := Lib.hid (kind12 (HKM.out W hc))
    refine stepR_callx fun K hK => ?_
    clear hc
    go_simp
    refine HCC.out.mono ?_
    rintro e w' ⟨rfl, hw⟩
    exact hK _ _ (hw ▸ Below.refl _ _) rfl
  · intro a W hc hsz hold hdep
    have o3 : a.tmps.getD 3 undef = .pointer (some ⟨b, 0, none⟩) := hold 3 (by kernel_rfl)
    clear hsz hold hdep
    refine stepR_do rfl (wanted_none rfl) ?_
    refine stepR_val (v := .pointer (some ⟨b, 0, none⟩)) (Below.refl _ _) rfl fun K hK => ?_
    go_simp
    exact hK
  · intro a W hc hsz hold hdep
    have d2 : a.tmps.getD 21 undef = .pointer (some ⟨b, 0, none⟩) := hdep 2 (by kernel_rfl) rfl _ rfl
    have q0 := (HBX.out W hc).cell (i := 0) rfl
    clear hsz hold hdep
    refine stepR_do rfl (wanted_none rfl) ?_
    refine stepR_val (v := .int .i64 M.kind) (Below.refl _ _) rfl fun K hK => ?_
    go_simp
    exact hK
  · intro a W hc hsz hold hdep
    have d1 : a.tmps.getD 20 undef = .int .i64 M.kind := hdep 1 (by kernel_rfl) rfl _ rfl
    have d3 : a.tmps.getD 22 undef = .int .i64 M.kind := hdep 3 (by kernel_rfl) rfl _ rfl
    clear hsz hold hdep
    refine stepR_do rfl (wanted_none rfl) ?_
    refine stepR_val (v := .bool false) (Below.refl _ _) rfl fun K hK => ?_
    go_simp
    exact hK
  · intro a W hc hsz hold hdep
    have d4 : a.tmps.getD 23 undef = .bool false := hdep 4 (by kernel_rfl) rfl _ rfl
    clear hsz hold hdep
    refine stepR_do rfl (wanted_none rfl) ?_
    refine stepR_val (v := .bool false) (Below.refl _ _) rfl fun K hK => ?_
    go_simp
    exact hK
  · intro a W hc hsz hold hdep
    have o0 : a.tmps.getD 0 undef = .pointer (some ⟨g, 0, none⟩) := hold 0 (by kernel_rfl)
    have g6 : a.tmps.getD 24 undef = .bool false := hdep 5 (by kernel_rfl) rfl _ rfl
    clear hsz hold hdep
    refine stepR_do rfl ((wanted_of (want := false) rfl rfl g6).trans rfl) ?_
    clear g6
    refine stepR_val (v := .pointer (some ⟨g, 0, none⟩)) (Below.refl _ _) rfl fun K hK => ?_
    go_simp
    exact hK
  · intro a W hc hsz hold hdep
    have d6 : a.tmps.getD 25 undef = .pointer (some ⟨g, 0, none⟩) := hdep 6 (by kernel_rfl) rfl _ rfl
    have e6 : a.tmps[25]?.getD undef = .pointer (some ⟨g, 0, none⟩) := by rw [← Array.getD_eq_getD_getElem?]; exact d6
    have g7 : a.tmps.getD 24 undef = .bool false := hdep 5 (by kernel_rfl) rfl _ rfl
    clear hsz hold hdep
    refine stepR_do rfl ((wanted_of (want := false) rfl rfl g7).trans rfl) ?_
    have HCC := Lib.hid (sectors12 (HKM.out W hc) HN.out)
    refine stepR_callx fun K hK => ?_
    clear hc
    go_simp
    refine HCC.out.mono ?_
    rintro e w' ⟨rfl, hw⟩
    exact hK _ _ (hw ▸ Below.refl _ _) rfl
  · intro a W hc hsz hold hdep
    have o3 : a.tmps.getD 3 undef = .pointer (some ⟨b, 0, none⟩) := hold 3 (by kernel_rfl)
    have g8 : a.tmps.getD 24 undef = .bool false := hdep 5 (by kernel_rfl) rfl _ rfl
    clear hsz hold hdep
    refine stepR_do rfl ((wanted_of (want := false) rfl rfl g8).trans rfl) ?_
    clear g8
    refine stepR_val (v := .pointer (some ⟨b, 2, none⟩)) (Below.refl _ _) rfl fun K hK => ?_
    go_simp
    exact hK
  · intro a W hc hsz hold hdep
    have d8 : a.tmps.getD 27 undef = .pointer (some ⟨b, 2, none⟩) := hdep 8 (by kernel_rfl) rfl _ rfl
    have g9 : a.tmps.getD 24 undef = .bool false := hdep 5 (by kernel_rfl) rfl _ rfl
    have q2 := (HBX.out W hc).cell (i := 2) rfl
    clear hsz hold hdep
    refine stepR_do rfl ((wanted_of (want := false) rfl rfl g9).trans rfl) ?_
    clear g9
    refine stepR_val (v := .slice aL M.n cL) (Below.refl _ _) rfl fun K hK => ?_
    go_simp
    exact hK
  · intro a W hc hsz hold hdep
    have d9 : a.tmps.getD 28 undef = .slice aL M.n cL := hdep 9 (by kernel_rfl) rfl _ rfl
    have e9 : a.tmps[28]?.getD undef = .slice aL M.n cL := by rw [← Array.getD_eq_getD_getElem?]; exact d9
    have g10 : a.tmps.getD 24 undef = .bool false := hdep 5 (by kernel_rfl) rfl _ rfl
    clear hsz hold hdep
    refine stepR_do rfl ((wanted_of (want := false) rfl rfl g10).trans rfl) ?_
    clear g10
    refine stepR_val (v := .int .i64 M.n) (Below.refl _ _) rfl fun K hK => ?_
    go_simp
    exact hK
  · intro a W hc hsz hold hdep
    have d7 : a.tmps.getD 26 undef = .int .i64 M.n := hdep 7 (by kernel_rfl) rfl _ rfl
    have d10 : a.tmps.getD 29 undef = .int .i64 M.n := hdep 10 (by kernel_rfl) rfl _ rfl
    have g11 : a.tmps.getD 24 undef = .bool false := hdep 5 (by kernel_rfl) rfl _ rfl
    clear hsz hold hdep
    refine stepR_do rfl ((wanted_of (want := false) rfl rfl g11).trans rfl) ?_
    clear g11
    refine stepR_val (v := .bool false) (Below.refl _ _) rfl fun K hK => ?_
    go_simp
    exact hK
  · intro a W hc hsz hold hdep
    have d5 : a.tmps.getD 24 undef = .bool false := hdep 5 (by kernel_rfl) rfl _ rfl
    have d11 : a.tmps.getD 30 undef = .bool false := hdep 11 (by kernel_rfl) rfl _ rfl
    clear hsz hold hdep
    refine stepR_do rfl (wanted_none rfl) ?_
    refine stepR_val (v := .bool false) (Below.refl _ _) rfl fun K hK => ?_
    go_simp
    exact hK
  · intro a W hC hd hsz hold hval
    have d0 : a.tmps.getD 0 undef = .pointer (some ⟨g, 0, none⟩) := hold 0 (by kernel_rfl)
    have d3 : a.tmps.getD 3 undef = .pointer (some ⟨b, 0, none⟩) := hold 3 (by kernel_rfl)
    have d31 : a.tmps.getD 31 undef = .bool false := hval 12 _ rfl rfl
    clear hold
    obtain ⟨tm, df⟩ := a
    replace hd : df = [] := hd
    replace hsz : tm.size = 129 := hsz
    replace d0 : tm.getD 0 undef = .pointer (some ⟨g, 0, none⟩) := d0
    replace d3 : tm.getD 3 undef = .pointer (some ⟨b, 0, none⟩) := d3
    replace d31 : tm.getD 31 undef = .bool false := d31
    subst hd
    have e : tm = List.toArray (tm.getD 0 undef :: tm.getD 1 undef :: tm.getD 2 undef :: tm.getD 3 undef :: tm.getD 4 undef :: tm.getD 5 undef :: tm.getD 6 undef :: tm.getD 7 undef :: tm.getD 8 undef :: tm.getD 9 undef :: tm.getD 10 undef :: tm.getD 11 undef :: tm.getD 12 undef :: tm.getD 13 undef :: tm.getD 14 undef :: tm.getD 15 undef :: tm.getD 16 undef :: tm.getD 17 undef :: tm.getD 18 undef :: tm.getD 19 undef :: tm.getD 20 undef :: tm.getD 21 undef :: tm.getD 22 undef :: tm.getD 23 undef :: tm.getD 24 undef :: tm.getD 25 undef :: tm.getD 26 undef :: tm.getD 27 undef :: tm.getD 28 undef :: tm.getD 29 undef :: tm.getD 30 undef :: tm.getD 31 undef :: tm.getD 32 undef :: tm.getD 33 undef :: tm.getD 34 undef :: tm.getD 35 undef :: tm.getD 36 undef :: tm.getD 37 undef :: tm.getD 38 undef :: tm.getD 39 undef :: tm.getD 40 undef :: tm.getD 41 undef :: tm.getD 42 undef :: tm.getD 43 undef :: tm.getD 44 undef :: tm.getD 45 undef :: tm.getD 46 undef :: tm.getD 47 undef :: tm.getD 48 undef :: tm.getD 49 undef :: tm.getD 50 undef :: tm.getD 51 undef :: tm.getD 52 undef :: tm.getD 53 undef :: tm.getD 54 undef :: tm.getD 55 undef :: tm.getD 56 undef :: tm.getD 57 undef :: tm.getD 58 undef :: tm.getD 59 undef :: tm.getD 60 undef :: tm.getD 61 undef :: tm.getD 62 undef :: tm.getD 63 undef :: tm.getD 64 undef :: tm.getD 65 undef :: tm.getD 66 undef :: tm.getD 67 undef :: tm.getD 68 undef :: tm.getD 69 undef :: tm.getD 70 undef :: tm.getD 71 undef :: tm.getD 72 undef :: tm.getD 73 undef :: tm.getD 74 undef :: tm.getD 75 undef :: tm.getD 76 undef :: tm.getD 77 undef :: tm.getD 78 undef :: tm.getD 79 undef :: tm.getD 80 undef :: tm.getD 81 undef :: tm.getD 82 undef :: tm.getD 83 undef :: tm.getD 84 undef :: tm.getD 85 undef :: tm.getD 86 undef :: tm.getD 87 undef :: tm.getD 88 undef :: tm.getD 89 undef :: tm.getD 90 undef :: tm.getD 91 undef :: tm.getD 92 undef :: tm.getD 93 undef :: tm.getD 94 undef :: tm.getD 95 undef :: tm.getD 96 undef :: tm.getD 97 undef :: tm.getD 98 undef :: tm.getD 99 undef :: tm.getD 100 undef :: tm.getD 101 undef :: tm.getD 102 undef :: tm.getD 103 undef :: tm.getD 104 undef :: tm.getD 105 undef :: tm.getD 106 undef :: tm.getD 107 undef :: tm.getD 108 undef :: tm.getD 109 undef :: tm.getD 110 undef :: tm.getD 111 undef :: tm.getD 112 undef :: tm.getD 113 undef :: tm.getD 114 undef :: tm.getD 115 undef :: tm.getD 116 undef :: tm.getD 117 undef :: tm.getD 118 undef :: tm.getD 119 undef :: tm.getD 120 undef :: tm.getD 121 undef :: tm.getD 122 undef :: tm.getD 123 undef :: tm.getD 124 undef :: tm.getD 125 undef :: tm.getD 126 undef :: tm.getD 127 undef :: tm.getD 128 undef :: []) := arr_eq tm 129 hsz
    rw [d0, d3, d31] at e
    clear d0 d3 d31 hsz
    generalize tm.getD 1 undef = v1 at e
    generalize tm.getD 2 undef = v2 at e
    generalize tm.getD 4 undef = v4 at e
    generalize tm.getD 5 undef = v5 at e
    generalize tm.getD 6 undef = v6 at e
    generalize tm.getD 7 undef = v7 at e
    generalize tm.getD 8 undef = v8 at e
    generalize tm.getD 9 undef = v9 at e
    generalize tm.getD 10 undef = v10 at e
    generalize tm.getD 11 undef = v11 at e
    generalize tm.getD 12 undef = v12 at e
    generalize tm.getD 13 undef = v13 at e
    generalize tm.getD 14 undef = v14 at e
    generalize tm.getD 15 undef = v15 at e
    generalize tm.getD 16 undef = v16 at e
    generalize tm.getD 17 undef = v17 at e
    generalize tm.getD 18 undef = v18 at e
    generalize tm.getD 19 undef = v19 at e
    generalize tm.getD 20 undef = v20 at e
    generalize tm.getD 21 undef = v21 at e
    generalize tm.getD 22 undef = v22 at e
    generalize tm.getD 23 undef = v23 at e
    generalize tm.getD 24 undef = v24 at e
    generalize tm.getD 25 undef = v25 at e
    generalize tm.getD 26 undef = v26 at e
    generalize tm.getD 27 undef = v27 at e
    generalize tm.getD 28 undef = v28 at e
    generalize tm.getD 29 undef = v29 at e
    generalize tm.getD 30 undef = v30 at e
    generalize tm.getD 32 undef = v32 at e
    generalize tm.getD 33 undef = v33 at e
    generalize tm.getD 34 undef = v34 at e
    generalize tm.getD 35 undef = v35 at e
    generalize tm.getD 36 undef = v36 at e
    generalize tm.getD 37 undef = v37 at e
    generalize tm.getD 38 undef = v38 at e
    generalize tm.getD 39 undef = v39 at e
    generalize tm.getD 40 undef = v40 at e
    generalize tm.getD 41 undef = v41 at e
    generalize tm.getD 42 undef = v42 at e
    generalize tm.getD 43 undef = v43 at e
    generalize tm.getD 44 undef = v44 at e
    generalize tm.getD 45 undef = v45 at e
    generalize tm.getD 46 undef = v46 at e
    generalize tm.getD 47 undef = v47 at e
    generalize tm.getD 48 undef = v48 at e
    generalize tm.getD 49 undef = v49 at e
    generalize tm.getD 50 undef = v50 at e
    generalize tm.getD 51 undef = v51 at e
    generalize tm.getD 52 undef = v52 at e
    generalize tm.getD 53 undef = v53 at e
    generalize tm.getD 54 undef = v54 at e
    generalize tm.getD 55 undef = v55 at e
    generalize tm.getD 56 undef = v56 at e
    generalize tm.getD 57 undef = v57 at e
    generalize tm.getD 58 undef = v58 at e
    generalize tm.getD 59 undef = v59 at e
    generalize tm.getD 60 undef = v60 at e
    generalize tm.getD 61 undef = v61 at e
    generalize tm.getD 62 undef = v62 at e
    generalize tm.getD 63 undef = v63 at e
    generalize tm.getD 64 undef = v64 at e
    generalize tm.getD 65 undef = v65 at e
    generalize tm.getD 66 undef = v66 at e
    generalize tm.getD 67 undef = v67 at e
    generalize tm.getD 68 undef = v68 at e
    generalize tm.getD 69 undef = v69 at e
    generalize tm.getD 70 undef = v70 at e
    generalize tm.getD 71 undef = v71 at e
    generalize tm.getD 72 undef = v72 at e
    generalize tm.getD 73 undef = v73 at e
    generalize tm.getD 74 undef = v74 at e
    generalize tm.getD 75 undef = v75 at e
    generalize tm.getD 76 undef = v76 at e
    generalize tm.getD 77 undef = v77 at e
    generalize tm.getD 78 undef = v78 at e
    generalize tm.getD 79 undef = v79 at e
    generalize tm.getD 80 undef = v80 at e
    generalize tm.getD 81 undef = v81 at e
    generalize tm.getD 82 undef = v82 at e
    generalize tm.getD 83 undef = v83 at e
    generalize tm.getD 84 undef = v84 at e
    generalize tm.getD 85 undef = v85 at e
    generalize tm.getD 86 undef = v86 at e
    generalize tm.getD 87 undef = v87 at e
    generalize tm.getD 88 undef = v88 at e
    generalize tm.getD 89 undef = v89 at e
    generalize tm.getD 90 undef = v90 at e
    generalize tm.getD 91 undef = v91 at e
    generalize tm.getD 92 undef = v92 at e
    generalize tm.getD 93 undef = v93 at e
    generalize tm.getD 94 undef = v94 at e
    generalize tm.getD 95 undef = v95 at e
    generalize tm.getD 96 undef = v96 at e
    generalize tm.getD 97 undef = v97 at e
    generalize tm.getD 98 undef = v98 at e
    generalize tm.getD 99 undef = v99 at e
    generalize tm.getD 100 undef = v100 at e
    generalize tm.getD 101 undef = v101 at e
    generalize tm.getD 102 undef = v102 at e
    generalize tm.getD 103 undef = v103 at e
    generalize tm.getD 104 undef = v104 at e
    generalize tm.getD 105 undef = v105 at e
    generalize tm.getD 106 undef = v106 at e
    generalize tm.getD 107 undef = v107 at e
    generalize tm.getD 108 undef = v108 at e
    generalize tm.getD 109 undef = v109 at e
    generalize tm.getD 110 undef = v110 at e
    generalize tm.getD 111 undef = v111 at e
    generalize tm.getD 112 undef = v112 at e
    generalize tm.getD 113 undef = v113 at e
    generalize tm.getD 114 undef = v114 at e
    generalize tm.getD 115 undef = v115 at e
    generalize tm.getD 116 undef = v116 at e
    generalize tm.getD 117 undef = v117 at e
    generalize tm.getD 118 undef = v118 at e
    generalize tm.getD 119 undef = v119 at e
    generalize tm.getD 120 undef = v120 at e
    generalize tm.getD 121 undef = v121 at e
    generalize tm.getD 122 undef = v122 at e
    generalize tm.getD 123 undef = v123 at e
    generalize tm.getD 124 undef = v124 at e
    generalize tm.getD 125 undef = v125 at e
    generalize tm.getD 126 undef = v126 at e
    generalize tm.getD 127 undef = v127 at e
    generalize tm.getD 128 undef = v128 at e
    subst e
    have HC := Lib.hid hC
    have hN5 : M.n ≤ 5000 := by have := HN.out; omega
    clear hC hval
    go_wp2_with fail
    go_loopw [5] (fun vi wr => ∃ i : Int, -1 ≤ i ∧ i ≤ (M.n : Int) + 1 ∧ vi = .int .i64 i ∧ Below w2.heap.size w2 wr) (fun vi _ => ((M.n : Int) + 1 - RowKit.intOf vi).toNat)
    case atStart => exact ⟨-1, by omega, by omega, rfl, HC.out⟩
    case round =>
      obtain ⟨i, hi1, hi2, rfl, hBw⟩ := hrel
      have HBw := Lib.hid hBw
      have q0 := (HBX.out _ hBw).cell (i := 0) rfl
      have q1 := (HBX.out _ hBw).cell (i := 1) rfl
      have q2 := (HBX.out _ hBw).cell (i := 2) rfl
      have q3 := (HBX.out _ hBw).cell (i := 3) rfl
      have q4 := (HBX.out _ hBw).cell (i := 4) rfl
      clear hBw
      by_cases hle : i ≤ (M.n : Int)
      · have hw1 : IntKind.i64.wrap (i + 1) = i + 1 := IntWalk.i64_in _ (by omega)
        have HI : Hid (In64 i) := Lib.hid (by unfold In64; omega)
        have HRM := Lib.hid (read12 (HKM.out _ HBw.out) HOK.out i)
        have HRR := Lib.hid (fun W hW => rread12 (HKR.out W hW) HOK.out i HI.out)
        have HST := Lib.hid (fun W hW => state12 (HKM.out W hW) HN.out i)
        have HCT := Lib.hid (fun W hW => count12 (HKM.out W hW) HN.out i)
        have HCMr := Lib.hid (fun W hW => clean12 (HKM.out W hW) HOK.out i)
        have HCRr := Lib.hid (fun W hW => rclean12 (HKR.out W hW) HOK.out i HI.out)
        have HGB : Hid ((∀ x ∈ (M.readR i).2.1, 0 ≤ x ∧ x < 2352) ∧ (M.readR i).2.1.length ≤ 2352) := Lib.hid (readR_bdo M i)
        unfold rmv at HRR HCRr
        generalize hcl : M.cleanR i = cl at *
        generalize hrd : M.readR i = rd at *
        obtain ⟨rs, rl, rc⟩ := rd
        obtain ⟨s, hs⟩ : ∃ s, s = str rs := ⟨_, rfl⟩
        unfold ReadP at HRM HRR
        simp only at HRM HRR HGB
        rw [← hs] at HRM HRR
        clear hcl hrd hs
        go_wp2_with fail
        refine HRM.out.mono ?_
        rintro e w3 ⟨v3, rfl, ho3, hb3⟩
        obtain ⟨a7, c7, rfl⟩ := ownD_form ho3
        have HB3 := Lib.hid (HBw.out.trans (hb3.mono HBw.out.size))
        have HO3 := Lib.hid ho3
        clear hb3 ho3 q0 q1 q2 q3 q4
        have q0 := (HBX.out _ HB3.out).cell (i := 0) rfl
        have q1 := (HBX.out _ HB3.out).cell (i := 1) rfl
        have q2 := (HBX.out _ HB3.out).cell (i := 2) rfl
        have q3 := (HBX.out _ HB3.out).cell (i := 3) rfl
        have q4 := (HBX.out _ HB3.out).cell (i := 4) rfl
        go_wp2_with fail
        refine (HRR.out _ HB3.out).mono ?_
        rintro e w4 ⟨v4, rfl, ho4, hb4⟩
        obtain ⟨a8, c8, rfl⟩ := ownD_form ho4
        have HB4 := Lib.hid (HB3.out.trans (hb4.mono HB3.out.size))
        have HR7 : Hid (RdI w4 (.slice a7 rl.length c7) rl) := Lib.hid (D13.rdI_own (ownD_keep HO3.out hb4) rfl (by have := HGB.out.2; omega) fun x hx => by have := HGB.out.1 x hx; omega)
        have HR8 : Hid (RdI w4 (.slice a8 rl.length c8) rl) := Lib.hid (D13.rdI_own ho4 rfl (by have := HGB.out.2; omega) fun x hx => by have := HGB.out.1 x hx; omega)
        clear hb4 ho4 q0 q1 q2 q3 q4
        have q2 := (HBX.out _ HB4.out).cell (i := 2) rfl
        by_cases hneg : i < 0
        · have hst : M.stateR i = (0, 2) := by unfold Med.stateR; rw [if_neg (by omega)]
          have hct : M.countR i = (0, 2) := by unfold Med.countR; rw [if_neg (by omega)]
          rw [hst] at HST
          rw [hct] at HCT
          clear hst hct
          have hg0 : decide ((0 : Int) ≤ i) = false := decide_eq_false (by omega)
          have HB5 := HB4
          have H45 := Lib.hid (Below.refl w4.heap.size w4)
          go_wp2_with fail
          refine (HST.out _ HB5.out).mono ?_
          rintro e wa ⟨rfl, hba⟩
          have HBa := Lib.hid (HB5.out.trans (hba.mono HB5.out.size))
          have H4a := Lib.hid (H45.out.trans (hba.mono H45.out.size))
          clear hba
          go_wp2_with fail
          refine (HCT.out _ HBa.out).mono ?_
          rintro e w6 ⟨rfl, hb6⟩
          have HB6 := Lib.hid (HBa.out.trans (hb6.mono HBa.out.size))
          have H46 := Lib.hid (H4a.out.trans (hb6.mono H4a.out.size))
          clear hb6
          have HEQ : Hid (∀ W, Below w6.heap.size w6 W → Calls Try.prog 16 #[.slice a7 rl.length c7, .slice a8 rl.length c8] W fun e w' => e = .returned (.bool true) ∧ Below W.heap.size W w') := Lib.hid fun W hW => by
            have hb := H46.out.trans (hW.mono H46.out.size)
            have hq := equal12 (HR7.out.keep hb) (HR8.out.keep hb)
            rwa [decide_eq_true rfl] at hq
          have HCM := Lib.hid (fun W (hW : Below w6.heap.size w6 W) => HCMr.out W (HB6.out.trans (hW.mono HB6.out.size)))
          have HCR := Lib.hid (fun W (hW : Below w6.heap.size w6 W) => HCRr.out W (HB6.out.trans (hW.mono HB6.out.size)))
          have HBX2 := HBX
          replace HBX := Lib.hid (fun W (hW : Below w6.heap.size w6 W) => HBX2.out W (HB6.out.trans (hW.mono HB6.out.size)))
          unfold CleanP at HCM HCR
          obtain ⟨l7, hl7⟩ : ∃ l7, l7 = rl.length := ⟨_, rfl⟩
          rw [← hl7] at HEQ
          rw [← hl7]
          clear hl7
          go_upto_region 13 with (fail)
          refine wp_region_inr (by kernel_rfl) (fun w W => Below w.heap.size w W) (fun W => Below w6.heap.size w6 W) (smbV g b l7 c7 c8 M aL aS aD a7 a8 cL cS cD s rc 0 0 2 i cl) (fun _ => false) (by kernel_rfl) (fun _ _ hR hc => hc.trans (hR.mono hc.size)) (smbV_keep g b l7 c7 c8 M aL aS aD a7 a8 cL cS cD s rc 0 0 2 i cl) ((Below.refl _ _).drew) ⟨?_, ?_, ?_, ?_, ?_, ?_, ?_, ?_, ?_, ?_, ?_, ?_, ?_, ?_, ?_, ?_, ?_, ?_, ?_, ?_, ?_, ?_, ?_, ?_, ?_, ?_, ?_, ?_, ?_, ?_, ?_, ?_, ?_, ?_, ?_, ?_, ?_, ?_, ?_, ?_, ?_, ?_, ?_, trivial⟩ ?_
          · intro a W hc hsz hold hdep
            have o6 : a.tmps.getD 6 undef = .string s := hold 6 (by kernel_rfl)
            clear hsz hold hdep
            refine stepR_do rfl (wanted_none rfl) ?_
            refine stepR_val (v := .string s) (Below.refl _ _) rfl fun K hK => ?_
            go_simp
            exact hK
          · intro a W hc hsz hold hdep
            have o9 : a.tmps.getD 9 undef = .string s := hold 9 (by kernel_rfl)
            clear hsz hold hdep
            refine stepR_do rfl (wanted_none rfl) ?_
            refine stepR_val (v := .string s) (Below.refl _ _) rfl fun K hK => ?_
            go_simp
            exact hK
          · intro a W hc hsz hold hdep
            have d0 : a.tmps.getD 86 undef = .string s := hdep 0 (by kernel_rfl) rfl _ rfl
            have d1 : a.tmps.getD 87 undef = .string s := hdep 1 (by kernel_rfl) rfl _ rfl
            clear hsz hold hdep
            refine stepR_do rfl (wanted_none rfl) ?_
            refine stepR_val (v := .bool false) (Below.refl _ _) rfl fun K hK => ?_
            go_simp
            exact hK
          · intro a W hc hsz hold hdep
            have d2 : a.tmps.getD 88 undef = .bool false := hdep 2 (by kernel_rfl) rfl _ rfl
            clear hsz hold hdep
            refine stepR_do rfl (wanted_none rfl) ?_
            refine stepR_val (v := .bool false) (Below.refl _ _) rfl fun K hK => ?_
            go_simp
            exact hK
          · intro a W hc hsz hold hdep
            have o7 : a.tmps.getD 7 undef = .slice a7 l7 c7 := hold 7 (by kernel_rfl)
            have g4 : a.tmps.getD 89 undef = .bool false := hdep 3 (by kernel_rfl) rfl _ rfl
            clear hsz hold hdep
            refine stepR_do rfl ((wanted_of (want := false) rfl rfl g4).trans rfl) ?_
            clear g4
            refine stepR_val (v := .slice a7 l7 c7) (Below.refl _ _) rfl fun K hK => ?_
            go_simp
            exact hK
          · intro a W hc hsz hold hdep
            have o10 : a.tmps.getD 10 undef = .slice a8 l7 c8 := hold 10 (by kernel_rfl)
            have g5 : a.tmps.getD 89 undef = .bool false := hdep 3 (by kernel_rfl) rfl _ rfl
            clear hsz hold hdep
            refine stepR_do rfl ((wanted_of (want := false) rfl rfl g5).trans rfl) ?_
            clear g5
            refine stepR_val (v := .slice a8 l7 c8) (Below.refl _ _) rfl fun K hK => ?_
            go_simp
            exact hK
          · intro a W hc hsz hold hdep
            have d4 : a.tmps.getD 90 undef = .slice a7 l7 c7 := hdep 4 (by kernel_rfl) rfl _ rfl
            have e4 : a.tmps[90]?.getD undef = .slice a7 l7 c7 := by rw [← Array.getD_eq_getD_getElem?]; exact d4
            have d5 : a.tmps.getD 91 undef = .slice a8 l7 c8 := hdep 5 (by kernel_rfl) rfl _ rfl
            have e5 : a.tmps[91]?.getD undef = .slice a8 l7 c8 := by rw [← Array.getD_eq_getD_getElem?]; exact d5
            have g6 : a.tmps.getD 89 undef = .bool false := hdep 3 (by kernel_rfl) rfl _ rfl
            clear hsz hold hdep
            refine stepR_do rfl ((wanted_of (want := false) rfl rfl g6).trans rfl) ?_
            have HCC := Lib.hid (HEQ.out W hc)
            refine stepR_callx fun K hK => ?_
            clear hc
            go_simp
            refine HCC.out.mono ?_
            rintro e w' ⟨rfl, hb⟩
            exact hK _ _ (hb) rfl
          · intro a W hc hsz hold hdep
            have d6 : a.tmps.getD 92 undef = .bool true := hdep 6 (by kernel_rfl) rfl _ rfl
            have g7 : a.tmps.getD 89 undef = .bool false := hdep 3 (by kernel_rfl) rfl _ rfl
            clear hsz hold hdep
            refine stepR_do rfl ((wanted_of (want := false) rfl rfl g7).trans rfl) ?_
            clear g7
            refine stepR_val (v := .bool false) (Below.refl _ _) rfl fun K hK => ?_
            go_simp
            exact hK
          · intro a W hc hsz hold hdep
            have d3 : a.tmps.getD 89 undef = .bool false := hdep 3 (by kernel_rfl) rfl _ rfl
            have d7 : a.tmps.getD 93 undef = .bool false := hdep 7 (by kernel_rfl) rfl _ rfl
            clear hsz hold hdep
            refine stepR_do rfl (wanted_none rfl) ?_
            refine stepR_val (v := .bool false) (Below.refl _ _) rfl fun K hK => ?_
            go_simp
            exact hK
          · intro a W hc hsz hold hdep
            have d8 : a.tmps.getD 94 undef = .bool false := hdep 8 (by kernel_rfl) rfl _ rfl
            clear hsz hold hdep
            refine stepR_do rfl (wanted_none rfl) ?_
            refine stepR_val (v := .bool false) (Below.refl _ _) rfl fun K hK => ?_
            go_simp
            exact hK
          · intro a W hc hsz hold hdep
            have o8 : a.tmps.getD 8 undef = .int .i64 rc := hold 8 (by kernel_rfl)
            have g10 : a.tmps.getD 95 undef = .bool false := hdep 9 (by kernel_rfl) rfl _ rfl
            clear hsz hold hdep
            refine stepR_do rfl ((wanted_of (want := false) rfl rfl g10).trans rfl) ?_
            clear g10
            refine stepR_val (v := .int .i64 rc) (Below.refl _ _) rfl fun K hK => ?_
            go_simp
            exact hK
          · intro a W hc hsz hold hdep
            have o11 : a.tmps.getD 11 undef = .int .i64 rc := hold 11 (by kernel_rfl)
            have g11 : a.tmps.getD 95 undef = .bool false := hdep 9 (by kernel_rfl) rfl _ rfl
            clear hsz hold hdep
            refine stepR_do rfl ((wanted_of (want := false) rfl rfl g11).trans rfl) ?_
            clear g11
            refine stepR_val (v := .int .i64 rc) (Below.refl _ _) rfl fun K hK => ?_
            go_simp
            exact hK
          · intro a W hc hsz hold hdep
            have d10 : a.tmps.getD 96 undef = .int .i64 rc := hdep 10 (by kernel_rfl) rfl _ rfl
            have d11 : a.tmps.getD 97 undef = .int .i64 rc := hdep 11 (by kernel_rfl) rfl _ rfl
            have g12 : a.tmps.getD 95 undef = .bool false := hdep 9 (by kernel_rfl) rfl _ rfl
            clear hsz hold hdep
            refine stepR_do rfl ((wanted_of (want := false) rfl rfl g12).trans rfl) ?_
            clear g12
            refine stepR_val (v := .bool false) (Below.refl _ _) rfl fun K hK => ?_
            go_simp
            exact hK
          · intro a W hc hsz hold hdep
            have d9 : a.tmps.getD 95 undef = .bool false := hdep 9 (by kernel_rfl) rfl _ rfl
            have d12 : a.tmps.getD 98 undef = .bool false := hdep 12 (by kernel_rfl) rfl _ rfl
            clear hsz hold hdep
            refine stepR_do rfl (wanted_none rfl) ?_
            refine stepR_val (v := .bool false) (Below.refl _ _) rfl fun K hK => ?_
            go_simp
            exact hK
          · intro a W hc hsz hold hdep
            have d13 : a.tmps.getD 99 undef = .bool false := hdep 13 (by kernel_rfl) rfl _ rfl
            clear hsz hold hdep
            refine stepR_do rfl (wanted_none rfl) ?_
            refine stepR_val (v := .bool false) (Below.refl _ _) rfl fun K hK => ?_
            go_simp
            exact hK
          · intro a W hc hsz hold hdep
            have o15 : a.tmps.getD 15 undef = .int .i64 0 := hold 15 (by kernel_rfl)
            have g15 : a.tmps.getD 100 undef = .bool false := hdep 14 (by kernel_rfl) rfl _ rfl
            clear hsz hold hdep
            refine stepR_do rfl ((wanted_of (want := false) rfl rfl g15).trans rfl) ?_
            clear g15
            refine stepR_val (v := .int .i64 0) (Below.refl _ _) rfl fun K hK => ?_
            go_simp
            exact hK
          · intro a W hc hsz hold hdep
            have o12 : a.tmps.getD 12 undef = .int .i64 0 := hold 12 (by kernel_rfl)
            have g16 : a.tmps.getD 100 undef = .bool false := hdep 14 (by kernel_rfl) rfl _ rfl
            clear hsz hold hdep
            refine stepR_do rfl ((wanted_of (want := false) rfl rfl g16).trans rfl) ?_
            clear g16
            refine stepR_val (v := .int .i64 0) (Below.refl _ _) rfl fun K hK => ?_
            go_simp
            exact hK
          · intro a W hc hsz hold hdep
            have d15 : a.tmps.getD 101 undef = .int .i64 0 := hdep 15 (by kernel_rfl) rfl _ rfl
            have d16 : a.tmps.getD 102 undef = .int .i64 0 := hdep 16 (by kernel_rfl) rfl _ rfl
            have g17 : a.tmps.getD 100 undef = .bool false := hdep 14 (by kernel_rfl) rfl _ rfl
            clear hsz hold hdep
            refine stepR_do rfl ((wanted_of (want := false) rfl rfl g17).trans rfl) ?_
            clear g17
            refine stepR_val (v := .bool false) (Below.refl _ _) rfl fun K hK => ?_
            go_simp
            exact hK
          · intro a W hc hsz hold hdep
            have d14 : a.tmps.getD 100 undef = .bool false := hdep 14 (by kernel_rfl) rfl _ rfl
            have d17 : a.tmps.getD 103 undef = .bool false := hdep 17 (by kernel_rfl) rfl _ rfl
            clear hsz hold hdep
            refine stepR_do rfl (wanted_none rfl) ?_
            refine stepR_val (v := .bool false) (Below.refl _ _) rfl fun K hK => ?_
            go_simp
            exact hK
          · intro a W hc hsz hold hdep
            have d18 : a.tmps.getD 104 undef = .bool false := hdep 18 (by kernel_rfl) rfl _ rfl
            clear hsz hold hdep
            refine stepR_do rfl (wanted_none rfl) ?_
            refine stepR_val (v := .bool false) (Below.refl _ _) rfl fun K hK => ?_
            go_simp
            exact hK
          · intro a W hc hsz hold hdep
            have o17 : a.tmps.getD 17 undef = .int .i64 0 := hold 17 (by kernel_rfl)
            have g20 : a.tmps.getD 105 undef = .bool false := hdep 19 (by kernel_rfl) rfl _ rfl
            clear hsz hold hdep
            refine stepR_do rfl ((wanted_of (want := false) rfl rfl g20).trans rfl) ?_
            clear g20
            refine stepR_val (v := .int .i64 0) (Below.refl _ _) rfl fun K hK => ?_
            go_simp
            exact hK
          · intro a W hc hsz hold hdep
            have o13 : a.tmps.getD 13 undef = .int .i64 0 := hold 13 (by kernel_rfl)
            have g21 : a.tmps.getD 105 undef = .bool false := hdep 19 (by kernel_rfl) rfl _ rfl
            clear hsz hold hdep
            refine stepR_do rfl ((wanted_of (want := false) rfl rfl g21).trans rfl) ?_
            clear g21
            refine stepR_val (v := .int .i64 0) (Below.refl _ _) rfl fun K hK => ?_
            go_simp
            exact hK
          · intro a W hc hsz hold hdep
            have d20 : a.tmps.getD 106 undef = .int .i64 0 := hdep 20 (by kernel_rfl) rfl _ rfl
            have d21 : a.tmps.getD 107 undef = .int .i64 0 := hdep 21 (by kernel_rfl) rfl _ rfl
            have g22 : a.tmps.getD 105 undef = .bool false := hdep 19 (by kernel_rfl) rfl _ rfl
            clear hsz hold hdep
            refine stepR_do rfl ((wanted_of (want := false) rfl rfl g22).trans rfl) ?_
            clear g22
            refine stepR_val (v := .bool false) (Below.refl _ _) rfl fun K hK => ?_
            go_simp
            exact hK
          · intro a W hc hsz hold hdep
            have d19 : a.tmps.getD 105 undef = .bool false := hdep 19 (by kernel_rfl) rfl _ rfl
            have d22 : a.tmps.getD 108 undef = .bool false := hdep 22 (by kernel_rfl) rfl _ rfl
            clear hsz hold hdep
            refine stepR_do rfl (wanted_none rfl) ?_
            refine stepR_val (v := .bool false) (Below.refl _ _) rfl fun K hK => ?_
            go_simp
            exact hK
          · intro a W hc hsz hold hdep
            have d23 : a.tmps.getD 109 undef = .bool false := hdep 23 (by kernel_rfl) rfl _ rfl
            clear hsz hold hdep
            refine stepR_do rfl (wanted_none rfl) ?_
            refine stepR_val (v := .bool false) (Below.refl _ _) rfl fun K hK => ?_
            go_simp
            exact hK
          · intro a W hc hsz hold hdep
            have o16 : a.tmps.getD 16 undef = .int .i64 2 := hold 16 (by kernel_rfl)
            have g25 : a.tmps.getD 110 undef = .bool false := hdep 24 (by kernel_rfl) rfl _ rfl
            clear hsz hold hdep
            refine stepR_do rfl ((wanted_of (want := false) rfl rfl g25).trans rfl) ?_
            clear g25
            refine stepR_val (v := .int .i64 2) (Below.refl _ _) rfl fun K hK => ?_
            go_simp
            exact hK
          · intro a W hc hsz hold hdep
            have o14 : a.tmps.getD 14 undef = .int .i64 2 := hold 14 (by kernel_rfl)
            have g26 : a.tmps.getD 110 undef = .bool false := hdep 24 (by kernel_rfl) rfl _ rfl
            clear hsz hold hdep
            refine stepR_do rfl ((wanted_of (want := false) rfl rfl g26).trans rfl) ?_
            clear g26
            refine stepR_val (v := .int .i64 2) (Below.refl _ _) rfl fun K hK => ?_
            go_simp
            exact hK
          · intro a W hc hsz hold hdep
            have d25 : a.tmps.getD 111 undef = .int .i64 2 := hdep 25 (by kernel_rfl) rfl _ rfl
            have d26 : a.tmps.getD 112 undef = .int .i64 2 := hdep 26 (by kernel_rfl) rfl _ rfl
            have g27 : a.tmps.getD 110 undef = .bool false := hdep 24 (by kernel_rfl) rfl _ rfl
            clear hsz hold hdep
            refine stepR_do rfl ((wanted_of (want := false) rfl rfl g27).trans rfl) ?_
            clear g27
            refine stepR_val (v := .bool false) (Below.refl _ _) rfl fun K hK => ?_
            go_simp
            exact hK
          · intro a W hc hsz hold hdep
            have d24 : a.tmps.getD 110 undef = .bool false := hdep 24 (by kernel_rfl) rfl _ rfl
            have d27 : a.tmps.getD 113 undef = .bool false := hdep 27 (by kernel_rfl) rfl _ rfl
            clear hsz hold hdep
            refine stepR_do rfl (wanted_none rfl) ?_
            refine stepR_val (v := .bool false) (Below.refl _ _) rfl fun K hK => ?_
            go_simp
            exact hK
          · intro a W hc hsz hold hdep
            have d28 : a.tmps.getD 114 undef = .bool false := hdep 28 (by kernel_rfl) rfl _ rfl
            clear hsz hold hdep
            refine stepR_do rfl (wanted_none rfl) ?_
            refine stepR_val (v := .bool false) (Below.refl _ _) rfl fun K hK => ?_
            go_simp
            exact hK
          · intro a W hc hsz hold hdep
            have o18 : a.tmps.getD 18 undef = .int .i64 2 := hold 18 (by kernel_rfl)
            have g30 : a.tmps.getD 115 undef = .bool false := hdep 29 (by kernel_rfl) rfl _ rfl
            clear hsz hold hdep
            refine stepR_do rfl ((wanted_of (want := false) rfl rfl g30).trans rfl) ?_
            clear g30
            refine stepR_val (v := .int .i64 2) (Below.refl _ _) rfl fun K hK => ?_
            go_simp
            exact hK
          · intro a W hc hsz hold hdep
            have o14 : a.tmps.getD 14 undef = .int .i64 2 := hold 14 (by kernel_rfl)
            have g31 : a.tmps.getD 115 undef = .bool false := hdep 29 (by kernel_rfl) rfl _ rfl
            clear hsz hold hdep
            refine stepR_do rfl ((wanted_of (want := false) rfl rfl g31).trans rfl) ?_
            clear g31
            refine stepR_val (v := .int .i64 2) (Below.refl _ _) rfl fun K hK => ?_
            go_simp
            exact hK
          · intro a W hc hsz hold hdep
            have d30 : a.tmps.getD 116 undef = .int .i64 2 := hdep 30 (by kernel_rfl) rfl _ rfl
            have d31 : a.tmps.getD 117 undef = .int .i64 2 := hdep 31 (by kernel_rfl) rfl _ rfl
            have g32 : a.tmps.getD 115 undef = .bool false := hdep 29 (by kernel_rfl) rfl _ rfl
            clear hsz hold hdep
            refine stepR_do rfl ((wanted_of (want := false) rfl rfl g32).trans rfl) ?_
            clear g32
            refine stepR_val (v := .bool false) (Below.refl _ _) rfl fun K hK => ?_
            go_simp
            exact hK
          · intro a W hc hsz hold hdep
            have d29 : a.tmps.getD 115 undef = .bool false := hdep 29 (by kernel_rfl) rfl _ rfl
            have d32 : a.tmps.getD 118 undef = .bool false := hdep 32 (by kernel_rfl) rfl _ rfl
            clear hsz hold hdep
            refine stepR_do rfl (wanted_none rfl) ?_
            refine stepR_val (v := .bool false) (Below.refl _ _) rfl fun K hK => ?_
            go_simp
            exact hK
          · intro a W hc hsz hold hdep
            have d33 : a.tmps.getD 119 undef = .bool false := hdep 33 (by kernel_rfl) rfl _ rfl
            clear hsz hold hdep
            refine stepR_do rfl (wanted_none rfl) ?_
            refine stepR_val (v := .bool false) (Below.refl _ _) rfl fun K hK => ?_
            go_simp
            exact hK
          · intro a W hc hsz hold hdep
            have o0 : a.tmps.getD 0 undef = .pointer (some ⟨g, 0, none⟩) := hold 0 (by kernel_rfl)
            have g35 : a.tmps.getD 120 undef = .bool false := hdep 34 (by kernel_rfl) rfl _ rfl
            clear hsz hold hdep
            refine stepR_do rfl ((wanted_of (want := false) rfl rfl g35).trans rfl) ?_
            clear g35
            refine stepR_val (v := .pointer (some ⟨g, 0, none⟩)) (Below.refl _ _) rfl fun K hK => ?_
            go_simp
            exact hK
          · intro a W hc hsz hold hdep
            have o5 : a.tmps.getD 5 undef = .int .i64 i := hold 5 (by kernel_rfl)
            have g36 : a.tmps.getD 120 undef = .bool false := hdep 34 (by kernel_rfl) rfl _ rfl
            clear hsz hold hdep
            refine stepR_do rfl ((wanted_of (want := false) rfl rfl g36).trans rfl) ?_
            clear g36
            refine stepR_val (v := .int .i64 i) (Below.refl _ _) rfl fun K hK => ?_
            go_simp
            exact hK
          · intro a W hc hsz hold hdep
            have d35 : a.tmps.getD 121 undef = .pointer (some ⟨g, 0, none⟩) := hdep 35 (by kernel_rfl) rfl _ rfl
            have e35 : a.tmps[121]?.getD undef = .pointer (some ⟨g, 0, none⟩) := by rw [← Array.getD_eq_getD_getElem?]; exact d35
            have d36 : a.tmps.getD 122 undef = .int .i64 i := hdep 36 (by kernel_rfl) rfl _ rfl
            have e36 : a.tmps[122]?.getD undef = .int .i64 i := by rw [← Array.getD_eq_getD_getElem?]; exact d36
            have g37 : a.tmps.getD 120 undef = .bool false := hdep 34 (by kernel_rfl) rfl _ rfl
            clear hsz hold hdep
            refine stepR_do rfl ((wanted_of (want := false) rfl rfl g37).trans rfl) ?_
            have HCC := Lib.hid (HCM.out W hc)
            refine stepR_callx fun K hK => ?_
            clear hc
            go_simp
            refine HCC.out.mono ?_
            rintro e w' ⟨rfl, hb⟩
            exact hK _ _ (hb) rfl
          · intro a W hc hsz hold hdep
            have o3 : a.tmps.getD 3 undef = .pointer (some ⟨b, 0, none⟩) := hold 3 (by kernel_rfl)
            have g38 : a.tmps.getD 120 undef = .bool false := hdep 34 (by kernel_rfl) rfl _ rfl
            have q0 := (HBX.out W hc).cell (i := 0) rfl
            have q1 := (HBX.out W hc).cell (i := 1) rfl
            have q2 := (HBX.out W hc).cell (i := 2) rfl
            have q3 := (HBX.out W hc).cell (i := 3) rfl
            have q4 := (HBX.out W hc).cell (i := 4) rfl
            clear hsz hold hdep
            refine stepR_do rfl ((wanted_of (want := false) rfl rfl g38).trans rfl) ?_
            clear g38
            refine stepR_val (v := .agg #[.int .i64 M.kind, .int .i64 M.endu, .slice aL M.n cL, .slice aS M.scr.length cS, .slice aD M.n cD]) (Below.refl _ _) rfl fun K hK => ?_
            go_simp
            exact hK
          · intro a W hc hsz hold hdep
            have o5 : a.tmps.getD 5 undef = .int .i64 i := hold 5 (by kernel_rfl)
            have g39 : a.tmps.getD 120 undef = .bool false := hdep 34 (by kernel_rfl) rfl _ rfl
            clear hsz hold hdep
            refine stepR_do rfl ((wanted_of (want := false) rfl rfl g39).trans rfl) ?_
            clear g39
            refine stepR_val (v := .int .i64 i) (Below.refl _ _) rfl fun K hK => ?_
            go_simp
            exact hK
          · intro a W hc hsz hold hdep
            have d38 : a.tmps.getD 124 undef = .agg #[.int .i64 M.kind, .int .i64 M.endu, .slice aL M.n cL, .slice aS M.scr.length cS, .slice aD M.n cD] := hdep 38 (by kernel_rfl) rfl _ rfl
            have e38 : a.tmps[124]?.getD undef = .agg #[.int .i64 M.kind, .int .i64 M.endu, .slice aL M.n cL, .slice aS M.scr.length cS, .slice aD M.n cD] := by rw [← Array.getD_eq_getD_getElem?]; exact d38
            have d39 : a.tmps.getD 125 undef = .int .i64 i := hdep 39 (by kernel_rfl) rfl _ rfl
            have e39 : a.tmps[125]?.getD undef = .int .i64 i := by rw [← Array.getD_eq_getD_getElem?]; exact d39
            have g40 : a.tmps.getD 120 undef = .bool false := hdep 34 (by kernel_rfl) rfl _ rfl
            clear hsz hold hdep
            refine stepR_do rfl ((wanted_of (want := false) rfl rfl g40).trans rfl) ?_
            have HCC := Lib.hid (HCR.out W hc)
            refine stepR_callx fun K hK => ?_
            clear hc
            go_simp
            refine HCC.out.mono ?_
            rintro e w' ⟨rfl, hb⟩
            exact hK _ _ (hb) rfl
          · intro a W hc hsz hold hdep
            have d37 : a.tmps.getD 123 undef = .bool cl := hdep 37 (by kernel_rfl) rfl _ rfl
            have d40 : a.tmps.getD 126 undef = .bool cl := hdep 40 (by kernel_rfl) rfl _ rfl
            have g41 : a.tmps.getD 120 undef = .bool false := hdep 34 (by kernel_rfl) rfl _ rfl
            clear hsz hold hdep
            refine stepR_do rfl ((wanted_of (want := false) rfl rfl g41).trans rfl) ?_
            clear g41
            refine stepR_val (v := .bool false) (Below.refl _ _) rfl fun K hK => ?_
            go_simp
            exact hK
          · intro a W hc hsz hold hdep
            have d34 : a.tmps.getD 120 undef = .bool false := hdep 34 (by kernel_rfl) rfl _ rfl
            have d41 : a.tmps.getD 127 undef = .bool false := hdep 41 (by kernel_rfl) rfl _ rfl
            clear hsz hold hdep
            refine stepR_do rfl (wanted_none rfl) ?_
            refine stepR_val (v := .bool false) (Below.refl _ _) rfl fun K hK => ?_
            go_simp
            exact hK
          · intro a W hC hd hsz hold hval
            have d0 : a.tmps.getD 0 undef = .pointer (some ⟨g, 0, none⟩) := hold 0 (by kernel_rfl)
            have d1 : a.tmps.getD 1 undef = v1 := hold 1 (by kernel_rfl)
            have d2 : a.tmps.getD 2 undef = v2 := hold 2 (by kernel_rfl)
            have d3 : a.tmps.getD 3 undef = .pointer (some ⟨b, 0, none⟩) := hold 3 (by kernel_rfl)
            have d5 : a.tmps.getD 5 undef = .int .i64 i := hold 5 (by kernel_rfl)
            have d19 : a.tmps.getD 19 undef = v19 := hold 19 (by kernel_rfl)
            have d20 : a.tmps.getD 20 undef = v20 := hold 20 (by kernel_rfl)
            have d21 : a.tmps.getD 21 undef = v21 := hold 21 (by kernel_rfl)
            have d22 : a.tmps.getD 22 undef = v22 := hold 22 (by kernel_rfl)
            have d23 : a.tmps.getD 23 undef = v23 := hold 23 (by kernel_rfl)
            have d24 : a.tmps.getD 24 undef = v24 := hold 24 (by kernel_rfl)
            have d25 : a.tmps.getD 25 undef = v25 := hold 25 (by kernel_rfl)
            have d26 : a.tmps.getD 26 undef = v26 := hold 26 (by kernel_rfl)
            have d27 : a.tmps.getD 27 undef = v27 := hold 27 (by kernel_rfl)
            have d28 : a.tmps.getD 28 undef = v28 := hold 28 (by kernel_rfl)
            have d29 : a.tmps.getD 29 undef = v29 := hold 29 (by kernel_rfl)
            have d30 : a.tmps.getD 30 undef = v30 := hold 30 (by kernel_rfl)
            have d31 : a.tmps.getD 31 undef = .bool false := hold 31 (by kernel_rfl)
            have d128 : a.tmps.getD 128 undef = .bool false := hval 42 _ rfl rfl
            clear hold
            obtain ⟨tm, df⟩ := a
            replace hd : df = [] := hd
            replace hsz : tm.size = 129 := hsz
            replace d0 : tm.getD 0 undef = .pointer (some ⟨g, 0, none⟩) := d0
            replace d1 : tm.getD 1 undef = v1 := d1
            replace d2 : tm.getD 2 undef = v2 := d2
            replace d3 : tm.getD 3 undef = .pointer (some ⟨b, 0, none⟩) := d3
            replace d5 : tm.getD 5 undef = .int .i64 i := d5
            replace d19 : tm.getD 19 undef = v19 := d19
            replace d20 : tm.getD 20 undef = v20 := d20
            replace d21 : tm.getD 21 undef = v21 := d21
            replace d22 : tm.getD 22 undef = v22 := d22
            replace d23 : tm.getD 23 undef = v23 := d23
            replace d24 : tm.getD 24 undef = v24 := d24
            replace d25 : tm.getD 25 undef = v25 := d25
            replace d26 : tm.getD 26 undef = v26 := d26
            replace d27 : tm.getD 27 undef = v27 := d27
            replace d28 : tm.getD 28 undef = v28 := d28
            replace d29 : tm.getD 29 undef = v29 := d29
            replace d30 : tm.getD 30 undef = v30 := d30
            replace d31 : tm.getD 31 undef = .bool false := d31
            replace d128 : tm.getD 128 undef = .bool false := d128
            subst hd
            have e : tm = List.toArray (tm.getD 0 undef :: tm.getD 1 undef :: tm.getD 2 undef :: tm.getD 3 undef :: tm.getD 4 undef :: tm.getD 5 undef :: tm.getD 6 undef :: tm.getD 7 undef :: tm.getD 8 undef :: tm.getD 9 undef :: tm.getD 10 undef :: tm.getD 11 undef :: tm.getD 12 undef :: tm.getD 13 undef :: tm.getD 14 undef :: tm.getD 15 undef :: tm.getD 16 undef :: tm.getD 17 undef :: tm.getD 18 undef :: tm.getD 19 undef :: tm.getD 20 undef :: tm.getD 21 undef :: tm.getD 22 undef :: tm.getD 23 undef :: tm.getD 24 undef :: tm.getD 25 undef :: tm.getD 26 undef :: tm.getD 27 undef :: tm.getD 28 undef :: tm.getD 29 undef :: tm.getD 30 undef :: tm.getD 31 undef :: tm.getD 32 undef :: tm.getD 33 undef :: tm.getD 34 undef :: tm.getD 35 undef :: tm.getD 36 undef :: tm.getD 37 undef :: tm.getD 38 undef :: tm.getD 39 undef :: tm.getD 40 undef :: tm.getD 41 undef :: tm.getD 42 undef :: tm.getD 43 undef :: tm.getD 44 undef :: tm.getD 45 undef :: tm.getD 46 undef :: tm.getD 47 undef :: tm.getD 48 undef :: tm.getD 49 undef :: tm.getD 50 undef :: tm.getD 51 undef :: tm.getD 52 undef :: tm.getD 53 undef :: tm.getD 54 undef :: tm.getD 55 undef :: tm.getD 56 undef :: tm.getD 57 undef :: tm.getD 58 undef :: tm.getD 59 undef :: tm.getD 60 undef :: tm.getD 61 undef :: tm.getD 62 undef :: tm.getD 63 undef :: tm.getD 64 undef :: tm.getD 65 undef :: tm.getD 66 undef :: tm.getD 67 undef :: tm.getD 68 undef :: tm.getD 69 undef :: tm.getD 70 undef :: tm.getD 71 undef :: tm.getD 72 undef :: tm.getD 73 undef :: tm.getD 74 undef :: tm.getD 75 undef :: tm.getD 76 undef :: tm.getD 77 undef :: tm.getD 78 undef :: tm.getD 79 undef :: tm.getD 80 undef :: tm.getD 81 undef :: tm.getD 82 undef :: tm.getD 83 undef :: tm.getD 84 undef :: tm.getD 85 undef :: tm.getD 86 undef :: tm.getD 87 undef :: tm.getD 88 undef :: tm.getD 89 undef :: tm.getD 90 undef :: tm.getD 91 undef :: tm.getD 92 undef :: tm.getD 93 undef :: tm.getD 94 undef :: tm.getD 95 undef :: tm.getD 96 undef :: tm.getD 97 undef :: tm.getD 98 undef :: tm.getD 99 undef :: tm.getD 100 undef :: tm.getD 101 undef :: tm.getD 102 undef :: tm.getD 103 undef :: tm.getD 104 undef :: tm.getD 105 undef :: tm.getD 106 undef :: tm.getD 107 undef :: tm.getD 108 undef :: tm.getD 109 undef :: tm.getD 110 undef :: tm.getD 111 undef :: tm.getD 112 undef :: tm.getD 113 undef :: tm.getD 114 undef :: tm.getD 115 undef :: tm.getD 116 undef :: tm.getD 117 undef :: tm.getD 118 undef :: tm.getD 119 undef :: tm.getD 120 undef :: tm.getD 121 undef :: tm.getD 122 undef :: tm.getD 123 undef :: tm.getD 124 undef :: tm.getD 125 undef :: tm.getD 126 undef :: tm.getD 127 undef :: tm.getD 128 undef :: []) := arr_eq tm 129 hsz
            rw [d0, d1, d2, d3, d5, d19, d20, d21, d22, d23, d24, d25, d26, d27, d28, d29, d30, d31, d128] at e
            clear d0 d1 d2 d3 d5 d19 d20 d21 d22 d23 d24 d25 d26 d27 d28 d29 d30 d31 d128 hsz
            generalize tm.getD 4 undef = v4 at e
            generalize tm.getD 6 undef = v6 at e
            generalize tm.getD 7 undef = v7 at e
            generalize tm.getD 8 undef = v8 at e
            generalize tm.getD 9 undef = v9 at e
            generalize tm.getD 10 undef = v10 at e
            generalize tm.getD 11 undef = v11 at e
            generalize tm.getD 12 undef = v12 at e
            generalize tm.getD 13 undef = v13 at e
            generalize tm.getD 14 undef = v14 at e
            generalize tm.getD 15 undef = v15 at e
            generalize tm.getD 16 undef = v16 at e
            generalize tm.getD 17 undef = v17 at e
            generalize tm.getD 18 undef = v18 at e
            generalize tm.getD 32 undef = v32 at e
            generalize tm.getD 33 undef = v33 at e
            generalize tm.getD 34 undef = v34 at e
            generalize tm.getD 35 undef = v35 at e
            generalize tm.getD 36 undef = v36 at e
            generalize tm.getD 37 undef = v37 at e
            generalize tm.getD 38 undef = v38 at e
            generalize tm.getD 39 undef = v39 at e
            generalize tm.getD 40 undef = v40 at e
            generalize tm.getD 41 undef = v41 at e
            generalize tm.getD 42 undef = v42 at e
            generalize tm.getD 43 undef = v43 at e
            generalize tm.getD 44 undef = v44 at e
            generalize tm.getD 45 undef = v45 at e
            generalize tm.getD 46 undef = v46 at e
            generalize tm.getD 47 undef = v47 at e
            generalize tm.getD 48 undef = v48 at e
            generalize tm.getD 49 undef = v49 at e
            generalize tm.getD 50 undef = v50 at e
            generalize tm.getD 51 undef = v51 at e
            generalize tm.getD 52 undef = v52 at e
            generalize tm.getD 53 undef = v53 at e
            generalize tm.getD 54 undef = v54 at e
            generalize tm.getD 55 undef = v55 at e
            generalize tm.getD 56 undef = v56 at e
            generalize tm.getD 57 undef = v57 at e
            generalize tm.getD 58 undef = v58 at e
            generalize tm.getD 59 undef = v59 at e
            generalize tm.getD 60 undef = v60 at e
            generalize tm.getD 61 undef = v61 at e
            generalize tm.getD 62 undef = v62 at e
            generalize tm.getD 63 undef = v63 at e
            generalize tm.getD 64 undef = v64 at e
            generalize tm.getD 65 undef = v65 at e
            generalize tm.getD 66 undef = v66 at e
            generalize tm.getD 67 undef = v67 at e
            generalize tm.getD 68 undef = v68 at e
            generalize tm.getD 69 undef = v69 at e
            generalize tm.getD 70 undef = v70 at e
            generalize tm.getD 71 undef = v71 at e
            generalize tm.getD 72 undef = v72 at e
            generalize tm.getD 73 undef = v73 at e
            generalize tm.getD 74 undef = v74 at e
            generalize tm.getD 75 undef = v75 at e
            generalize tm.getD 76 undef = v76 at e
            generalize tm.getD 77 undef = v77 at e
            generalize tm.getD 78 undef = v78 at e
            generalize tm.getD 79 undef = v79 at e
            generalize tm.getD 80 undef = v80 at e
            generalize tm.getD 81 undef = v81 at e
            generalize tm.getD 82 undef = v82 at e
            generalize tm.getD 83 undef = v83 at e
            generalize tm.getD 84 undef = v84 at e
            generalize tm.getD 85 undef = v85 at e
            generalize tm.getD 86 undef = v86 at e
            generalize tm.getD 87 undef = v87 at e
            generalize tm.getD 88 undef = v88 at e
            generalize tm.getD 89 undef = v89 at e
            generalize tm.getD 90 undef = v90 at e
            generalize tm.getD 91 undef = v91 at e
            generalize tm.getD 92 undef = v92 at e
            generalize tm.getD 93 undef = v93 at e
            generalize tm.getD 94 undef = v94 at e
            generalize tm.getD 95 undef = v95 at e
            generalize tm.getD 96 undef = v96 at e
            generalize tm.getD 97 undef = v97 at e
            generalize tm.getD 98 undef = v98 at e
            generalize tm.getD 99 undef = v99 at e
            generalize tm.getD 100 undef = v100 at e
            generalize tm.getD 101 undef = v101 at e
            generalize tm.getD 102 undef = v102 at e
            generalize tm.getD 103 undef = v103 at e
            generalize tm.getD 104 undef = v104 at e
            generalize tm.getD 105 undef = v105 at e
            generalize tm.getD 106 undef = v106 at e
            generalize tm.getD 107 undef = v107 at e
            generalize tm.getD 108 undef = v108 at e
            generalize tm.getD 109 undef = v109 at e
            generalize tm.getD 110 undef = v110 at e
            generalize tm.getD 111 undef = v111 at e
            generalize tm.getD 112 undef = v112 at e
            generalize tm.getD 113 undef = v113 at e
            generalize tm.getD 114 undef = v114 at e
            generalize tm.getD 115 undef = v115 at e
            generalize tm.getD 116 undef = v116 at e
            generalize tm.getD 117 undef = v117 at e
            generalize tm.getD 118 undef = v118 at e
            generalize tm.getD 119 undef = v119 at e
            generalize tm.getD 120 undef = v120 at e
            generalize tm.getD 121 undef = v121 at e
            generalize tm.getD 122 undef = v122 at e
            generalize tm.getD 123 undef = v123 at e
            generalize tm.getD 124 undef = v124 at e
            generalize tm.getD 125 undef = v125 at e
            generalize tm.getD 126 undef = v126 at e
            generalize tm.getD 127 undef = v127 at e
            subst e
            have HC6 := Lib.hid (HB6.out.trans (hC.mono HB6.out.size))
            clear hC hval
            go_wp2_with fail
            go_roundw
            case rel => exact ⟨i + 1, by omega, by omega, by go_num, HC6.out⟩
            case measure => simp [RowKit.intOf]; omega
        by_cases hin : i < (M.n : Int)
        · obtain ⟨k, rfl⟩ : ∃ k : Nat, i = k := ⟨i.toNat, by omega⟩
          have hk : k < M.n := by omega
          have hst : M.stateR (k : Int) = (((M.sec k).st : Int), 0) := by unfold Med.stateR; rw [if_pos ⟨by omega, by omega⟩, Int.toNat_natCast]
          have hct : M.countR (k : Int) = (((M.sec k).cnt : Int), 0) := by unfold Med.countR; rw [if_pos ⟨by omega, by omega⟩, Int.toNat_natCast]
          rw [hst] at HST
          rw [hct] at HCT
          have hre := HRE.out _ HB4.out
          obtain ⟨bl, off, hcell⟩ := RdD.at hre.l
          obtain ⟨ha, hrg⟩ := hcell k (by rw [HSS.out]; exact hk)
          have hix := fun w' => run_idxS Try.underlying56 Try.sizeRS (cap := cL) ha hk (k : Int) rfl w'
          have hsy := Med.sec_map hre.e k
          have x0 := hrg 0 _ rfl
          have x1 := hrg 1 _ rfl
          simp only [Nat.add_zero] at x0
          rw [← hsy] at x0 x1
          have hwq := HSE.out k hk
          have hsb1 := hwq.st
          have hsb2 := hwq.cnt
          obtain ⟨st, hstn⟩ : ∃ st : Int, st = ((M.sec k).st : Int) := ⟨_, rfl⟩
          obtain ⟨cn, hcnn⟩ : ∃ cn : Int, cn = ((M.sec k).cnt : Int) := ⟨_, rfl⟩
          rw [← hstn] at x0 HST
          rw [← hcnn] at x1 HCT
          have hg0 : decide ((0 : Int) ≤ (k : Int)) = true := decide_eq_true (by omega)
          have hg1 : decide ((k : Int) < (M.n : Int)) = true := decide_eq_true (by omega)
          have hg2 : decide (k < M.n) = true := decide_eq_true hk
          clear hst hct hre hcell ha hrg hsy hwq hstn hcnn
          go_wp2_with fail
          go_quiet (fail)
          have HB5 := Lib.hid (Below.drewN HB4.out nq)
          have H45 := Lib.hid (Below.drewN (Below.refl w4.heap.size w4) nq)
          generalize w4.drewN nq = w5 at *
          go_wp2_with fail
          refine (HST.out _ HB5.out).mono ?_
          rintro e wa ⟨rfl, hba⟩
          have HBa := Lib.hid (HB5.out.trans (hba.mono HB5.out.size))
          have H4a := Lib.hid (H45.out.trans (hba.mono H45.out.size))
          clear hba
          go_wp2_with fail
          refine (HCT.out _ HBa.out).mono ?_
          rintro e w6 ⟨rfl, hb6⟩
          have HB6 := Lib.hid (HBa.out.trans (hb6.mono HBa.out.size))
          have H46 := Lib.hid (H4a.out.trans (hb6.mono H4a.out.size))
          clear hb6
          have HEQ : Hid (∀ W, Below w6.heap.size w6 W → Calls Try.prog 16 #[.slice a7 rl.length c7, .slice a8 rl.length c8] W fun e w' => e = .returned (.bool true) ∧ Below W.heap.size W w') := Lib.hid fun W hW => by
            have hb := H46.out.trans (hW.mono H46.out.size)
            have hq := equal12 (HR7.out.keep hb) (HR8.out.keep hb)
            rwa [decide_eq_true rfl] at hq
          have HCM := Lib.hid (fun W (hW : Below w6.heap.size w6 W) => HCMr.out W (HB6.out.trans (hW.mono HB6.out.size)))
          have HCR := Lib.hid (fun W (hW : Below w6.heap.size w6 W) => HCRr.out W (HB6.out.trans (hW.mono HB6.out.size)))
          have HBX2 := HBX
          replace HBX := Lib.hid (fun W (hW : Below w6.heap.size w6 W) => HBX2.out W (HB6.out.trans (hW.mono HB6.out.size)))
          unfold CleanP at HCM HCR
          obtain ⟨l7, hl7⟩ : ∃ l7, l7 = rl.length := ⟨_, rfl⟩
          rw [← hl7] at HEQ
          rw [← hl7]
          clear hl7
          go_upto_region 13 with (fail)
          refine wp_region_inr (by kernel_rfl) (fun w W => Below w.heap.size w W) (fun W => Below w6.heap.size w6 W) (smbV g b l7 c7 c8 M aL aS aD a7 a8 cL cS cD s rc st cn 0 (k : Int) cl) (fun _ => false) (by kernel_rfl) (fun _ _ hR hc => hc.trans (hR.mono hc.size)) (smbV_keep g b l7 c7 c8 M aL aS aD a7 a8 cL cS cD s rc st cn 0 (k : Int) cl) ((Below.refl _ _).drew) ⟨?_, ?_, ?_, ?_, ?_, ?_, ?_, ?_, ?_, ?_, ?_, ?_, ?_, ?_, ?_, ?_, ?_, ?_, ?_, ?_, ?_, ?_, ?_, ?_, ?_, ?_, ?_, ?_, ?_, ?_, ?_, ?_, ?_, ?_, ?_, ?_, ?_, ?_, ?_, ?_, ?_, ?_, ?_, trivial⟩ ?_
          · intro a W hc hsz hold hdep
            have o6 : a.tmps.getD 6 undef = .string s := hold 6 (by kernel_rfl)
            clear hsz hold hdep
            refine stepR_do rfl (wanted_none rfl) ?_
            refine stepR_val (v := .string s) (Below.refl _ _) rfl fun K hK => ?_
            go_simp
            exact hK
          · intro a W hc hsz hold hdep
            have o9 : a.tmps.getD 9 undef = .string s := hold 9 (by kernel_rfl)
            clear hsz hold hdep
            refine stepR_do rfl (wanted_none rfl) ?_
            refine stepR_val (v := .string s) (Below.refl _ _) rfl fun K hK => ?_
            go_simp
            exact hK
          · intro a W hc hsz hold hdep
            have d0 : a.tmps.getD 86 undef = .string s := hdep 0 (by kernel_rfl) rfl _ rfl
            have d1 : a.tmps.getD 87 undef = .string s := hdep 1 (by kernel_rfl) rfl _ rfl
            clear hsz hold hdep
            refine stepR_do rfl (wanted_none rfl) ?_
            refine stepR_val (v := .bool false) (Below.refl _ _) rfl fun K hK => ?_
            go_simp
            exact hK
          · intro a W hc hsz hold hdep
            have d2 : a.tmps.getD 88 undef = .bool false := hdep 2 (by kernel_rfl) rfl _ rfl
            clear hsz hold hdep
            refine stepR_do rfl (wanted_none rfl) ?_
            refine stepR_val (v := .bool false) (Below.refl _ _) rfl fun K hK => ?_
            go_simp
            exact hK
          · intro a W hc hsz hold hdep
            have o7 : a.tmps.getD 7 undef = .slice a7 l7 c7 := hold 7 (by kernel_rfl)
            have g4 : a.tmps.getD 89 undef = .bool false := hdep 3 (by kernel_rfl) rfl _ rfl
            clear hsz hold hdep
            refine stepR_do rfl ((wanted_of (want := false) rfl rfl g4).trans rfl) ?_
            clear g4
            refine stepR_val (v := .slice a7 l7 c7) (Below.refl _ _) rfl fun K hK => ?_
            go_simp
            exact hK
          · intro a W hc hsz hold hdep
            have o10 : a.tmps.getD 10 undef = .slice a8 l7 c8 := hold 10 (by kernel_rfl)
            have g5 : a.tmps.getD 89 undef = .bool false := hdep 3 (by kernel_rfl) rfl _ rfl
            clear hsz hold hdep
            refine stepR_do rfl ((wanted_of (want := false) rfl rfl g5).trans rfl) ?_
            clear g5
            refine stepR_val (v := .slice a8 l7 c8) (Below.refl _ _) rfl fun K hK => ?_
            go_simp
            exact hK
          · intro a W hc hsz hold hdep
            have d4 : a.tmps.getD 90 undef = .slice a7 l7 c7 := hdep 4 (by kernel_rfl) rfl _ rfl
            have e4 : a.tmps[90]?.getD undef = .slice a7 l7 c7 := by rw [← Array.getD_eq_getD_getElem?]; exact d4
            have d5 : a.tmps.getD 91 undef = .slice a8 l7 c8 := hdep 5 (by kernel_rfl) rfl _ rfl
            have e5 : a.tmps[91]?.getD undef = .slice a8 l7 c8 := by rw [← Array.getD_eq_getD_getElem?]; exact d5
            have g6 : a.tmps.getD 89 undef = .bool false := hdep 3 (by kernel_rfl) rfl _ rfl
            clear hsz hold hdep
            refine stepR_do rfl ((wanted_of (want := false) rfl rfl g6).trans rfl) ?_
            have HCC := Lib.hid (HEQ.out W hc)
            refine stepR_callx fun K hK => ?_
            clear hc
            go_simp
            refine HCC.out.mono ?_
            rintro e w' ⟨rfl, hb⟩
            exact hK _ _ (hb) rfl
          · intro a W hc hsz hold hdep
            have d6 : a.tmps.getD 92 undef = .bool true := hdep 6 (by kernel_rfl) rfl _ rfl
            have g7 : a.tmps.getD 89 undef = .bool false := hdep 3 (by kernel_rfl) rfl _ rfl
            clear hsz hold hdep
            refine stepR_do rfl ((wanted_of (want := false) rfl rfl g7).trans rfl) ?_
            clear g7
            refine stepR_val (v := .bool false) (Below.refl _ _) rfl fun K hK => ?_
            go_simp
            exact hK
          · intro a W hc hsz hold hdep
            have d3 : a.tmps.getD 89 undef = .bool false := hdep 3 (by kernel_rfl) rfl _ rfl
            have d7 : a.tmps.getD 93 undef = .bool false := hdep 7 (by kernel_rfl) rfl _ rfl
            clear hsz hold hdep
            refine stepR_do rfl (wanted_none rfl) ?_
            refine stepR_val (v := .bool false) (Below.refl _ _) rfl fun K hK => ?_
            go_simp
            exact hK
          · intro a W hc hsz hold hdep
            have d8 : a.tmps.getD 94 undef = .bool false := hdep 8 (by kernel_rfl) rfl _ rfl
            clear hsz hold hdep
            refine stepR_do rfl (wanted_none rfl) ?_
            refine stepR_val (v := .bool false) (Below.refl _ _) rfl fun K hK => ?_
            go_simp
            exact hK
          · intro a W hc hsz hold hdep
            have o8 : a.tmps.getD 8 undef = .int .i64 rc := hold 8 (by kernel_rfl)
            have g10 : a.tmps.getD 95 undef = .bool false := hdep 9 (by kernel_rfl) rfl _ rfl
            clear hsz hold hdep
            refine stepR_do rfl ((wanted_of (want := false) rfl rfl g10).trans rfl) ?_
            clear g10
            refine stepR_val (v := .int .i64 rc) (Below.refl _ _) rfl fun K hK => ?_
            go_simp
            exact hK
          · intro a W hc hsz hold hdep
            have o11 : a.tmps.getD 11 undef = .int .i64 rc := hold 11 (by kernel_rfl)
            have g11 : a.tmps.getD 95 undef = .bool false := hdep 9 (by kernel_rfl) rfl _ rfl
            clear hsz hold hdep
            refine stepR_do rfl ((wanted_of (want := false) rfl rfl g11).trans rfl) ?_
            clear g11
            refine stepR_val (v := .int .i64 rc) (Below.refl _ _) rfl fun K hK => ?_
            go_simp
            exact hK
          · intro a W hc hsz hold hdep
            have d10 : a.tmps.getD 96 undef = .int .i64 rc := hdep 10 (by kernel_rfl) rfl _ rfl
            have d11 : a.tmps.getD 97 undef = .int .i64 rc := hdep 11 (by kernel_rfl) rfl _ rfl
            have g12 : a.tmps.getD 95 undef = .bool false := hdep 9 (by kernel_rfl) rfl _ rfl
            clear hsz hold hdep
            refine stepR_do rfl ((wanted_of (want := false) rfl rfl g12).trans rfl) ?_
            clear g12
            refine stepR_val (v := .bool false) (Below.refl _ _) rfl fun K hK => ?_
            go_simp
            exact hK
          · intro a W hc hsz hold hdep
            have d9 : a.tmps.getD 95 undef = .bool false := hdep 9 (by kernel_rfl) rfl _ rfl
            have d12 : a.tmps.getD 98 undef = .bool false := hdep 12 (by kernel_rfl) rfl _ rfl
            clear hsz hold hdep
            refine stepR_do rfl (wanted_none rfl) ?_
            refine stepR_val (v := .bool false) (Below.refl _ _) rfl fun K hK => ?_
            go_simp
            exact hK
          · intro a W hc hsz hold hdep
            have d13 : a.tmps.getD 99 undef = .bool false := hdep 13 (by kernel_rfl) rfl _ rfl
            clear hsz hold hdep
            refine stepR_do rfl (wanted_none rfl) ?_
            refine stepR_val (v := .bool false) (Below.refl _ _) rfl fun K hK => ?_
            go_simp
            exact hK
          · intro a W hc hsz hold hdep
            have o15 : a.tmps.getD 15 undef = .int .i64 st := hold 15 (by kernel_rfl)
            have g15 : a.tmps.getD 100 undef = .bool false := hdep 14 (by kernel_rfl) rfl _ rfl
            clear hsz hold hdep
            refine stepR_do rfl ((wanted_of (want := false) rfl rfl g15).trans rfl) ?_
            clear g15
            refine stepR_val (v := .int .i64 st) (Below.refl _ _) rfl fun K hK => ?_
            go_simp
            exact hK
          · intro a W hc hsz hold hdep
            have o12 : a.tmps.getD 12 undef = .int .i64 st := hold 12 (by kernel_rfl)
            have g16 : a.tmps.getD 100 undef = .bool false := hdep 14 (by kernel_rfl) rfl _ rfl
            clear hsz hold hdep
            refine stepR_do rfl ((wanted_of (want := false) rfl rfl g16).trans rfl) ?_
            clear g16
            refine stepR_val (v := .int .i64 st) (Below.refl _ _) rfl fun K hK => ?_
            go_simp
            exact hK
          · intro a W hc hsz hold hdep
            have d15 : a.tmps.getD 101 undef = .int .i64 st := hdep 15 (by kernel_rfl) rfl _ rfl
            have d16 : a.tmps.getD 102 undef = .int .i64 st := hdep 16 (by kernel_rfl) rfl _ rfl
            have g17 : a.tmps.getD 100 undef = .bool false := hdep 14 (by kernel_rfl) rfl _ rfl
            clear hsz hold hdep
            refine stepR_do rfl ((wanted_of (want := false) rfl rfl g17).trans rfl) ?_
            clear g17
            refine stepR_val (v := .bool false) (Below.refl _ _) rfl fun K hK => ?_
            go_simp
            exact hK
          · intro a W hc hsz hold hdep
            have d14 : a.tmps.getD 100 undef = .bool false := hdep 14 (by kernel_rfl) rfl _ rfl
            have d17 : a.tmps.getD 103 undef = .bool false := hdep 17 (by kernel_rfl) rfl _ rfl
            clear hsz hold hdep
            refine stepR_do rfl (wanted_none rfl) ?_
            refine stepR_val (v := .bool false) (Below.refl _ _) rfl fun K hK => ?_
            go_simp
            exact hK
          · intro a W hc hsz hold hdep
            have d18 : a.tmps.getD 104 undef = .bool false := hdep 18 (by kernel_rfl) rfl _ rfl
            clear hsz hold hdep
            refine stepR_do rfl (wanted_none rfl) ?_
            refine stepR_val (v := .bool false) (Below.refl _ _) rfl fun K hK => ?_
            go_simp
            exact hK
          · intro a W hc hsz hold hdep
            have o17 : a.tmps.getD 17 undef = .int .i64 cn := hold 17 (by kernel_rfl)
            have g20 : a.tmps.getD 105 undef = .bool false := hdep 19 (by kernel_rfl) rfl _ rfl
            clear hsz hold hdep
            refine stepR_do rfl ((wanted_of (want := false) rfl rfl g20).trans rfl) ?_
            clear g20
            refine stepR_val (v := .int .i64 cn) (Below.refl _ _) rfl fun K hK => ?_
            go_simp
            exact hK
          · intro a W hc hsz hold hdep
            have o13 : a.tmps.getD 13 undef = .int .i64 cn := hold 13 (by kernel_rfl)
            have g21 : a.tmps.getD 105 undef = .bool false := hdep 19 (by kernel_rfl) rfl _ rfl
            clear hsz hold hdep
            refine stepR_do rfl ((wanted_of (want := false) rfl rfl g21).trans rfl) ?_
            clear g21
            refine stepR_val (v := .int .i64 cn) (Below.refl _ _) rfl fun K hK => ?_
            go_simp
            exact hK
          · intro a W hc hsz hold hdep
            have d20 : a.tmps.getD 106 undef = .int .i64 cn := hdep 20 (by kernel_rfl) rfl _ rfl
            have d21 : a.tmps.getD 107 undef = .int .i64 cn := hdep 21 (by kernel_rfl) rfl _ rfl
            have g22 : a.tmps.getD 105 undef = .bool false := hdep 19 (by kernel_rfl) rfl _ rfl
            clear hsz hold hdep
            refine stepR_do rfl ((wanted_of (want := false) rfl rfl g22).trans rfl) ?_
            clear g22
            refine stepR_val (v := .bool false) (Below.refl _ _) rfl fun K hK => ?_
            go_simp
            exact hK
          · intro a W hc hsz hold hdep
            have d19 : a.tmps.getD 105 undef = .bool false := hdep 19 (by kernel_rfl) rfl _ rfl
            have d22 : a.tmps.getD 108 undef = .bool false := hdep 22 (by kernel_rfl) rfl _ rfl
            clear hsz hold hdep
            refine stepR_do rfl (wanted_none rfl) ?_
            refine stepR_val (v := .bool false) (Below.refl _ _) rfl fun K hK => ?_
            go_simp
            exact hK
          · intro a W hc hsz hold hdep
            have d23 : a.tmps.getD 109 undef = .bool false := hdep 23 (by kernel_rfl) rfl _ rfl
            clear hsz hold hdep
            refine stepR_do rfl (wanted_none rfl) ?_
            refine stepR_val (v := .bool false) (Below.refl _ _) rfl fun K hK => ?_
            go_simp
            exact hK
          · intro a W hc hsz hold hdep
            have o16 : a.tmps.getD 16 undef = .int .i64 0 := hold 16 (by kernel_rfl)
            have g25 : a.tmps.getD 110 undef = .bool false := hdep 24 (by kernel_rfl) rfl _ rfl
            clear hsz hold hdep
            refine stepR_do rfl ((wanted_of (want := false) rfl rfl g25).trans rfl) ?_
            clear g25
            refine stepR_val (v := .int .i64 0) (Below.refl _ _) rfl fun K hK => ?_
            go_simp
            exact hK
          · intro a W hc hsz hold hdep
            have o14 : a.tmps.getD 14 undef = .int .i64 0 := hold 14 (by kernel_rfl)
            have g26 : a.tmps.getD 110 undef = .bool false := hdep 24 (by kernel_rfl) rfl _ rfl
            clear hsz hold hdep
            refine stepR_do rfl ((wanted_of (want := false) rfl rfl g26).trans rfl) ?_
            clear g26
            refine stepR_val (v := .int .i64 0) (Below.refl _ _) rfl fun K hK => ?_
            go_simp
            exact hK
          · intro a W hc hsz hold hdep
            have d25 : a.tmps.getD 111 undef = .int .i64 0 := hdep 25 (by kernel_rfl) rfl _ rfl
            have d26 : a.tmps.getD 112 undef = .int .i64 0 := hdep 26 (by kernel_rfl) rfl _ rfl
            have g27 : a.tmps.getD 110 undef = .bool false := hdep 24 (by kernel_rfl) rfl _ rfl
            clear hsz hold hdep
            refine stepR_do rfl ((wanted_of (want := false) rfl rfl g27).trans rfl) ?_
            clear g27
            refine stepR_val (v := .bool false) (Below.refl _ _) rfl fun K hK => ?_
            go_simp
            exact hK
          · intro a W hc hsz hold hdep
            have d24 : a.tmps.getD 110 undef = .bool false := hdep 24 (by kernel_rfl) rfl _ rfl
            have d27 : a.tmps.getD 113 undef = .bool false := hdep 27 (by kernel_rfl) rfl _ rfl
            clear hsz hold hdep
            refine stepR_do rfl (wanted_none rfl) ?_
            refine stepR_val (v := .bool false) (Below.refl _ _) rfl fun K hK => ?_
            go_simp
            exact hK
          · intro a W hc hsz hold hdep
            have d28 : a.tmps.getD 114 undef = .bool false := hdep 28 (by kernel_rfl) rfl _ rfl
            clear hsz hold hdep
            refine stepR_do rfl (wanted_none rfl) ?_
            refine stepR_val (v := .bool false) (Below.refl _ _) rfl fun K hK => ?_
            go_simp
            exact hK
          · intro a W hc hsz hold hdep
            have o18 : a.tmps.getD 18 undef = .int .i64 0 := hold 18 (by kernel_rfl)
            have g30 : a.tmps.getD 115 undef = .bool false := hdep 29 (by kernel_rfl) rfl _ rfl
            clear hsz hold hdep
            refine stepR_do rfl ((wanted_of (want := false) rfl rfl g30).trans rfl) ?_
            clear g30
            refine stepR_val (v := .int .i64 0) (Below.refl _ _) rfl fun K hK => ?_
            go_simp
            exact hK
          · intro a W hc hsz hold hdep
            have o14 : a.tmps.getD 14 undef = .int .i64 0 := hold 14 (by kernel_rfl)
            have g31 : a.tmps.getD 115 undef = .bool false := hdep 29 (by kernel_rfl) rfl _ rfl
            clear hsz hold hdep
            refine stepR_do rfl ((wanted_of (want := false) rfl rfl g31).trans rfl) ?_
            clear g31
            refine stepR_val (v := .int .i64 0) (Below.refl _ _) rfl fun K hK => ?_
            go_simp
            exact hK
          · intro a W hc hsz hold hdep
            have d30 : a.tmps.getD 116 undef = .int .i64 0 := hdep 30 (by kernel_rfl) rfl _ rfl
            have d31 : a.tmps.getD 117 undef = .int .i64 0 := hdep 31 (by kernel_rfl) rfl _ rfl
            have g32 : a.tmps.getD 115 undef = .bool false := hdep 29 (by kernel_rfl) rfl _ rfl
            clear hsz hold hdep
            refine stepR_do rfl ((wanted_of (want := false) rfl rfl g32).trans rfl) ?_
            clear g32
            refine stepR_val (v := .bool false) (Below.refl _ _) rfl fun K hK => ?_
            go_simp
            exact hK
          · intro a W hc hsz hold hdep
            have d29 : a.tmps.getD 115 undef = .bool false := hdep 29 (by kernel_rfl) rfl _ rfl
            have d32 : a.tmps.getD 118 undef = .bool false := hdep 32 (by kernel_rfl) rfl _ rfl
            clear hsz hold hdep
            refine stepR_do rfl (wanted_none rfl) ?_
            refine stepR_val (v := .bool false) (Below.refl _ _) rfl fun K hK => ?_
            go_simp
            exact hK
          · intro a W hc hsz hold hdep
            have d33 : a.tmps.getD 119 undef = .bool false := hdep 33 (by kernel_rfl) rfl _ rfl
            clear hsz hold hdep
            refine stepR_do rfl (wanted_none rfl) ?_
            refine stepR_val (v := .bool false) (Below.refl _ _) rfl fun K hK => ?_
            go_simp
            exact hK
          · intro a W hc hsz hold hdep
            have o0 : a.tmps.getD 0 undef = .pointer (some ⟨g, 0, none⟩) := hold 0 (by kernel_rfl)
            have g35 : a.tmps.getD 120 undef = .bool false := hdep 34 (by kernel_rfl) rfl _ rfl
            clear hsz hold hdep
            refine stepR_do rfl ((wanted_of (want := false) rfl rfl g35).trans rfl) ?_
            clear g35
            refine stepR_val (v := .pointer (some ⟨g, 0, none⟩)) (Below.refl _ _) rfl fun K hK => ?_
            go_simp
            exact hK
          · intro a W hc hsz hold hdep
            have o5 : a.tmps.getD 5 undef = .int .i64 (k : Int) := hold 5 (by kernel_rfl)
            have g36 : a.tmps.getD 120 undef = .bool false := hdep 34 (by kernel_rfl) rfl _ rfl
            clear hsz hold hdep
            refine stepR_do rfl ((wanted_of (want := false) rfl rfl g36).trans rfl) ?_
            clear g36
            refine stepR_val (v := .int .i64 (k : Int)) (Below.refl _ _) rfl fun K hK => ?_
            go_simp
            exact hK
          · intro a W hc hsz hold hdep
            have d35 : a.tmps.getD 121 undef = .pointer (some ⟨g, 0, none⟩) := hdep 35 (by kernel_rfl) rfl _ rfl
            have e35 : a.tmps[121]?.getD undef = .pointer (some ⟨g, 0, none⟩) := by rw [← Array.getD_eq_getD_getElem?]; exact d35
            have d36 : a.tmps.getD 122 undef = .int .i64 (k : Int) := hdep 36 (by kernel_rfl) rfl _ rfl
            have e36 : a.tmps[122]?.getD undef = .int .i64 (k : Int) := by rw [← Array.getD_eq_getD_getElem?]; exact d36
            have g37 : a.tmps.getD 120 undef = .bool false := hdep 34 (by kernel_rfl) rfl _ rfl
            clear hsz hold hdep
            refine stepR_do rfl ((wanted_of (want := false) rfl rfl g37).trans rfl) ?_
            have HCC := Lib.hid (HCM.out W hc)
            refine stepR_callx fun K hK => ?_
            clear hc
            go_simp
            refine HCC.out.mono ?_
            rintro e w' ⟨rfl, hb⟩
            exact hK _ _ (hb) rfl
          · intro a W hc hsz hold hdep
            have o3 : a.tmps.getD 3 undef = .pointer (some ⟨b, 0, none⟩) := hold 3 (by kernel_rfl)
            have g38 : a.tmps.getD 120 undef = .bool false := hdep 34 (by kernel_rfl) rfl _ rfl
            have q0 := (HBX.out W hc).cell (i := 0) rfl
            have q1 := (HBX.out W hc).cell (i := 1) rfl
            have q2 := (HBX.out W hc).cell (i := 2) rfl
            have q3 := (HBX.out W hc).cell (i := 3) rfl
            have q4 := (HBX.out W hc).cell (i := 4) rfl
            clear hsz hold hdep
            refine stepR_do rfl ((wanted_of (want := false) rfl rfl g38).trans rfl) ?_
            clear g38
            refine stepR_val (v := .agg #[.int .i64 M.kind, .int .i64 M.endu, .slice aL M.n cL, .slice aS M.scr.length cS, .slice aD M.n cD]) (Below.refl _ _) rfl fun K hK => ?_
            go_simp
            exact hK
          · intro a W hc hsz hold hdep
            have o5 : a.tmps.getD 5 undef = .int .i64 (k : Int) := hold 5 (by kernel_rfl)
            have g39 : a.tmps.getD 120 undef = .bool false := hdep 34 (by kernel_rfl) rfl _ rfl
            clear hsz hold hdep
            refine stepR_do rfl ((wanted_of (want := false) rfl rfl g39).trans rfl) ?_
            clear g39
            refine stepR_val (v := .int .i64 (k : Int)) (Below.refl _ _) rfl fun K hK => ?_
            go_simp
            exact hK
          · intro a W hc hsz hold hdep
            have d38 : a.tmps.getD 124 undef = .agg #[.int .i64 M.kind, .int .i64 M.endu, .slice aL M.n cL, .slice aS M.scr.length cS, .slice aD M.n cD] := hdep 38 (by kernel_rfl) rfl _ rfl
            have e38 : a.tmps[124]?.getD undef = .agg #[.int .i64 M.kind, .int .i64 M.endu, .slice aL M.n cL, .slice aS M.scr.length cS, .slice aD M.n cD] := by rw [← Array.getD_eq_getD_getElem?]; exact d38
            have d39 : a.tmps.getD 125 undef = .int .i64 (k : Int) := hdep 39 (by kernel_rfl) rfl _ rfl
            have e39 : a.tmps[125]?.getD undef = .int .i64 (k : Int) := by rw [← Array.getD_eq_getD_getElem?]; exact d39
            have g40 : a.tmps.getD 120 undef = .bool false := hdep 34 (by kernel_rfl) rfl _ rfl
            clear hsz hold hdep
            refine stepR_do rfl ((wanted_of (want := false) rfl rfl g40).trans rfl) ?_
            have HCC := Lib.hid (HCR.out W hc)
            refine stepR_callx fun K hK => ?_
            clear hc
            go_simp
            refine HCC.out.mono ?_
            rintro e w' ⟨rfl, hb⟩
            exact hK _ _ (hb) rfl
          · intro a W hc hsz hold hdep
            have d37 : a.tmps.getD 123 undef = .bool cl := hdep 37 (by kernel_rfl) rfl _ rfl
            have d40 : a.tmps.getD 126 undef = .bool cl := hdep 40 (by kernel_rfl) rfl _ rfl
            have g41 : a.tmps.getD 120 undef = .bool false := hdep 34 (by kernel_rfl) rfl _ rfl
            clear hsz hold hdep
            refine stepR_do rfl ((wanted_of (want := false) rfl rfl g41).trans rfl) ?_
            clear g41
            refine stepR_val (v := .bool false) (Below.refl _ _) rfl fun K hK => ?_
            go_simp
            exact hK
          · intro a W hc hsz hold hdep
            have d34 : a.tmps.getD 120 undef = .bool false := hdep 34 (by kernel_rfl) rfl _ rfl
            have d41 : a.tmps.getD 127 undef = .bool false := hdep 41 (by kernel_rfl) rfl _ rfl
            clear hsz hold hdep
            refine stepR_do rfl (wanted_none rfl) ?_
            refine stepR_val (v := .bool false) (Below.refl _ _) rfl fun K hK => ?_
            go_simp
            exact hK
          · intro a W hC hd hsz hold hval
            have d0 : a.tmps.getD 0 undef = .pointer (some ⟨g, 0, none⟩) := hold 0 (by kernel_rfl)
            have d1 : a.tmps.getD 1 undef = v1 := hold 1 (by kernel_rfl)
            have d2 : a.tmps.getD 2 undef = v2 := hold 2 (by kernel_rfl)
            have d3 : a.tmps.getD 3 undef = .pointer (some ⟨b, 0, none⟩) := hold 3 (by kernel_rfl)
            have d5 : a.tmps.getD 5 undef = .int .i64 (k : Int) := hold 5 (by kernel_rfl)
            have d19 : a.tmps.getD 19 undef = v19 := hold 19 (by kernel_rfl)
            have d20 : a.tmps.getD 20 undef = v20 := hold 20 (by kernel_rfl)
            have d21 : a.tmps.getD 21 undef = v21 := hold 21 (by kernel_rfl)
            have d22 : a.tmps.getD 22 undef = v22 := hold 22 (by kernel_rfl)
            have d23 : a.tmps.getD 23 undef = v23 := hold 23 (by kernel_rfl)
            have d24 : a.tmps.getD 24 undef = v24 := hold 24 (by kernel_rfl)
            have d25 : a.tmps.getD 25 undef = v25 := hold 25 (by kernel_rfl)
            have d26 : a.tmps.getD 26 undef = v26 := hold 26 (by kernel_rfl)
            have d27 : a.tmps.getD 27 undef = v27 := hold 27 (by kernel_rfl)
            have d28 : a.tmps.getD 28 undef = v28 := hold 28 (by kernel_rfl)
            have d29 : a.tmps.getD 29 undef = v29 := hold 29 (by kernel_rfl)
            have d30 : a.tmps.getD 30 undef = v30 := hold 30 (by kernel_rfl)
            have d31 : a.tmps.getD 31 undef = .bool false := hold 31 (by kernel_rfl)
            have d128 : a.tmps.getD 128 undef = .bool false := hval 42 _ rfl rfl
            clear hold
            obtain ⟨tm, df⟩ := a
            replace hd : df = [] := hd
            replace hsz : tm.size = 129 := hsz
            replace d0 : tm.getD 0 undef = .pointer (some ⟨g, 0, none⟩) := d0
            replace d1 : tm.getD 1 undef = v1 := d1
            replace d2 : tm.getD 2 undef = v2 := d2
            replace d3 : tm.getD 3 undef = .pointer (some ⟨b, 0, none⟩) := d3
            replace d5 : tm.getD 5 undef = .int .i64 (k : Int) := d5
            replace d19 : tm.getD 19 undef = v19 := d19
            replace d20 : tm.getD 20 undef = v20 := d20
            replace d21 : tm.getD 21 undef = v21 := d21
            replace d22 : tm.getD 22 undef = v22 := d22
            replace d23 : tm.getD 23 undef = v23 := d23
            replace d24 : tm.getD 24 undef = v24 := d24
            replace d25 : tm.getD 25 undef = v25 := d25
            replace d26 : tm.getD 26 undef = v26 := d26
            replace d27 : tm.getD 27 undef = v27 := d27
            replace d28 : tm.getD 28 undef = v28 := d28
            replace d29 : tm.getD 29 undef = v29 := d29
            replace d30 : tm.getD 30 undef = v30 := d30
            replace d31 : tm.getD 31 undef = .bool false := d31
            replace d128 : tm.getD 128 undef = .bool false := d128
            subst hd
            have e : tm = List.toArray (tm.getD 0 undef :: tm.getD 1 undef :: tm.getD 2 undef :: tm.getD 3 undef :: tm.getD 4 undef :: tm.getD 5 undef :: tm.getD 6 undef :: tm.getD 7 undef :: tm.getD 8 undef :: tm.getD 9 undef :: tm.getD 10 undef :: tm.getD 11 undef :: tm.getD 12 undef :: tm.getD 13 undef :: tm.getD 14 undef :: tm.getD 15 undef :: tm.getD 16 undef :: tm.getD 17 undef :: tm.getD 18 undef :: tm.getD 19 undef :: tm.getD 20 undef :: tm.getD 21 undef :: tm.getD 22 undef :: tm.getD 23 undef :: tm.getD 24 undef :: tm.getD 25 undef :: tm.getD 26 undef :: tm.getD 27 undef :: tm.getD 28 undef :: tm.getD 29 undef :: tm.getD 30 undef :: tm.getD 31 undef :: tm.getD 32 undef :: tm.getD 33 undef :: tm.getD 34 undef :: tm.getD 35 undef :: tm.getD 36 undef :: tm.getD 37 undef :: tm.getD 38 undef :: tm.getD 39 undef :: tm.getD 40 undef :: tm.getD 41 undef :: tm.getD 42 undef :: tm.getD 43 undef :: tm.getD 44 undef :: tm.getD 45 undef :: tm.getD 46 undef :: tm.getD 47 undef :: tm.getD 48 undef :: tm.getD 49 undef :: tm.getD 50 undef :: tm.getD 51 undef :: tm.getD 52 undef :: tm.getD 53 undef :: tm.getD 54 undef :: tm.getD 55 undef :: tm.getD 56 undef :: tm.getD 57 undef :: tm.getD 58 undef :: tm.getD 59 undef :: tm.getD 60 undef :: tm.getD 61 undef :: tm.getD 62 undef :: tm.getD 63 undef :: tm.getD 64 undef :: tm.getD 65 undef :: tm.getD 66 undef :: tm.getD 67 undef :: tm.getD 68 undef :: tm.getD 69 undef :: tm.getD 70 undef :: tm.getD 71 undef :: tm.getD 72 undef :: tm.getD 73 undef :: tm.getD 74 undef :: tm.getD 75 undef :: tm.getD 76 undef :: tm.getD 77 undef :: tm.getD 78 undef :: tm.getD 79 undef :: tm.getD 80 undef :: tm.getD 81 undef :: tm.getD 82 undef :: tm.getD 83 undef :: tm.getD 84 undef :: tm.getD 85 undef :: tm.getD 86 undef :: tm.getD 87 undef :: tm.getD 88 undef :: tm.getD 89 undef :: tm.getD 90 undef :: tm.getD 91 undef :: tm.getD 92 undef :: tm.getD 93 undef :: tm.getD 94 undef :: tm.getD 95 undef :: tm.getD 96 undef :: tm.getD 97 undef :: tm.getD 98 undef :: tm.getD 99 undef :: tm.getD 100 undef :: tm.getD 101 undef :: tm.getD 102 undef :: tm.getD 103 undef :: tm.getD 104 undef :: tm.getD 105 undef :: tm.getD 106 undef :: tm.getD 107 undef :: tm.getD 108 undef :: tm.getD 109 undef :: tm.getD 110 undef :: tm.getD 111 undef :: tm.getD 112 undef :: tm.getD 113 undef :: tm.getD 114 undef :: tm.getD 115 undef :: tm.getD 116 undef :: tm.getD 117 undef :: tm.getD 118 undef :: tm.getD 119 undef :: tm.getD 120 undef :: tm.getD 121 undef :: tm.getD 122 undef :: tm.getD 123 undef :: tm.getD 124 undef :: tm.getD 125 undef :: tm.getD 126 undef :: tm.getD 127 undef :: tm.getD 128 undef :: []) := arr_eq tm 129 hsz
            rw [d0, d1, d2, d3, d5, d19, d20, d21, d22, d23, d24, d25, d26, d27, d28, d29, d30, d31, d128] at e
            clear d0 d1 d2 d3 d5 d19 d20 d21 d22 d23 d24 d25 d26 d27 d28 d29 d30 d31 d128 hsz
            generalize tm.getD 4 undef = v4 at e
            generalize tm.getD 6 undef = v6 at e
            generalize tm.getD 7 undef = v7 at e
            generalize tm.getD 8 undef = v8 at e
            generalize tm.getD 9 undef = v9 at e
            generalize tm.getD 10 undef = v10 at e
            generalize tm.getD 11 undef = v11 at e
            generalize tm.getD 12 undef = v12 at e
            generalize tm.getD 13 undef = v13 at e
            generalize tm.getD 14 undef = v14 at e
            generalize tm.getD 15 undef = v15 at e
            generalize tm.getD 16 undef = v16 at e
            generalize tm.getD 17 undef = v17 at e
            generalize tm.getD 18 undef = v18 at e
            generalize tm.getD 32 undef = v32 at e
            generalize tm.getD 33 undef = v33 at e
            generalize tm.getD 34 undef = v34 at e
            generalize tm.getD 35 undef = v35 at e
            generalize tm.getD 36 undef = v36 at e
            generalize tm.getD 37 undef = v37 at e
            generalize tm.getD 38 undef = v38 at e
            generalize tm.getD 39 undef = v39 at e
            generalize tm.getD 40 undef = v40 at e
            generalize tm.getD 41 undef = v41 at e
            generalize tm.getD 42 undef = v42 at e
            generalize tm.getD 43 undef = v43 at e
            generalize tm.getD 44 undef = v44 at e
            generalize tm.getD 45 undef = v45 at e
            generalize tm.getD 46 undef = v46 at e
            generalize tm.getD 47 undef = v47 at e
            generalize tm.getD 48 undef = v48 at e
            generalize tm.getD 49 undef = v49 at e
            generalize tm.getD 50 undef = v50 at e
            generalize tm.getD 51 undef = v51 at e
            generalize tm.getD 52 undef = v52 at e
            generalize tm.getD 53 undef = v53 at e
            generalize tm.getD 54 undef = v54 at e
            generalize tm.getD 55 undef = v55 at e
            generalize tm.getD 56 undef = v56 at e
            generalize tm.getD 57 undef = v57 at e
            generalize tm.getD 58 undef = v58 at e
            generalize tm.getD 59 undef = v59 at e
            generalize tm.getD 60 undef = v60 at e
            generalize tm.getD 61 undef = v61 at e
            generalize tm.getD 62 undef = v62 at e
            generalize tm.getD 63 undef = v63 at e
            generalize tm.getD 64 undef = v64 at e
            generalize tm.getD 65 undef = v65 at e
            generalize tm.getD 66 undef = v66 at e
            generalize tm.getD 67 undef = v67 at e
            generalize tm.getD 68 undef = v68 at e
            generalize tm.getD 69 undef = v69 at e
            generalize tm.getD 70 undef = v70 at e
            generalize tm.getD 71 undef = v71 at e
            generalize tm.getD 72 undef = v72 at e
            generalize tm.getD 73 undef = v73 at e
            generalize tm.getD 74 undef = v74 at e
            generalize tm.getD 75 undef = v75 at e
            generalize tm.getD 76 undef = v76 at e
            generalize tm.getD 77 undef = v77 at e
            generalize tm.getD 78 undef = v78 at e
            generalize tm.getD 79 undef = v79 at e
            generalize tm.getD 80 undef = v80 at e
            generalize tm.getD 81 undef = v81 at e
            generalize tm.getD 82 undef = v82 at e
            generalize tm.getD 83 undef = v83 at e
            generalize tm.getD 84 undef = v84 at e
            generalize tm.getD 85 undef = v85 at e
            generalize tm.getD 86 undef = v86 at e
            generalize tm.getD 87 undef = v87 at e
            generalize tm.getD 88 undef = v88 at e
            generalize tm.getD 89 undef = v89 at e
            generalize tm.getD 90 undef = v90 at e
            generalize tm.getD 91 undef = v91 at e
            generalize tm.getD 92 undef = v92 at e
            generalize tm.getD 93 undef = v93 at e
            generalize tm.getD 94 undef = v94 at e
            generalize tm.getD 95 undef = v95 at e
            generalize tm.getD 96 undef = v96 at e
            generalize tm.getD 97 undef = v97 at e
            generalize tm.getD 98 undef = v98 at e
            generalize tm.getD 99 undef = v99 at e
            generalize tm.getD 100 undef = v100 at e
            generalize tm.getD 101 undef = v101 at e
            generalize tm.getD 102 undef = v102 at e
            generalize tm.getD 103 undef = v103 at e
            generalize tm.getD 104 undef = v104 at e
            generalize tm.getD 105 undef = v105 at e
            generalize tm.getD 106 undef = v106 at e
            generalize tm.getD 107 undef = v107 at e
            generalize tm.getD 108 undef = v108 at e
            generalize tm.getD 109 undef = v109 at e
            generalize tm.getD 110 undef = v110 at e
            generalize tm.getD 111 undef = v111 at e
            generalize tm.getD 112 undef = v112 at e
            generalize tm.getD 113 undef = v113 at e
            generalize tm.getD 114 undef = v114 at e
            generalize tm.getD 115 undef = v115 at e
            generalize tm.getD 116 undef = v116 at e
            generalize tm.getD 117 undef = v117 at e
            generalize tm.getD 118 undef = v118 at e
            generalize tm.getD 119 undef = v119 at e
            generalize tm.getD 120 undef = v120 at e
            generalize tm.getD 121 undef = v121 at e
            generalize tm.getD 122 undef = v122 at e
            generalize tm.getD 123 undef = v123 at e
            generalize tm.getD 124 undef = v124 at e
            generalize tm.getD 125 undef = v125 at e
            generalize tm.getD 126 undef = v126 at e
            generalize tm.getD 127 undef = v127 at e
            subst e
            have HC6 := Lib.hid (HB6.out.trans (hC.mono HB6.out.size))
            clear hC hval
            go_wp2_with fail
            go_roundw
            case rel => exact ⟨(k : Int) + 1, by omega, by omega, by go_num, HC6.out⟩
            case measure => simp [RowKit.intOf]; omega
        have hst : M.stateR i = (0, 2) := by unfold Med.stateR; rw [if_neg (by omega)]
        have hct : M.countR i = (0, 2) := by unfold Med.countR; rw [if_neg (by omega)]
        rw [hst] at HST
        rw [hct] at HCT
        clear hst hct
        have hg0 : decide ((0 : Int) ≤ i) = true := decide_eq_true (by omega)
        have hg1 : decide (i < (M.n : Int)) = false := decide_eq_false (by omega)
        have HB5 := HB4
        have H45 := Lib.hid (Below.refl w4.heap.size w4)
        go_wp2_with fail
        refine (HST.out _ HB5.out).mono ?_
        rintro e wa ⟨rfl, hba⟩
        have HBa := Lib.hid (HB5.out.trans (hba.mono HB5.out.size))
        have H4a := Lib.hid (H45.out.trans (hba.mono H45.out.size))
        clear hba
        go_wp2_with fail
        refine (HCT.out _ HBa.out).mono ?_
        rintro e w6 ⟨rfl, hb6⟩
        have HB6 := Lib.hid (HBa.out.trans (hb6.mono HBa.out.size))
        have H46 := Lib.hid (H4a.out.trans (hb6.mono H4a.out.size))
        clear hb6
        have HEQ : Hid (∀ W, Below w6.heap.size w6 W → Calls Try.prog 16 #[.slice a7 rl.length c7, .slice a8 rl.length c8] W fun e w' => e = .returned (.bool true) ∧ Below W.heap.size W w') := Lib.hid fun W hW => by
          have hb := H46.out.trans (hW.mono H46.out.size)
          have hq := equal12 (HR7.out.keep hb) (HR8.out.keep hb)
          rwa [decide_eq_true rfl] at hq
        have HCM := Lib.hid (fun W (hW : Below w6.heap.size w6 W) => HCMr.out W (HB6.out.trans (hW.mono HB6.out.size)))
        have HCR := Lib.hid (fun W (hW : Below w6.heap.size w6 W) => HCRr.out W (HB6.out.trans (hW.mono HB6.out.size)))
        have HBX2 := HBX
        replace HBX := Lib.hid (fun W (hW : Below w6.heap.size w6 W) => HBX2.out W (HB6.out.trans (hW.mono HB6.out.size)))
        unfold CleanP at HCM HCR
        obtain ⟨l7, hl7⟩ : ∃ l7, l7 = rl.length := ⟨_, rfl⟩
        rw [← hl7] at HEQ
        rw [← hl7]
        clear hl7
        go_upto_region 13 with (fail)
        refine wp_region_inr (by kernel_rfl) (fun w W => Below w.heap.size w W) (fun W => Below w6.heap.size w6 W) (smbV g b l7 c7 c8 M aL aS aD a7 a8 cL cS cD s rc 0 0 2 i cl) (fun _ => false) (by kernel_rfl) (fun _ _ hR hc => hc.trans (hR.mono hc.size)) (smbV_keep g b l7 c7 c8 M aL aS aD a7 a8 cL cS cD s rc 0 0 2 i cl) ((Below.refl _ _).drew) ⟨?_, ?_, ?_, ?_, ?_, ?_, ?_, ?_, ?_, ?_, ?_, ?_, ?_, ?_, ?_, ?_, ?_, ?_, ?_, ?_, ?_, ?_, ?_, ?_, ?_, ?_, ?_, ?_, ?_, ?_, ?_, ?_, ?_, ?_, ?_, ?_, ?_, ?_, ?_, ?_, ?_, ?_, ?_, trivial⟩ ?_
        · intro a W hc hsz hold hdep
          have o6 : a.tmps.getD 6 undef = .string s := hold 6 (by kernel_rfl)
          clear hsz hold hdep
          refine stepR_do rfl (wanted_none rfl) ?_
          refine stepR_val (v := .string s) (Below.refl _ _) rfl fun K hK => ?_
          go_simp
          exact hK
        · intro a W hc hsz hold hdep
          have o9 : a.tmps.getD 9 undef = .string s := hold 9 (by kernel_rfl)
          clear hsz hold hdep
          refine stepR_do rfl (wanted_none rfl) ?_
          refine stepR_val (v := .string s) (Below.refl _ _) rfl fun K hK => ?_
          go_simp
          exact hK
        · intro a W hc hsz hold hdep
          have d0 : a.tmps.getD 86 undef = .string s := hdep 0 (by kernel_rfl) rfl _ rfl
          have d1 : a.tmps.getD 87 undef = .string s := hdep 1 (by kernel_rfl) rfl _ rfl
          clear hsz hold hdep
          refine stepR_do rfl (wanted_none rfl) ?_
          refine stepR_val (v := .bool false) (Below.refl _ _) rfl fun K hK => ?_
          go_simp
          exact hK
        · intro a W hc hsz hold hdep
          have d2 : a.tmps.getD 88 undef = .bool false := hdep 2 (by kernel_rfl) rfl _ rfl
          clear hsz hold hdep
          refine stepR_do rfl (wanted_none rfl) ?_
          refine stepR_val (v := .bool false) (Below.refl _ _) rfl fun K hK => ?_
          go_simp
          exact hK
        · intro a W hc hsz hold hdep
          have o7 : a.tmps.getD 7 undef = .slice a7 l7 c7 := hold 7 (by kernel_rfl)
          have g4 : a.tmps.getD 89 undef = .bool false := hdep 3 (by kernel_rfl) rfl _ rfl
          clear hsz hold hdep
          refine stepR_do rfl ((wanted_of (want := false) rfl rfl g4).trans rfl) ?_
          clear g4
          refine stepR_val (v := .slice a7 l7 c7) (Below.refl _ _) rfl fun K hK => ?_
          go_simp
          exact hK
        · intro a W hc hsz hold hdep
          have o10 : a.tmps.getD 10 undef = .slice a8 l7 c8 := hold 10 (by kernel_rfl)
          have g5 : a.tmps.getD 89 undef = .bool false := hdep 3 (by kernel_rfl) rfl _ rfl
          clear hsz hold hdep
          refine stepR_do rfl ((wanted_of (want := false) rfl rfl g5).trans rfl) ?_
          clear g5
          refine stepR_val (v := .slice a8 l7 c8) (Below.refl _ _) rfl fun K hK => ?_
          go_simp
          exact hK
        · intro a W hc hsz hold hdep
          have d4 : a.tmps.getD 90 undef = .slice a7 l7 c7 := hdep 4 (by kernel_rfl) rfl _ rfl
          have e4 : a.tmps[90]?.getD undef = .slice a7 l7 c7 := by rw [← Array.getD_eq_getD_getElem?]; exact d4
          have d5 : a.tmps.getD 91 undef = .slice a8 l7 c8 := hdep 5 (by kernel_rfl) rfl _ rfl
          have e5 : a.tmps[91]?.getD undef = .slice a8 l7 c8 := by rw [← Array.getD_eq_getD_getElem?]; exact d5
          have g6 : a.tmps.getD 89 undef = .bool false := hdep 3 (by kernel_rfl) rfl _ rfl
          clear hsz hold hdep
          refine stepR_do rfl ((wanted_of (want := false) rfl rfl g6).trans rfl) ?_
          have HCC := Lib.hid (HEQ.out W hc)
          refine stepR_callx fun K hK => ?_
          clear hc
          go_simp
          refine HCC.out.mono ?_
          rintro e w' ⟨rfl, hb⟩
          exact hK _ _ (hb) rfl
        · intro a W hc hsz hold hdep
          have d6 : a.tmps.getD 92 undef = .bool true := hdep 6 (by kernel_rfl) rfl _ rfl
          have g7 : a.tmps.getD 89 undef = .bool false := hdep 3 (by kernel_rfl) rfl _ rfl
          clear hsz hold hdep
          refine stepR_do rfl ((wanted_of (want := false) rfl rfl g7).trans rfl) ?_
          clear g7
          refine stepR_val (v := .bool false) (Below.refl _ _) rfl fun K hK => ?_
          go_simp
          exact hK
        · intro a W hc hsz hold hdep
          have d3 : a.tmps.getD 89 undef = .bool false := hdep 3 (by kernel_rfl) rfl _ rfl
          have d7 : a.tmps.getD 93 undef = .bool false := hdep 7 (by kernel_rfl) rfl _ rfl
          clear hsz hold hdep
          refine stepR_do rfl (wanted_none rfl) ?_
          refine stepR_val (v := .bool false) (Below.refl _ _) rfl fun K hK => ?_
          go_simp
          exact hK
        · intro a W hc hsz hold hdep
          have d8 : a.tmps.getD 94 undef = .bool false := hdep 8 (by kernel_rfl) rfl _ rfl
          clear hsz hold hdep
          refine stepR_do rfl (wanted_none rfl) ?_
          refine stepR_val (v := .bool false) (Below.refl _ _) rfl fun K hK => ?_
          go_simp
          exact hK
        · intro a W hc hsz hold hdep
          have o8 : a.tmps.getD 8 undef = .int .i64 rc := hold 8 (by kernel_rfl)
          have g10 : a.tmps.getD 95 undef = .bool false := hdep 9 (by kernel_rfl) rfl _ rfl
          clear hsz hold hdep
          refine stepR_do rfl ((wanted_of (want := false) rfl rfl g10).trans rfl) ?_
          clear g10
          refine stepR_val (v := .int .i64 rc) (Below.refl _ _) rfl fun K hK => ?_
          go_simp
          exact hK
        · intro a W hc hsz hold hdep
          have o11 : a.tmps.getD 11 undef = .int .i64 rc := hold 11 (by kernel_rfl)
          have g11 : a.tmps.getD 95 undef = .bool false := hdep 9 (by kernel_rfl) rfl _ rfl
          clear hsz hold hdep
          refine stepR_do rfl ((wanted_of (want := false) rfl rfl g11).trans rfl) ?_
          clear g11
          refine stepR_val (v := .int .i64 rc) (Below.refl _ _) rfl fun K hK => ?_
          go_simp
          exact hK
        · intro a W hc hsz hold hdep
          have d10 : a.tmps.getD 96 undef = .int .i64 rc := hdep 10 (by kernel_rfl) rfl _ rfl
          have d11 : a.tmps.getD 97 undef = .int .i64 rc := hdep 11 (by kernel_rfl) rfl _ rfl
          have g12 : a.tmps.getD 95 undef = .bool false := hdep 9 (by kernel_rfl) rfl _ rfl
          clear hsz hold hdep
          refine stepR_do rfl ((wanted_of (want := false) rfl rfl g12).trans rfl) ?_
          clear g12
          refine stepR_val (v := .bool false) (Below.refl _ _) rfl fun K hK => ?_
          go_simp
          exact hK
        · intro a W hc hsz hold hdep
          have d9 : a.tmps.getD 95 undef = .bool false := hdep 9 (by kernel_rfl) rfl _ rfl
          have d12 : a.tmps.getD 98 undef = .bool false := hdep 12 (by kernel_rfl) rfl _ rfl
          clear hsz hold hdep
          refine stepR_do rfl (wanted_none rfl) ?_
          refine stepR_val (v := .bool false) (Below.refl _ _) rfl fun K hK => ?_
          go_simp
          exact hK
        · intro a W hc hsz hold hdep
          have d13 : a.tmps.getD 99 undef = .bool false := hdep 13 (by kernel_rfl) rfl _ rfl
          clear hsz hold hdep
          refine stepR_do rfl (wanted_none rfl) ?_
          refine stepR_val (v := .bool false) (Below.refl _ _) rfl fun K hK => ?_
          go_simp
          exact hK
        · intro a W hc hsz hold hdep
          have o15 : a.tmps.getD 15 undef = .int .i64 0 := hold 15 (by kernel_rfl)
          have g15 : a.tmps.getD 100 undef = .bool false := hdep 14 (by kernel_rfl) rfl _ rfl
          clear hsz hold hdep
          refine stepR_do rfl ((wanted_of (want := false) rfl rfl g15).trans rfl) ?_
          clear g15
          refine stepR_val (v := .int .i64 0) (Below.refl _ _) rfl fun K hK => ?_
          go_simp
          exact hK
        · intro a W hc hsz hold hdep
          have o12 : a.tmps.getD 12 undef = .int .i64 0 := hold 12 (by kernel_rfl)
          have g16 : a.tmps.getD 100 undef = .bool false := hdep 14 (by kernel_rfl) rfl _ rfl
          clear hsz hold hdep
          refine stepR_do rfl ((wanted_of (want := false) rfl rfl g16).trans rfl) ?_
          clear g16
          refine stepR_val (v := .int .i64 0) (Below.refl _ _) rfl fun K hK => ?_
          go_simp
          exact hK
        · intro a W hc hsz hold hdep
          have d15 : a.tmps.getD 101 undef = .int .i64 0 := hdep 15 (by kernel_rfl) rfl _ rfl
          have d16 : a.tmps.getD 102 undef = .int .i64 0 := hdep 16 (by kernel_rfl) rfl _ rfl
          have g17 : a.tmps.getD 100 undef = .bool false := hdep 14 (by kernel_rfl) rfl _ rfl
          clear hsz hold hdep
          refine stepR_do rfl ((wanted_of (want := false) rfl rfl g17).trans rfl) ?_
          clear g17
          refine stepR_val (v := .bool false) (Below.refl _ _) rfl fun K hK => ?_
          go_simp
          exact hK
        · intro a W hc hsz hold hdep
          have d14 : a.tmps.getD 100 undef = .bool false := hdep 14 (by kernel_rfl) rfl _ rfl
          have d17 : a.tmps.getD 103 undef = .bool false := hdep 17 (by kernel_rfl) rfl _ rfl
          clear hsz hold hdep
          refine stepR_do rfl (wanted_none rfl) ?_
          refine stepR_val (v := .bool false) (Below.refl _ _) rfl fun K hK => ?_
          go_simp
          exact hK
        · intro a W hc hsz hold hdep
          have d18 : a.tmps.getD 104 undef = .bool false := hdep 18 (by kernel_rfl) rfl _ rfl
          clear hsz hold hdep
          refine stepR_do rfl (wanted_none rfl) ?_
          refine stepR_val (v := .bool false) (Below.refl _ _) rfl fun K hK => ?_
          go_simp
          exact hK
        · intro a W hc hsz hold hdep
          have o17 : a.tmps.getD 17 undef = .int .i64 0 := hold 17 (by kernel_rfl)
          have g20 : a.tmps.getD 105 undef = .bool false := hdep 19 (by kernel_rfl) rfl _ rfl
          clear hsz hold hdep
          refine stepR_do rfl ((wanted_of (want := false) rfl rfl g20).trans rfl) ?_
          clear g20
          refine stepR_val (v := .int .i64 0) (Below.refl _ _) rfl fun K hK => ?_
          go_simp
          exact hK
        · intro a W hc hsz hold hdep
          have o13 : a.tmps.getD 13 undef = .int .i64 0 := hold 13 (by kernel_rfl)
          have g21 : a.tmps.getD 105 undef = .bool false := hdep 19 (by kernel_rfl) rfl _ rfl
          clear hsz hold hdep
          refine stepR_do rfl ((wanted_of (want := false) rfl rfl g21).trans rfl) ?_
          clear g21
          refine stepR_val (v := .int .i64 0) (Below.refl _ _) rfl fun K hK => ?_
          go_simp
          exact hK
        · intro a W hc hsz hold hdep
          have d20 : a.tmps.getD 106 undef = .int .i64 0 := hdep 20 (by kernel_rfl) rfl _ rfl
          have d21 : a.tmps.getD 107 undef = .int .i64 0 := hdep 21 (by kernel_rfl) rfl _ rfl
          have g22 : a.tmps.getD 105 undef = .bool false := hdep 19 (by kernel_rfl) rfl _ rfl
          clear hsz hold hdep
          refine stepR_do rfl ((wanted_of (want := false) rfl rfl g22).trans rfl) ?_
          clear g22
          refine stepR_val (v := .bool false) (Below.refl _ _) rfl fun K hK => ?_
          go_simp
          exact hK
        · intro a W hc hsz hold hdep
          have d19 : a.tmps.getD 105 undef = .bool false := hdep 19 (by kernel_rfl) rfl _ rfl
          have d22 : a.tmps.getD 108 undef = .bool false := hdep 22 (by kernel_rfl) rfl _ rfl
          clear hsz hold hdep
          refine stepR_do rfl (wanted_none rfl) ?_
          refine stepR_val (v := .bool false) (Below.refl _ _) rfl fun K hK => ?_
          go_simp
          exact hK
        · intro a W hc hsz hold hdep
          have d23 : a.tmps.getD 109 undef = .bool false := hdep 23 (by kernel_rfl) rfl _ rfl
          clear hsz hold hdep
          refine stepR_do rfl (wanted_none rfl) ?_
          refine stepR_val (v := .bool false) (Below.refl _ _) rfl fun K hK => ?_
          go_simp
          exact hK
        · intro a W hc hsz hold hdep
          have o16 : a.tmps.getD 16 undef = .int .i64 2 := hold 16 (by kernel_rfl)
          have g25 : a.tmps.getD 110 undef = .bool false := hdep 24 (by kernel_rfl) rfl _ rfl
          clear hsz hold hdep
          refine stepR_do rfl ((wanted_of (want := false) rfl rfl g25).trans rfl) ?_
          clear g25
          refine stepR_val (v := .int .i64 2) (Below.refl _ _) rfl fun K hK => ?_
          go_simp
          exact hK
        · intro a W hc hsz hold hdep
          have o14 : a.tmps.getD 14 undef = .int .i64 2 := hold 14 (by kernel_rfl)
          have g26 : a.tmps.getD 110 undef = .bool false := hdep 24 (by kernel_rfl) rfl _ rfl
          clear hsz hold hdep
          refine stepR_do rfl ((wanted_of (want := false) rfl rfl g26).trans rfl) ?_
          clear g26
          refine stepR_val (v := .int .i64 2) (Below.refl _ _) rfl fun K hK => ?_
          go_simp
          exact hK
        · intro a W hc hsz hold hdep
          have d25 : a.tmps.getD 111 undef = .int .i64 2 := hdep 25 (by kernel_rfl) rfl _ rfl
          have d26 : a.tmps.getD 112 undef = .int .i64 2 := hdep 26 (by kernel_rfl) rfl _ rfl
          have g27 : a.tmps.getD 110 undef = .bool false := hdep 24 (by kernel_rfl) rfl _ rfl
          clear hsz hold hdep
          refine stepR_do rfl ((wanted_of (want := false) rfl rfl g27).trans rfl) ?_
          clear g27
          refine stepR_val (v := .bool false) (Below.refl _ _) rfl fun K hK => ?_
          go_simp
          exact hK
        · intro a W hc hsz hold hdep
          have d24 : a.tmps.getD 110 undef = .bool false := hdep 24 (by kernel_rfl) rfl _ rfl
          have d27 : a.tmps.getD 113 undef = .bool false := hdep 27 (by kernel_rfl) rfl _ rfl
          clear hsz hold hdep
          refine stepR_do rfl (wanted_none rfl) ?_
          refine stepR_val (v := .bool false) (Below.refl _ _) rfl fun K hK => ?_
          go_simp
          exact hK
        · intro a W hc hsz hold hdep
          have d28 : a.tmps.getD 114 undef = .bool false := hdep 28 (by kernel_rfl) rfl _ rfl
          clear hsz hold hdep
          refine stepR_do rfl (wanted_none rfl) ?_
          refine stepR_val (v := .bool false) (Below.refl _ _) rfl fun K hK => ?_
          go_simp
          exact hK
        · intro a W hc hsz hold hdep
          have o18 : a.tmps.getD 18 undef = .int .i64 2 := hold 18 (by kernel_rfl)
          have g30 : a.tmps.getD 115 undef = .bool false := hdep 29 (by kernel_rfl) rfl _ rfl
          clear hsz hold hdep
          refine stepR_do rfl ((wanted_of (want := false) rfl rfl g30).trans rfl) ?_
          clear g30
          refine stepR_val (v := .int .i64 2) (Below.refl _ _) rfl fun K hK => ?_
          go_simp
          exact hK
        · intro a W hc hsz hold hdep
          have o14 : a.tmps.getD 14 undef = .int .i64 2 := hold 14 (by kernel_rfl)
          have g31 : a.tmps.getD 115 undef = .bool false := hdep 29 (by kernel_rfl) rfl _ rfl
          clear hsz hold hdep
          refine stepR_do rfl ((wanted_of (want := false) rfl rfl g31).trans rfl) ?_
          clear g31
          refine stepR_val (v := .int .i64 2) (Below.refl _ _) rfl fun K hK => ?_
          go_simp
          exact hK
        · intro a W hc hsz hold hdep
          have d30 : a.tmps.getD 116 undef = .int .i64 2 := hdep 30 (by kernel_rfl) rfl _ rfl
          have d31 : a.tmps.getD 117 undef = .int .i64 2 := hdep 31 (by kernel_rfl) rfl _ rfl
          have g32 : a.tmps.getD 115 undef = .bool false := hdep 29 (by kernel_rfl) rfl _ rfl
          clear hsz hold hdep
          refine stepR_do rfl ((wanted_of (want := false) rfl rfl g32).trans rfl) ?_
          clear g32
          refine stepR_val (v := .bool false) (Below.refl _ _) rfl fun K hK => ?_
          go_simp
          exact hK
        · intro a W hc hsz hold hdep
          have d29 : a.tmps.getD 115 undef = .bool false := hdep 29 (by kernel_rfl) rfl _ rfl
          have d32 : a.tmps.getD 118 undef = .bool false := hdep 32 (by kernel_rfl) rfl _ rfl
          clear hsz hold hdep
          refine stepR_do rfl (wanted_none rfl) ?_
          refine stepR_val (v := .bool false) (Below.refl _ _) rfl fun K hK => ?_
          go_simp
          exact hK
        · intro a W hc hsz hold hdep
          have d33 : a.tmps.getD 119 undef = .bool false := hdep 33 (by kernel_rfl) rfl _ rfl
          clear hsz hold hdep
          refine stepR_do rfl (wanted_none rfl) ?_
          refine stepR_val (v := .bool false) (Below.refl _ _) rfl fun K hK => ?_
          go_simp
          exact hK
        · intro a W hc hsz hold hdep
          have o0 : a.tmps.getD 0 undef = .pointer (some ⟨g, 0, none⟩) := hold 0 (by kernel_rfl)
          have g35 : a.tmps.getD 120 undef = .bool false := hdep 34 (by kernel_rfl) rfl _ rfl
          clear hsz hold hdep
          refine stepR_do rfl ((wanted_of (want := false) rfl rfl g35).trans rfl) ?_
          clear g35
          refine stepR_val (v := .pointer (some ⟨g, 0, none⟩)) (Below.refl _ _) rfl fun K hK => ?_
          go_simp
          exact hK
        · intro a W hc hsz hold hdep
          have o5 : a.tmps.getD 5 undef = .int .i64 i := hold 5 (by kernel_rfl)
          have g36 : a.tmps.getD 120 undef = .bool false := hdep 34 (by kernel_rfl) rfl _ rfl
          clear hsz hold hdep
          refine stepR_do rfl ((wanted_of (want := false) rfl rfl g36).trans rfl) ?_
          clear g36
          refine stepR_val (v := .int .i64 i) (Below.refl _ _) rfl fun K hK => ?_
          go_simp
          exact hK
        · intro a W hc hsz hold hdep
          have d35 : a.tmps.getD 121 undef = .pointer (some ⟨g, 0, none⟩) := hdep 35 (by kernel_rfl) rfl _ rfl
          have e35 : a.tmps[121]?.getD undef = .pointer (some ⟨g, 0, none⟩) := by rw [← Array.getD_eq_getD_getElem?]; exact d35
          have d36 : a.tmps.getD 122 undef = .int .i64 i := hdep 36 (by kernel_rfl) rfl _ rfl
          have e36 : a.tmps[122]?.getD undef = .int .i64 i := by rw [← Array.getD_eq_getD_getElem?]; exact d36
          have g37 : a.tmps.getD 120 undef = .bool false := hdep 34 (by kernel_rfl) rfl _ rfl
          clear hsz hold hdep
          refine stepR_do rfl ((wanted_of (want := false) rfl rfl g37).trans rfl) ?_
          have HCC := Lib.hid (HCM.out W hc)
          refine stepR_callx fun K hK => ?_
          clear hc
          go_simp
          refine HCC.out.mono ?_
          rintro e w' ⟨rfl, hb⟩
          exact hK _ _ (hb) rfl
        · intro a W hc hsz hold hdep
          have o3 : a.tmps.getD 3 undef = .pointer (some ⟨b, 0, none⟩) := hold 3 (by kernel_rfl)
          have g38 : a.tmps.getD 120 undef = .bool false := hdep 34 (by kernel_rfl) rfl _ rfl
          have q0 := (HBX.out W hc).cell (i := 0) rfl
          have q1 := (HBX.out W hc).cell (i := 1) rfl
          have q2 := (HBX.out W hc).cell (i := 2) rfl
          have q3 := (HBX.out W hc).cell (i := 3) rfl
          have q4 := (HBX.out W hc).cell (i := 4) rfl
          clear hsz hold hdep
          refine stepR_do rfl ((wanted_of (want := false) rfl rfl g38).trans rfl) ?_
          clear g38
          refine stepR_val (v := .agg #[.int .i64 M.kind, .int .i64 M.endu, .slice aL M.n cL, .slice aS M.scr.length cS, .slice aD M.n cD]) (Below.refl _ _) rfl fun K hK => ?_
          go_simp
          exact hK
        · intro a W hc hsz hold hdep
          have o5 : a.tmps.getD 5 undef = .int .i64 i := hold 5 (by kernel_rfl)
          have g39 : a.tmps.getD 120 undef = .bool false := hdep 34 (by kernel_rfl) rfl _ rfl
          clear hsz hold hdep
          refine stepR_do rfl ((wanted_of (want := false) rfl rfl g39).trans rfl) ?_
          clear g39
          refine stepR_val (v := .int .i64 i) (Below.refl _ _) rfl fun K hK => ?_
          go_simp
          exact hK
        · intro a W hc hsz hold hdep
          have d38 : a.tmps.getD 124 undef = .agg #[.int .i64 M.kind, .int .i64 M.endu, .slice aL M.n cL, .slice aS M.scr.length cS, .slice aD M.n cD] := hdep 38 (by kernel_rfl) rfl _ rfl
          have e38 : a.tmps[124]?.getD undef = .agg #[.int .i64 M.kind, .int .i64 M.endu, .slice aL M.n cL, .slice aS M.scr.length cS, .slice aD M.n cD] := by rw [← Array.getD_eq_getD_getElem?]; exact d38
          have d39 : a.tmps.getD 125 undef = .int .i64 i := hdep 39 (by kernel_rfl) rfl _ rfl
          have e39 : a.tmps[125]?.getD undef = .int .i64 i := by rw [← Array.getD_eq_getD_getElem?]; exact d39
          have g40 : a.tmps.getD 120 undef = .bool false := hdep 34 (by kernel_rfl) rfl _ rfl
          clear hsz hold hdep
          refine stepR_do rfl ((wanted_of (want := false) rfl rfl g40).trans rfl) ?_
          have HCC := Lib.hid (HCR.out W hc)
          refine stepR_callx fun K hK => ?_
          clear hc
          go_simp
          refine HCC.out.mono ?_
          rintro e w' ⟨rfl, hb⟩
          exact hK _ _ (hb) rfl
        · intro a W hc hsz hold hdep
          have d37 : a.tmps.getD 123 undef = .bool cl := hdep 37 (by kernel_rfl) rfl _ rfl
          have d40 : a.tmps.getD 126 undef = .bool cl := hdep 40 (by kernel_rfl) rfl _ rfl
          have g41 : a.tmps.getD 120 undef = .bool false := hdep 34 (by kernel_rfl) rfl _ rfl
          clear hsz hold hdep
          refine stepR_do rfl ((wanted_of (want := false) rfl rfl g41).trans rfl) ?_
          clear g41
          refine stepR_val (v := .bool false) (Below.refl _ _) rfl fun K hK => ?_
          go_simp
          exact hK
        · intro a W hc hsz hold hdep
          have d34 : a.tmps.getD 120 undef = .bool false := hdep 34 (by kernel_rfl) rfl _ rfl
          have d41 : a.tmps.getD 127 undef = .bool false := hdep 41 (by kernel_rfl) rfl _ rfl
          clear hsz hold hdep
          refine stepR_do rfl (wanted_none rfl) ?_
          refine stepR_val (v := .bool false) (Below.refl _ _) rfl fun K hK => ?_
          go_simp
          exact hK
        · intro a W hC hd hsz hold hval
          have d0 : a.tmps.getD 0 undef = .pointer (some ⟨g, 0, none⟩) := hold 0 (by kernel_rfl)
          have d1 : a.tmps.getD 1 undef = v1 := hold 1 (by kernel_rfl)
          have d2 : a.tmps.getD 2 undef = v2 := hold 2 (by kernel_rfl)
          have d3 : a.tmps.getD 3 undef = .pointer (some ⟨b, 0, none⟩) := hold 3 (by kernel_rfl)
          have d5 : a.tmps.getD 5 undef = .int .i64 i := hold 5 (by kernel_rfl)
          have d19 : a.tmps.getD 19 undef = v19 := hold 19 (by kernel_rfl)
          have d20 : a.tmps.getD 20 undef = v20 := hold 20 (by kernel_rfl)
          have d21 : a.tmps.getD 21 undef = v21 := hold 21 (by kernel_rfl)
          have d22 : a.tmps.getD 22 undef = v22 := hold 22 (by kernel_rfl)
          have d23 : a.tmps.getD 23 undef = v23 := hold 23 (by kernel_rfl)
          have d24 : a.tmps.getD 24 undef = v24 := hold 24 (by kernel_rfl)
          have d25 : a.tmps.getD 25 undef = v25 := hold 25 (by kernel_rfl)
          have d26 : a.tmps.getD 26 undef = v26 := hold 26 (by kernel_rfl)
          have d27 : a.tmps.getD 27 undef = v27 := hold 27 (by kernel_rfl)
          have d28 : a.tmps.getD 28 undef = v28 := hold 28 (by kernel_rfl)
          have d29 : a.tmps.getD 29 undef = v29 := hold 29 (by kernel_rfl)
          have d30 : a.tmps.getD 30 undef = v30 := hold 30 (by kernel_rfl)
          have d31 : a.tmps.getD 31 undef = .bool false := hold 31 (by kernel_rfl)
          have d128 : a.tmps.getD 128 undef = .bool false := hval 42 _ rfl rfl
          clear hold
          obtain ⟨tm, df⟩ := a
          replace hd : df = [] := hd
          replace hsz : tm.size = 129 := hsz
          replace d0 : tm.getD 0 undef = .pointer (some ⟨g, 0, none⟩) := d0
          replace d1 : tm.getD 1 undef = v1 := d1
          replace d2 : tm.getD 2 undef = v2 := d2
          replace d3 : tm.getD 3 undef = .pointer (some ⟨b, 0, none⟩) := d3
          replace d5 : tm.getD 5 undef = .int .i64 i := d5
          replace d19 : tm.getD 19 undef = v19 := d19
          replace d20 : tm.getD 20 undef = v20 := d20
          replace d21 : tm.getD 21 undef = v21 := d21
          replace d22 : tm.getD 22 undef = v22 := d22
          replace d23 : tm.getD 23 undef = v23 := d23
          replace d24 : tm.getD 24 undef = v24 := d24
          replace d25 : tm.getD 25 undef = v25 := d25
          replace d26 : tm.getD 26 undef = v26 := d26
          replace d27 : tm.getD 27 undef = v27 := d27
          replace d28 : tm.getD 28 undef = v28 := d28
          replace d29 : tm.getD 29 undef = v29 := d29
          replace d30 : tm.getD 30 undef = v30 := d30
          replace d31 : tm.getD 31 undef = .bool false := d31
          replace d128 : tm.getD 128 undef = .bool false := d128
          subst hd
          have e : tm = List.toArray (tm.getD 0 undef :: tm.getD 1 undef :: tm.getD 2 undef :: tm.getD 3 undef :: tm.getD 4 undef :: tm.getD 5 undef :: tm.getD 6 undef :: tm.getD 7 undef :: tm.getD 8 undef :: tm.getD 9 undef :: tm.getD 10 undef :: tm.getD 11 undef :: tm.getD 12 undef :: tm.getD 13 undef :: tm.getD 14 undef :: tm.getD 15 undef :: tm.getD 16 undef :: tm.getD 17 undef :: tm.getD 18 undef :: tm.getD 19 undef :: tm.getD 20 undef :: tm.getD 21 undef :: tm.getD 22 undef :: tm.getD 23 undef :: tm.getD 24 undef :: tm.getD 25 undef :: tm.getD 26 undef :: tm.getD 27 undef :: tm.getD 28 undef :: tm.getD 29 undef :: tm.getD 30 undef :: tm.getD 31 undef :: tm.getD 32 undef :: tm.getD 33 undef :: tm.getD 34 undef :: tm.getD 35 undef :: tm.getD 36 undef :: tm.getD 37 undef :: tm.getD 38 undef :: tm.getD 39 undef :: tm.getD 40 undef :: tm.getD 41 undef :: tm.getD 42 undef :: tm.getD 43 undef :: tm.getD 44 undef :: tm.getD 45 undef :: tm.getD 46 undef :: tm.getD 47 undef :: tm.getD 48 undef :: tm.getD 49 undef :: tm.getD 50 undef :: tm.getD 51 undef :: tm.getD 52 undef :: tm.getD 53 undef :: tm.getD 54 undef :: tm.getD 55 undef :: tm.getD 56 undef :: tm.getD 57 undef :: tm.getD 58 undef :: tm.getD 59 undef :: tm.getD 60 undef :: tm.getD 61 undef :: tm.getD 62 undef :: tm.getD 63 undef :: tm.getD 64 undef :: tm.getD 65 undef :: tm.getD 66 undef :: tm.getD 67 undef :: tm.getD 68 undef :: tm.getD 69 undef :: tm.getD 70 undef :: tm.getD 71 undef :: tm.getD 72 undef :: tm.getD 73 undef :: tm.getD 74 undef :: tm.getD 75 undef :: tm.getD 76 undef :: tm.getD 77 undef :: tm.getD 78 undef :: tm.getD 79 undef :: tm.getD 80 undef :: tm.getD 81 undef :: tm.getD 82 undef :: tm.getD 83 undef :: tm.getD 84 undef :: tm.getD 85 undef :: tm.getD 86 undef :: tm.getD 87 undef :: tm.getD 88 undef :: tm.getD 89 undef :: tm.getD 90 undef :: tm.getD 91 undef :: tm.getD 92 undef :: tm.getD 93 undef :: tm.getD 94 undef :: tm.getD 95 undef :: tm.getD 96 undef :: tm.getD 97 undef :: tm.getD 98 undef :: tm.getD 99 undef :: tm.getD 100 undef :: tm.getD 101 undef :: tm.getD 102 undef :: tm.getD 103 undef :: tm.getD 104 undef :: tm.getD 105 undef :: tm.getD 106 undef :: tm.getD 107 undef :: tm.getD 108 undef :: tm.getD 109 undef :: tm.getD 110 undef :: tm.getD 111 undef :: tm.getD 112 undef :: tm.getD 113 undef :: tm.getD 114 undef :: tm.getD 115 undef :: tm.getD 116 undef :: tm.getD 117 undef :: tm.getD 118 undef :: tm.getD 119 undef :: tm.getD 120 undef :: tm.getD 121 undef :: tm.getD 122 undef :: tm.getD 123 undef :: tm.getD 124 undef :: tm.getD 125 undef :: tm.getD 126 undef :: tm.getD 127 undef :: tm.getD 128 undef :: []) := arr_eq tm 129 hsz
          rw [d0, d1, d2, d3, d5, d19, d20, d21, d22, d23, d24, d25, d26, d27, d28, d29, d30, d31, d128] at e
          clear d0 d1 d2 d3 d5 d19 d20 d21 d22 d23 d24 d25 d26 d27 d28 d29 d30 d31 d128 hsz
          generalize tm.getD 4 undef = v4 at e
          generalize tm.getD 6 undef = v6 at e
          generalize tm.getD 7 undef = v7 at e
          generalize tm.getD 8 undef = v8 at e
          generalize tm.getD 9 undef = v9 at e
          generalize tm.getD 10 undef = v10 at e
          generalize tm.getD 11 undef = v11 at e
          generalize tm.getD 12 undef = v12 at e
          generalize tm.getD 13 undef = v13 at e
          generalize tm.getD 14 undef = v14 at e
          generalize tm.getD 15 undef = v15 at e
          generalize tm.getD 16 undef = v16 at e
          generalize tm.getD 17 undef = v17 at e
          generalize tm.getD 18 undef = v18 at e
          generalize tm.getD 32 undef = v32 at e
          generalize tm.getD 33 undef = v33 at e
          generalize tm.getD 34 undef = v34 at e
          generalize tm.getD 35 undef = v35 at e
          generalize tm.getD 36 undef = v36 at e
          generalize tm.getD 37 undef = v37 at e
          generalize tm.getD 38 undef = v38 at e
          generalize tm.getD 39 undef = v39 at e
          generalize tm.getD 40 undef = v40 at e
          generalize tm.getD 41 undef = v41 at e
          generalize tm.getD 42 undef = v42 at e
          generalize tm.getD 43 undef = v43 at e
          generalize tm.getD 44 undef = v44 at e
          generalize tm.getD 45 undef = v45 at e
          generalize tm.getD 46 undef = v46 at e
          generalize tm.getD 47 undef = v47 at e
          generalize tm.getD 48 undef = v48 at e
          generalize tm.getD 49 undef = v49 at e
          generalize tm.getD 50 undef = v50 at e
          generalize tm.getD 51 undef = v51 at e
          generalize tm.getD 52 undef = v52 at e
          generalize tm.getD 53 undef = v53 at e
          generalize tm.getD 54 undef = v54 at e
          generalize tm.getD 55 undef = v55 at e
          generalize tm.getD 56 undef = v56 at e
          generalize tm.getD 57 undef = v57 at e
          generalize tm.getD 58 undef = v58 at e
          generalize tm.getD 59 undef = v59 at e
          generalize tm.getD 60 undef = v60 at e
          generalize tm.getD 61 undef = v61 at e
          generalize tm.getD 62 undef = v62 at e
          generalize tm.getD 63 undef = v63 at e
          generalize tm.getD 64 undef = v64 at e
          generalize tm.getD 65 undef = v65 at e
          generalize tm.getD 66 undef = v66 at e
          generalize tm.getD 67 undef = v67 at e
          generalize tm.getD 68 undef = v68 at e
          generalize tm.getD 69 undef = v69 at e
          generalize tm.getD 70 undef = v70 at e
          generalize tm.getD 71 undef = v71 at e
          generalize tm.getD 72 undef = v72 at e
          generalize tm.getD 73 undef = v73 at e
          generalize tm.getD 74 undef = v74 at e
          generalize tm.getD 75 undef = v75 at e
          generalize tm.getD 76 undef = v76 at e
          generalize tm.getD 77 undef = v77 at e
          generalize tm.getD 78 undef = v78 at e
          generalize tm.getD 79 undef = v79 at e
          generalize tm.getD 80 undef = v80 at e
          generalize tm.getD 81 undef = v81 at e
          generalize tm.getD 82 undef = v82 at e
          generalize tm.getD 83 undef = v83 at e
          generalize tm.getD 84 undef = v84 at e
          generalize tm.getD 85 undef = v85 at e
          generalize tm.getD 86 undef = v86 at e
          generalize tm.getD 87 undef = v87 at e
          generalize tm.getD 88 undef = v88 at e
          generalize tm.getD 89 undef = v89 at e
          generalize tm.getD 90 undef = v90 at e
          generalize tm.getD 91 undef = v91 at e
          generalize tm.getD 92 undef = v92 at e
          generalize tm.getD 93 undef = v93 at e
          generalize tm.getD 94 undef = v94 at e
          generalize tm.getD 95 undef = v95 at e
          generalize tm.getD 96 undef = v96 at e
          generalize tm.getD 97 undef = v97 at e
          generalize tm.getD 98 undef = v98 at e
          generalize tm.getD 99 undef = v99 at e
          generalize tm.getD 100 undef = v100 at e
          generalize tm.getD 101 undef = v101 at e
          generalize tm.getD 102 undef = v102 at e
          generalize tm.getD 103 undef = v103 at e
          generalize tm.getD 104 undef = v104 at e
          generalize tm.getD 105 undef = v105 at e
          generalize tm.getD 106 undef = v106 at e
          generalize tm.getD 107 undef = v107 at e
          generalize tm.getD 108 undef = v108 at e
          generalize tm.getD 109 undef = v109 at e
          generalize tm.getD 110 undef = v110 at e
          generalize tm.getD 111 undef = v111 at e
          generalize tm.getD 112 undef = v112 at e
          generalize tm.getD 113 undef = v113 at e
          generalize tm.getD 114 undef = v114 at e
          generalize tm.getD 115 undef = v115 at e
          generalize tm.getD 116 undef = v116 at e
          generalize tm.getD 117 undef = v117 at e
          generalize tm.getD 118 undef = v118 at e
          generalize tm.getD 119 undef = v119 at e
          generalize tm.getD 120 undef = v120 at e
          generalize tm.getD 121 undef = v121 at e
          generalize tm.getD 122 undef = v122 at e
          generalize tm.getD 123 undef = v123 at e
          generalize tm.getD 124 undef = v124 at e
          generalize tm.getD 125 undef = v125 at e
          generalize tm.getD 126 undef = v126 at e
          generalize tm.getD 127 undef = v127 at e
          subst e
          have HC6 := Lib.hid (HB6.out.trans (hC.mono HB6.out.size))
          clear hC hval
          go_wp2_with fail
          go_roundw
          case rel => exact ⟨i + 1, by omega, by omega, by go_num, HC6.out⟩
          case measure => simp [RowKit.intOf]; omega
      · go_wp2_with fail
        go_ret
        exact ⟨rfl, HA.out.trans (HBw.out.mono HA.out.size)⟩
end Go.Proofs.Ytpncjadhpnapnaa.D12
