/- Chapter 10: numbers of addresses walked. -/
import Derived.Test.YtenbafolmmemgaaQv
import Derived.Test.YtenbafolmmemgaaInv
namespace Go.Proofs.Ytenbafolmmemgaa.W10
open Go.RowKit
set_option linter.unusedVariables false

/-- the number of an address -/
def nmb (m s f : Int) : Int := (60 * m + s) * 75 + f
theorem nmb_bd {m s f : Int} (h : vB m s f = true) : 0 ≤ nmb m s f ∧ nmb m s f < 450000 := by
  have := vB_true.1 h; unfold nmb; omega
set_option maxRecDepth 100000 in
theorem lba_any (m s f : Int) (w : World) (h : vB m s f = true) : Calls Try.prog 16 #[msfv m s f] w (R2B (.int .i64 (nmb m s f - 150)) (.int .i64 0) w) := by
  have HV := Lib.hid h
  have hbd := nmb_bd h
  have HN := Lib.hid (fun W => anumber_any m s f W (vB_true.1 h))
  clear h
  have HE : Hid ((60 * m + s) * 75 + f = nmb m s f) := Lib.hid rfl
  go_enter Try.func16, Try.ntmps16
  go_wp2_with fail
  refine (avalid_any m s f _).mono ?_
  rw [HV.out]
  rintro e w1 ⟨rfl, hb⟩
  have hM := (Bx.new w 25 [.int .i64 m, .int .i64 s, .int .i64 f]).call hb
  have hle := ((Below.refl w.heap.size w).alloc (Nat.le_refl _) (.cells #[.int .i64 m, .int .i64 s, .int .i64 f] 25)).trans (hb.mono (by simp))
  have c0 := hM.cell (i := 0) rfl
  have c1 := hM.cell (i := 1) rfl
  have c2 := hM.cell (i := 2) rfl
  clear hb hM
  go_wp2_with fail
  refine (HN.out _).mono ?_
  rw [HE.out]
  rintro e w2 ⟨rfl, hb2⟩
  go_wp2_with fail
  go_ret2
  exact ⟨rfl, hle.trans (hb2.mono hle.size)⟩
set_option maxRecDepth 100000 in
theorem lba_no (m s f : Int) (w : World) (h : vB m s f = false) : Calls Try.prog 16 #[msfv m s f] w (R2B (.int .i64 0) (.int .i64 1) w) := by
  have HV := Lib.hid h
  clear h
  go_enter Try.func16, Try.ntmps16
  go_wp2_with fail
  refine (avalid_any m s f _).mono ?_
  rw [HV.out]
  rintro e w1 ⟨rfl, hb⟩
  have hle := ((Below.refl w.heap.size w).alloc (Nat.le_refl _) (.cells #[.int .i64 m, .int .i64 s, .int .i64 f] 25)).trans (hb.mono (by simp))
  go_wp2_with fail
  go_ret2
  exact ⟨rfl, hle⟩
set_option maxRecDepth 100000 in
theorem rlba_any (m s f : Int) (w : World) (h : vB m s f = true) : Calls Try.prog 45 #[msfv m s f] w (R2B (.int .i64 (nmb m s f - 150)) (.int .i64 0) w) := by
  have HV := Lib.hid h
  have hbd := nmb_bd h
  have HN := Lib.hid (fun W => rnumber_any m s f W (vB_true.1 h))
  clear h
  have HE : Hid ((60 * m + s) * 75 + f = nmb m s f) := Lib.hid rfl
  go_enter Try.func45, Try.ntmps45
  go_wp2_with fail
  refine (rvalid6_any m s f _).mono ?_
  rw [HV.out]
  rintro e w1 ⟨rfl, hb⟩
  have hM := (Bx.new w 25 [.int .i64 m, .int .i64 s, .int .i64 f]).call hb
  have hle := ((Below.refl w.heap.size w).alloc (Nat.le_refl _) (.cells #[.int .i64 m, .int .i64 s, .int .i64 f] 25)).trans (hb.mono (by simp))
  have c0 := hM.cell (i := 0) rfl
  have c1 := hM.cell (i := 1) rfl
  have c2 := hM.cell (i := 2) rfl
  clear hb hM
  go_wp2_with fail
  refine (HN.out _).mono ?_
  rw [HE.out]
  rintro e w2 ⟨rfl, hb2⟩
  go_wp2_with fail
  go_ret2
  exact ⟨rfl, hle.trans (hb2.mono hle.size)⟩
set_option maxRecDepth 100000 in
theorem rlba_no (m s f : Int) (w : World) (h : vB m s f = false) : Calls Try.prog 45 #[msfv m s f] w (R2B (.int .i64 0) (.int .i64 1) w) := by
  have HV := Lib.hid h
  clear h
  go_enter Try.func45, Try.ntmps45
  go_wp2_with fail
  refine (rvalid6_any m s f _).mono ?_
  rw [HV.out]
  rintro e w1 ⟨rfl, hb⟩
  have hle := ((Below.refl w.heap.size w).alloc (Nat.le_refl _) (.cells #[.int .i64 m, .int .i64 s, .int .i64 f] 25)).trans (hb.mono (by simp))
  go_wp2_with fail
  go_ret2
  exact ⟨rfl, hle⟩
def disV (m s f x y z : Int) (i : Nat) (v : Value) (W : World) : Prop := match i with
  | 0 => v = msfv x y z
  | 1 => v = .int .i64 (nmb x y z)
  | 2 => v = msfv m s f
  | 3 => v = .int .i64 (nmb m s f)
  | 4 => v = .int .i64 (nmb x y z - nmb m s f)
  | 5 => v = .int .i64 (nmb x y z - nmb m s f)
  | 6 => v = .int .i64 0
  | _ => True
set_option maxRecDepth 100000 in
set_option maxHeartbeats 2000000 in
theorem dist_any (m s f x y z : Int) (w : World) (h1 : vB m s f = true) (h2 : vB x y z = true) : Calls Try.prog 17 #[msfv m s f, msfv x y z] w (R2B (.int .i64 (nmb x y z - nmb m s f)) (.int .i64 0) w) := by
  have HV := Lib.hid h1
  have HW := Lib.hid h2
  have b1 := nmb_bd h1
  have b2 := nmb_bd h2
  have HN := Lib.hid (fun W => anumber_any m s f W (vB_true.1 h1))
  have HM := Lib.hid (fun W => anumber_any x y z W (vB_true.1 h2))
  clear h1 h2
  have hA0 : Bx ((w.alloc (.cells #[.int .i64 m, .int .i64 s, .int .i64 f] 25)).alloc (.cells #[.int .i64 x, .int .i64 y, .int .i64 z] 25)) w.heap.size 25 [.int .i64 m, .int .i64 s, .int .i64 f] := (Bx.new w 25 [.int .i64 m, .int .i64 s, .int .i64 f]).alloc _
  have hB0 : Bx ((w.alloc (.cells #[.int .i64 m, .int .i64 s, .int .i64 f] 25)).alloc (.cells #[.int .i64 x, .int .i64 y, .int .i64 z] 25)) (w.heap.size + 1) 25 [.int .i64 x, .int .i64 y, .int .i64 z] := heap_alloc2_new _ _ _
  have hle0 := ((Below.refl w.heap.size w).alloc (Nat.le_refl _) (.cells #[.int .i64 m, .int .i64 s, .int .i64 f] 25)).alloc (by simp) (.cells #[.int .i64 x, .int .i64 y, .int .i64 z] 25)
  have HA0 := Lib.hid hA0
  have HB0 := Lib.hid hB0
  clear hA0 hB0
  go_enter Try.func17, Try.ntmps17
  go_wp2_with fail
  refine (avalid_any m s f _).mono ?_
  rw [HV.out]
  rintro e w1 ⟨rfl, hb1⟩
  have hA1 := HA0.out.call hb1
  have hB1 := HB0.out.call hb1
  have hle1 := hle0.trans (hb1.mono hle0.size)
  have c0 := hB1.cell (i := 0) rfl
  have c1 := hB1.cell (i := 1) rfl
  have c2 := hB1.cell (i := 2) rfl
  clear hb1 hle0 HA0 HB0
  go_wp2_with fail
  refine (avalid_any x y z _).mono ?_
  rw [HW.out]
  rintro e w2 ⟨rfl, hb2⟩
  have hA2 := hA1.call hb2
  have hB2 := hB1.call hb2
  have hle2 := hle1.trans (hb2.mono hle1.size)
  clear hb2 hle1 hA1 hB1 c0 c1 c2
  obtain ⟨gA, hgA⟩ : ∃ gA, gA = w.heap.size := ⟨_, rfl⟩
  rw [← hgA] at hA2
  rw [← hgA] at hB2
  go_upto_region 3 with (fail)
  simp only [← hgA]
  clear hgA
  refine wp_region_inv (by kernel_rfl) (fun W => (Bx W gA 25 [.int .i64 m, .int .i64 s, .int .i64 f] ∧ Bx W (gA + 1) 25 [.int .i64 x, .int .i64 y, .int .i64 z]) ∧ Below w.heap.size w W) (disV m s f x y z) (by kernel_rfl) (fun W W' hb h => ⟨⟨h.1.1.call hb, h.1.2.call hb⟩, h.2.trans (hb.mono h.2.size)⟩) (fun i v W W' hb h => h) ⟨⟨hA2, hB2⟩, hle2.drew⟩ ⟨?_, ?_, ?_, ?_, ?_, ?_, ?_, trivial⟩ ?_
  · intro a W hc hsz hold hdep
    have o3 : a.tmps.getD 3 undef = .pointer (some ⟨gA + 1, 0, none⟩) := hold 3 (by kernel_rfl)
    have c0 := hc.1.2.cell (i := 0) rfl
    have c1 := hc.1.2.cell (i := 1) rfl
    have c2 := hc.1.2.cell (i := 2) rfl
    clear hsz hold hdep
    refine stepVal (v := msfv x y z) rfl fun K hK => ?_
    go_simp
    exact hK
  · intro a W hc hsz hold hdep
    have d0 : a.tmps.getD 14 undef = msfv x y z := hdep 0 (by kernel_rfl) _ 14 rfl rfl
    clear hsz hold hdep
    refine stepCall (v := .int .i64 (nmb x y z)) (fun _ => rfl) fun K hK => ?_
    go_simp
    refine (HM.out _).mono ?_
    rintro e w' ⟨rfl, hb'⟩
    exact hK _ hb'
  · intro a W hc hsz hold hdep
    have o2 : a.tmps.getD 2 undef = .pointer (some ⟨gA, 0, none⟩) := hold 2 (by kernel_rfl)
    have c0 := hc.1.1.cell (i := 0) rfl
    have c1 := hc.1.1.cell (i := 1) rfl
    have c2 := hc.1.1.cell (i := 2) rfl
    clear hsz hold hdep
    refine stepVal (v := msfv m s f) rfl fun K hK => ?_
    go_simp
    exact hK
  · intro a W hc hsz hold hdep
    have d2 : a.tmps.getD 16 undef = msfv m s f := hdep 2 (by kernel_rfl) _ 16 rfl rfl
    clear hsz hold hdep
    refine stepCall (v := .int .i64 (nmb m s f)) (fun _ => rfl) fun K hK => ?_
    go_simp
    refine (HN.out _).mono ?_
    rintro e w' ⟨rfl, hb'⟩
    exact hK _ hb'
  · intro a W hc hsz hold hdep
    have d1 : a.tmps.getD 15 undef = .int .i64 (nmb x y z) := hdep 1 (by kernel_rfl) _ 15 rfl rfl
    have d3 : a.tmps.getD 17 undef = .int .i64 (nmb m s f) := hdep 3 (by kernel_rfl) _ 17 rfl rfl
    have hw : IntKind.i64.wrap (nmb x y z - nmb m s f) = nmb x y z - nmb m s f := IntWalk.i64_in _ (by omega)
    clear hsz hold hdep
    refine stepVal (v := .int .i64 (nmb x y z - nmb m s f)) rfl fun K hK => ?_
    go_simp
    exact hK
  · intro a W hc hsz hold hdep
    have d4 : a.tmps.getD 18 undef = .int .i64 (nmb x y z - nmb m s f) := hdep 4 (by kernel_rfl) _ 18 rfl rfl
    clear hsz hold hdep
    refine stepVal (v := .int .i64 (nmb x y z - nmb m s f)) rfl fun K hK => ?_
    go_simp
    exact hK
  · intro a W hc hsz hold hdep
    clear hsz hold hdep
    refine stepVal (v := .int .i64 0) rfl fun K hK => ?_
    go_simp
    exact hK
  · intro a W hC hd hsz hold hval
    have d5 : a.tmps.getD 4 undef = .int .i64 (nmb x y z - nmb m s f) := hval 5 _ 4 rfl rfl
    have d6 : a.tmps.getD 5 undef = .int .i64 0 := hval 6 _ 5 rfl rfl
    have hle3 := hC.2
    clear hC hold hval
    obtain ⟨tm, df⟩ := a
    replace hd : df = [] := hd
    replace hsz : tm.size = 19 := hsz
    replace d5 : tm.getD 4 undef = .int .i64 (nmb x y z - nmb m s f) := d5
    replace d6 : tm.getD 5 undef = .int .i64 0 := d6
    subst hd
    have e : tm = #[tm.getD 0 undef, tm.getD 1 undef, tm.getD 2 undef, tm.getD 3 undef, tm.getD 4 undef, tm.getD 5 undef, tm.getD 6 undef, tm.getD 7 undef, tm.getD 8 undef, tm.getD 9 undef, tm.getD 10 undef, tm.getD 11 undef, tm.getD 12 undef, tm.getD 13 undef, tm.getD 14 undef, tm.getD 15 undef, tm.getD 16 undef, tm.getD 17 undef, tm.getD 18 undef] := arr_eq tm 19 hsz
    rw [d5, d6] at e
    clear d5 d6 hsz
    generalize tm.getD 0 undef = v0 at e
    generalize tm.getD 1 undef = v1 at e
    generalize tm.getD 2 undef = v2 at e
    generalize tm.getD 3 undef = v3 at e
    generalize tm.getD 6 undef = v6 at e
    generalize tm.getD 7 undef = v7 at e
    generalize tm.getD 8 undef = v8 at e
    generalize tm.getD 9 undef = v9 at e
    generalize tm.getD 10 undef = v10 at e
    generalize tm.getD 11 undef = v11 at e
    generalize tm.getD 12 undef = v12 at e
    generalize tm.getD 13 undef = v13 at e
    generalize tm.getD 14 undef = v14 at e
    generalize tm.getD 15 undef = v15 at e
    generalize tm.getD 16 undef = v16 at e
    generalize tm.getD 17 undef = v17 at e
    generalize tm.getD 18 undef = v18 at e
    subst e
    go_wp2_with fail
    go_ret2
    exact ⟨rfl, hle3⟩
end Go.Proofs.Ytenbafolmmemgaa.W10
