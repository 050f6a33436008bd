/- Chapter 10: Decode of the reference walked. -/
import Derived.Test.YtenbafolmmemgaaQh
import Derived.Test.YtenbafolmmemgaaQg
import Derived.Test.YtenbafolmmemgaaInd
namespace Go.Proofs.Ytenbafolmmemgaa.W10
open Go.RowKit
set_option linter.unusedVariables false

set_option maxRecDepth 100000 in
set_option maxHeartbeats 4000000 in
theorem rdec_1 (l : List UInt8) (w : World) (h : l.length ≠ 12) (h2 : l.length ≤ 1000000) : Calls Try.prog 24 #[.string (str l)] w (FP (decR l) w) := by
  have hd : decR l = (Q.z, 1) := decR_len h
  have hsz := str_size l
  have hn : (((str l).size : Int) == 12) = false := by rw [hsz]; simp; omega
  have HD := Lib.hid hd
  have hm : (str l).size ≤ 1000000 := by omega
  clear hd h h2 hsz
  rw [HD.out]
  generalize str l = S at hn hm ⊢
  go_enter Try.func24, Try.ntmps24
  go_wp2_with fail
  exact bodyPost_ret (v := .tuple #[fagg Q.z, .int .i64 1]) (by simp [results, Try.results24, go_sem, Q.z]) rfl ⟨rfl, (Below.refl _ _).alloc (Nat.le_refl _) _⟩
def rdec3V (l : List UInt8) (nb : Bool) (i : Nat) (v : Value) (W : World) : Prop := match i with
  | 0 => v = .string (str l)
  | 1 => v = .string (str (l.drop 10))
  | 2 => v = .string (str l)
  | 3 => v = .string (str (l.take 10))
  | 4 => v = .string (str (chk (l.take 10)))
  | 5 => v = .bool nb
  | _ => True
theorem rdec3V_keep (l : List UInt8) (nb : Bool) (i : Nat) (v : Value) (W W' : World) (hR : (fun w W => Below w.heap.size w W) W W') (h : rdec3V l nb i v W) : rdec3V l nb i v W' := by
  unfold rdec3V at h ⊢
  split at h <;> first | exact h
set_option maxRecDepth 100000 in
set_option maxHeartbeats 4000000 in
theorem rdec_2 (l : List UInt8) (w : World) (h : l.length = 12) (h2 : chk (l.take 10) ≠ l.drop 10) : Calls Try.prog 24 #[.string (str l)] w (FP (decR l) w) := by
  have hd : decR l = (Q.z, 9) := decR_chk h h2
  have HD := Lib.hid hd
  have hsz : (str l).size = 12 := by rw [str_size, h]
  have HL := Lib.hid h
  obtain ⟨nb, hnb⟩ : ∃ nb, nb = true := ⟨_, rfl⟩
  have HNB : Hid (((str (l.drop 10)).toList == (str (chk (l.take 10))).toList) = !nb) := Lib.hid (by rw [hnb]; exact str_other (Ne.symm h2))
  have HCK : Hid (∀ W, Calls Try.prog 49 #[.string (str (l.take 10))] W (RV (.string (str (chk (l.take 10)))) W)) := Lib.hid fun W => rcheck_any (str (l.take 10)) W (by rw [str_size]; simp; omega)
  clear hd h h2
  rw [HD.out]
  have HNT := Lib.hid hnb
  clear hnb
  go_enter Try.func24, Try.ntmps24
  go_upto_region 3 with (fail)
  have hR : FB (w.alloc (fobj Q.z)) w.heap.size Q.z := Bx.new _ _ _
  have hle := (Below.refl w.heap.size w).alloc (Nat.le_refl _) (fobj Q.z)
  refine wp_region_inr (by kernel_rfl) (fun w W => Below w.heap.size w W) (fun W => FB W w.heap.size Q.z ∧ Below w.heap.size w W) (rdec3V l nb) (fun _ => false) (by kernel_rfl) (fun W W' hb h => ⟨h.1.call hb, h.2.trans (hb.mono h.2.size)⟩) (rdec3V_keep l nb) (⟨hR, hle.drew⟩) ⟨?_, ?_, ?_, ?_, ?_, ?_, trivial⟩ ?_
  · intro a W hc hsz hold hdep
    have o0 : a.tmps.getD 0 undef = .string (str l) := hold 0 (by kernel_rfl)
    clear hsz hold hdep
    refine stepR_do rfl (wanted_none rfl) ?_
    refine stepR_val (v := .string (str l)) (Below.refl _ _) rfl fun K hK => ?_
    go_simp
    exact hK
  · intro a W hc hsz hold hdep
    have d0 : a.tmps.getD 17 undef = .string (str l) := hdep 0 (by kernel_rfl) rfl _ rfl
    have hx := ext_drop l HL.out
    have hs : (str l).size = 12 := by rw [str_size, HL.out]
    clear hsz hold hdep
    refine stepR_do rfl (wanted_none rfl) ?_
    refine stepR_val (v := .string (str (l.drop 10))) (Below.refl _ _) rfl fun K hK => ?_
    go_simp
    exact hK
  · intro a W hc hsz hold hdep
    have o0 : a.tmps.getD 0 undef = .string (str l) := hold 0 (by kernel_rfl)
    clear hsz hold hdep
    refine stepR_do rfl (wanted_none rfl) ?_
    refine stepR_val (v := .string (str l)) (Below.refl _ _) rfl fun K hK => ?_
    go_simp
    exact hK
  · intro a W hc hsz hold hdep
    have d2 : a.tmps.getD 19 undef = .string (str l) := hdep 2 (by kernel_rfl) rfl _ rfl
    have hx := ext_str l 10
    have hs : (str l).size = 12 := by rw [str_size, HL.out]
    clear hsz hold hdep
    refine stepR_do rfl (wanted_none rfl) ?_
    refine stepR_val (v := .string (str (l.take 10))) (Below.refl _ _) rfl fun K hK => ?_
    go_simp
    exact hK
  · intro a W hc hsz hold hdep
    have d3 : a.tmps.getD 20 undef = .string (str (l.take 10)) := hdep 3 (by kernel_rfl) rfl _ rfl
    have e3 : a.tmps[20]?.getD undef = .string (str (l.take 10)) := by rw [← Array.getD_eq_getD_getElem?]; exact d3
    clear hsz hold hdep
    refine stepR_do rfl (wanted_none rfl) ?_
    refine stepR_call (v := .string (str (chk (l.take 10)))) (fun W' hb => hb) (fun _ => rfl) fun K hK => ?_
    go_simp
    refine (HCK.out _).mono ?_
    rintro e w' ⟨rfl, hb'⟩
    exact hK _ hb'
  · intro a W hc hsz hold hdep
    have d1 : a.tmps.getD 18 undef = .string (str (l.drop 10)) := hdep 1 (by kernel_rfl) rfl _ rfl
    have d4 : a.tmps.getD 21 undef = .string (str (chk (l.take 10))) := hdep 4 (by kernel_rfl) rfl _ rfl
    have hs := HNB.out
    clear hsz hold hdep
    refine stepR_do rfl (wanted_none rfl) ?_
    refine stepR_val (v := .bool nb) (Below.refl _ _) rfl fun K hK => ?_
    go_simp
    exact hK
  · intro a W hC hd hsz hold hval
    have d22 : a.tmps.getD 22 undef = .bool nb := hval 5 _ rfl rfl
    have d2 : a.tmps.getD 2 undef = .pointer (some ⟨w.heap.size, 0, none⟩) := hold 2 (by kernel_rfl)
    clear hold
    obtain ⟨tm, df⟩ := a
    replace hd : df = [] := hd
    replace hsz : tm.size = 99 := hsz
    replace d22 : tm.getD 22 undef = .bool nb := d22
    replace d2 : tm.getD 2 undef = .pointer (some ⟨w.heap.size, 0, none⟩) := d2
    subst hd
    have e : tm = List.toArray (tm.getD 0 undef :: tm.getD 1 undef :: tm.getD 2 undef :: tm.getD 3 undef :: tm.getD 4 undef :: tm.getD 5 undef :: tm.getD 6 undef :: tm.getD 7 undef :: tm.getD 8 undef :: tm.getD 9 undef :: tm.getD 10 undef :: tm.getD 11 undef :: tm.getD 12 undef :: tm.getD 13 undef :: tm.getD 14 undef :: tm.getD 15 undef :: tm.getD 16 undef :: tm.getD 17 undef :: tm.getD 18 undef :: tm.getD 19 undef :: tm.getD 20 undef :: tm.getD 21 undef :: tm.getD 22 undef :: tm.getD 23 undef :: tm.getD 24 undef :: tm.getD 25 undef :: tm.getD 26 undef :: tm.getD 27 undef :: tm.getD 28 undef :: tm.getD 29 undef :: tm.getD 30 undef :: tm.getD 31 undef :: tm.getD 32 undef :: tm.getD 33 undef :: tm.getD 34 undef :: tm.getD 35 undef :: tm.getD 36 undef :: tm.getD 37 undef :: tm.getD 38 undef :: tm.getD 39 undef :: tm.getD 40 undef :: tm.getD 41 undef :: tm.getD 42 undef :: tm.getD 43 undef :: tm.getD 44 undef :: tm.getD 45 undef :: tm.getD 46 undef :: tm.getD 47 undef :: tm.getD 48 undef :: tm.getD 49 undef :: tm.getD 50 undef :: tm.getD 51 undef :: tm.getD 52 undef :: tm.getD 53 undef :: tm.getD 54 undef :: tm.getD 55 undef :: tm.getD 56 undef :: tm.getD 57 undef :: tm.getD 58 undef :: tm.getD 59 undef :: tm.getD 60 undef :: tm.getD 61 undef :: tm.getD 62 undef :: tm.getD 63 undef :: tm.getD 64 undef :: tm.getD 65 undef :: tm.getD 66 undef :: tm.getD 67 undef :: tm.getD 68 undef :: tm.getD 69 undef :: tm.getD 70 undef :: tm.getD 71 undef :: tm.getD 72 undef :: tm.getD 73 undef :: tm.getD 74 undef :: tm.getD 75 undef :: tm.getD 76 undef :: tm.getD 77 undef :: tm.getD 78 undef :: tm.getD 79 undef :: tm.getD 80 undef :: tm.getD 81 undef :: tm.getD 82 undef :: tm.getD 83 undef :: tm.getD 84 undef :: tm.getD 85 undef :: tm.getD 86 undef :: tm.getD 87 undef :: tm.getD 88 undef :: tm.getD 89 undef :: tm.getD 90 undef :: tm.getD 91 undef :: tm.getD 92 undef :: tm.getD 93 undef :: tm.getD 94 undef :: tm.getD 95 undef :: tm.getD 96 undef :: tm.getD 97 undef :: tm.getD 98 undef :: []) := arr_eq tm 99 hsz
    rw [d22, d2] at e
    clear d22 d2 hsz
    generalize tm.getD 0 undef = v0 at e
    generalize tm.getD 1 undef = v1 at e
    generalize tm.getD 3 undef = v3 at e
    generalize tm.getD 4 undef = v4 at e
    generalize tm.getD 5 undef = v5 at e
    generalize tm.getD 6 undef = v6 at e
    generalize tm.getD 7 undef = v7 at e
    generalize tm.getD 8 undef = v8 at e
    generalize tm.getD 9 undef = v9 at e
    generalize tm.getD 10 undef = v10 at e
    generalize tm.getD 11 undef = v11 at e
    generalize tm.getD 12 undef = v12 at e
    generalize tm.getD 13 undef = v13 at e
    generalize tm.getD 14 undef = v14 at e
    generalize tm.getD 15 undef = v15 at e
    generalize tm.getD 16 undef = v16 at e
    generalize tm.getD 17 undef = v17 at e
    generalize tm.getD 18 undef = v18 at e
    generalize tm.getD 19 undef = v19 at e
    generalize tm.getD 20 undef = v20 at e
    generalize tm.getD 21 undef = v21 at e
    generalize tm.getD 23 undef = v23 at e
    generalize tm.getD 24 undef = v24 at e
    generalize tm.getD 25 undef = v25 at e
    generalize tm.getD 26 undef = v26 at e
    generalize tm.getD 27 undef = v27 at e
    generalize tm.getD 28 undef = v28 at e
    generalize tm.getD 29 undef = v29 at e
    generalize tm.getD 30 undef = v30 at e
    generalize tm.getD 31 undef = v31 at e
    generalize tm.getD 32 undef = v32 at e
    generalize tm.getD 33 undef = v33 at e
    generalize tm.getD 34 undef = v34 at e
    generalize tm.getD 35 undef = v35 at e
    generalize tm.getD 36 undef = v36 at e
    generalize tm.getD 37 undef = v37 at e
    generalize tm.getD 38 undef = v38 at e
    generalize tm.getD 39 undef = v39 at e
    generalize tm.getD 40 undef = v40 at e
    generalize tm.getD 41 undef = v41 at e
    generalize tm.getD 42 undef = v42 at e
    generalize tm.getD 43 undef = v43 at e
    generalize tm.getD 44 undef = v44 at e
    generalize tm.getD 45 undef = v45 at e
    generalize tm.getD 46 undef = v46 at e
    generalize tm.getD 47 undef = v47 at e
    generalize tm.getD 48 undef = v48 at e
    generalize tm.getD 49 undef = v49 at e
    generalize tm.getD 50 undef = v50 at e
    generalize tm.getD 51 undef = v51 at e
    generalize tm.getD 52 undef = v52 at e
    generalize tm.getD 53 undef = v53 at e
    generalize tm.getD 54 undef = v54 at e
    generalize tm.getD 55 undef = v55 at e
    generalize tm.getD 56 undef = v56 at e
    generalize tm.getD 57 undef = v57 at e
    generalize tm.getD 58 undef = v58 at e
    generalize tm.getD 59 undef = v59 at e
    generalize tm.getD 60 undef = v60 at e
    generalize tm.getD 61 undef = v61 at e
    generalize tm.getD 62 undef = v62 at e
    generalize tm.getD 63 undef = v63 at e
    generalize tm.getD 64 undef = v64 at e
    generalize tm.getD 65 undef = v65 at e
    generalize tm.getD 66 undef = v66 at e
    generalize tm.getD 67 undef = v67 at e
    generalize tm.getD 68 undef = v68 at e
    generalize tm.getD 69 undef = v69 at e
    generalize tm.getD 70 undef = v70 at e
    generalize tm.getD 71 undef = v71 at e
    generalize tm.getD 72 undef = v72 at e
    generalize tm.getD 73 undef = v73 at e
    generalize tm.getD 74 undef = v74 at e
    generalize tm.getD 75 undef = v75 at e
    generalize tm.getD 76 undef = v76 at e
    generalize tm.getD 77 undef = v77 at e
    generalize tm.getD 78 undef = v78 at e
    generalize tm.getD 79 undef = v79 at e
    generalize tm.getD 80 undef = v80 at e
    generalize tm.getD 81 undef = v81 at e
    generalize tm.getD 82 undef = v82 at e
    generalize tm.getD 83 undef = v83 at e
    generalize tm.getD 84 undef = v84 at e
    generalize tm.getD 85 undef = v85 at e
    generalize tm.getD 86 undef = v86 at e
    generalize tm.getD 87 undef = v87 at e
    generalize tm.getD 88 undef = v88 at e
    generalize tm.getD 89 undef = v89 at e
    generalize tm.getD 90 undef = v90 at e
    generalize tm.getD 91 undef = v91 at e
    generalize tm.getD 92 undef = v92 at e
    generalize tm.getD 93 undef = v93 at e
    generalize tm.getD 94 undef = v94 at e
    generalize tm.getD 95 undef = v95 at e
    generalize tm.getD 96 undef = v96 at e
    generalize tm.getD 97 undef = v97 at e
    generalize tm.getD 98 undef = v98 at e
    subst e
    have hF := hC.1
    have hle2 := hC.2
    rw [HNT.out]
    obtain ⟨q0, q1, q2, q3, q4, q5, q6, q7, q8⟩ := fcs_cells hF
    have hf := hF.free
    have hlt := hF.lt
    have HF : Hid (FB (setN W w.heap.size 0 (fcs Q.z)) w.heap.size Q.z) := Lib.hid (hF.setN (fcs Q.z) 0)
    have HLE := Lib.hid (Below.setN (Nat.le_refl _) (fcs Q.z) 0 hle2)
    clear hC hF hval hle2
    go_wp2_with fail
    obtain ⟨r0, r1, r2, r3, r4, r5, r6, r7, r8⟩ := fcs_cells HF.out
    simp only [setN, fcs, Q.z, Nat.zero_add, Nat.reduceAdd] at r0 r1 r2 r3 r4 r5 r6 r7 r8
    exact bodyPost_ret (v := .tuple #[fagg Q.z, .int .i64 9]) (by simp [results, Try.results24, go_sem, Q.z, r0, r1, r2, r3, r4, r5, r6, r7, r8]) rfl ⟨rfl, HLE.out⟩
/-- the frame at first -/
def q9 (l : List UInt8) : Q.Fr := ⟨bn l 0 / 16, 0, 0, dM (bn l 3) (bn l 4) (bn l 5), dS (bn l 3) (bn l 4) (bn l 5), dF (bn l 3) (bn l 4) (bn l 5), dM (bn l 7) (bn l 8) (bn l 9), dS (bn l 7) (bn l 8) (bn l 9), dF (bn l 7) (bn l 8) (bn l 9)⟩
def rdec9V (l : List UInt8) (B g7 g9 : Nat) (i : Nat) (v : Value) (d : Nat → Value) (W : World) : Prop := match i with
  | 0 => v = .string (str l)
  | 1 => v = .int .u8 (bn l 0)
  | 2 => v = .int .u8 (bn l 0 / 16)
  | 3 => v = .int .i64 (bn l 0 / 16)
  | 4 => v = msfv (dM (bn l 3) (bn l 4) (bn l 5)) (dS (bn l 3) (bn l 4) (bn l 5)) (dF (bn l 3) (bn l 4) (bn l 5))
  | 5 => v = msfv (dM (bn l 7) (bn l 8) (bn l 9)) (dS (bn l 7) (bn l 8) (bn l 9)) (dF (bn l 7) (bn l 8) (bn l 9))
  | 6 => v = fagg (q9 l)
  | 7 => ∃ g, v = .pointer (some ⟨g, 0, none⟩) ∧ B ≤ g ∧ ∃ cs : List Value, cs.length = (fcs (q9 l)).length ∧ Bx W g 27 cs
  | 8 => ∃ g, d 7 = .pointer (some ⟨g, 0, none⟩) ∧ B ≤ g ∧ FB W g (q9 l)
  | _ => True
theorem rdec9V_keep (l : List UInt8) (B g7 g9 : Nat) (i : Nat) (v : Value) (d : Nat → Value) (W W' : World) (hR : (RegN B 27 (fcs (q9 l))) W W') (h : rdec9V l B g7 g9 i v d W) : rdec9V l B g7 g9 i v d W' := by
  by_cases h7 : i = 7
  · subst h7
    obtain ⟨g, h1, h2, h3⟩ := h
    exact ⟨g, h1, h2, hR.2.1 g h3⟩
  by_cases h8 : i = 8
  · subst h8
    obtain ⟨g, h1, h2, h3⟩ := h
    exact ⟨g, h1, h2, hR.2.2 g h3⟩
  unfold rdec9V at h ⊢
  split at h <;> first | exact h | exact absurd rfl h7 | exact absurd rfl h8
set_option maxRecDepth 100000 in
set_option maxHeartbeats 8000000 in
theorem rdec_3 (l : List UInt8) (w : World) (h : l.length = 12) (h2 : chk (l.take 10) = l.drop 10) : Calls Try.prog 24 #[.string (str l)] w (FP (decR l) w) := by
  have hsz : (str l).size = 12 := by rw [str_size, h]
  have HL := Lib.hid h
  obtain ⟨nb, hnb⟩ : ∃ nb, nb = false := ⟨_, rfl⟩
  have HNB : Hid (((str (l.drop 10)).toList == (str (chk (l.take 10))).toList) = !nb) := Lib.hid (by rw [hnb]; exact str_same h2.symm)
  have HCK : Hid (∀ W, Calls Try.prog 49 #[.string (str (l.take 10))] W (RV (.string (str (chk (l.take 10)))) W)) := Lib.hid fun W => rcheck_any (str (l.take 10)) W (by rw [str_size]; simp; omega)
  have hDec : ∀ w1, Below w.heap.size w w1 → (Is (rcand l) l → FP (decR l) w (.returned (.tuple #[fagg (rcand l), .int .i64 0])) w1) ∧ (¬ Is (rcand l) l → FP (decR l) w (.returned (.tuple #[fagg Q.z, .int .i64 10])) w1) := fun w1 hb =>
    ⟨fun hi => by
      have hi' := rIs.2 hi
      have he : cand l = rcand l := (hi.cand.1)
      rw [decR_yes h h2 hi', he]; exact ⟨rfl, hb⟩, fun hi => by rw [decR_no h h2 (fun e => hi (rIs.1 e))]; exact ⟨rfl, hb⟩⟩
  have HDec := Lib.hid hDec
  have ix := fun (k : Nat) (hk : k < 12) (i : Int) (hi : i = k) (W : World) => run_bn (P := Try.prog) Try.underlying9 l k (by omega) i hi W
  have hx0 := ix 0 (by omega) 0 rfl
  have hx1 := ix 1 (by omega) 1 rfl
  have hx2 := ix 2 (by omega) 2 rfl
  have hx6 := ix 6 (by omega) 6 rfl
  clear ix hDec h h2
  have HNT := Lib.hid hnb
  clear hnb
  go_enter Try.func24, Try.ntmps24
  go_upto_region 3 with (fail)
  have hR : FB (w.alloc (fobj Q.z)) w.heap.size Q.z := Bx.new _ _ _
  have hle := (Below.refl w.heap.size w).alloc (Nat.le_refl _) (fobj Q.z)
  refine wp_region_inr (by kernel_rfl) (fun w W => Below w.heap.size w W) (fun W => FB W w.heap.size Q.z ∧ Below w.heap.size w W) (rdec3V l nb) (fun _ => false) (by kernel_rfl) (fun W W' hb h => ⟨h.1.call hb, h.2.trans (hb.mono h.2.size)⟩) (rdec3V_keep l nb) (⟨hR, hle.drew⟩) ⟨?_, ?_, ?_, ?_, ?_, ?_, trivial⟩ ?_
  · intro a W hc hsz hold hdep
    have o0 : a.tmps.getD 0 undef = .string (str l) := hold 0 (by kernel_rfl)
    clear hsz hold hdep
    refine stepR_do rfl (wanted_none rfl) ?_
    refine stepR_val (v := .string (str l)) (Below.refl _ _) rfl fun K hK => ?_
    go_simp
    exact hK
  · intro a W hc hsz hold hdep
    have d0 : a.tmps.getD 17 undef = .string (str l) := hdep 0 (by kernel_rfl) rfl _ rfl
    have hx := ext_drop l HL.out
    have hs : (str l).size = 12 := by rw [str_size, HL.out]
    clear hsz hold hdep
    refine stepR_do rfl (wanted_none rfl) ?_
    refine stepR_val (v := .string (str (l.drop 10))) (Below.refl _ _) rfl fun K hK => ?_
    go_simp
    exact hK
  · intro a W hc hsz hold hdep
    have o0 : a.tmps.getD 0 undef = .string (str l) := hold 0 (by kernel_rfl)
    clear hsz hold hdep
    refine stepR_do rfl (wanted_none rfl) ?_
    refine stepR_val (v := .string (str l)) (Below.refl _ _) rfl fun K hK => ?_
    go_simp
    exact hK
  · intro a W hc hsz hold hdep
    have d2 : a.tmps.getD 19 undef = .string (str l) := hdep 2 (by kernel_rfl) rfl _ rfl
    have hx := ext_str l 10
    have hs : (str l).size = 12 := by rw [str_size, HL.out]
    clear hsz hold hdep
    refine stepR_do rfl (wanted_none rfl) ?_
    refine stepR_val (v := .string (str (l.take 10))) (Below.refl _ _) rfl fun K hK => ?_
    go_simp
    exact hK
  · intro a W hc hsz hold hdep
    have d3 : a.tmps.getD 20 undef = .string (str (l.take 10)) := hdep 3 (by kernel_rfl) rfl _ rfl
    have e3 : a.tmps[20]?.getD undef = .string (str (l.take 10)) := by rw [← Array.getD_eq_getD_getElem?]; exact d3
    clear hsz hold hdep
    refine stepR_do rfl (wanted_none rfl) ?_
    refine stepR_call (v := .string (str (chk (l.take 10)))) (fun W' hb => hb) (fun _ => rfl) fun K hK => ?_
    go_simp
    refine (HCK.out _).mono ?_
    rintro e w' ⟨rfl, hb'⟩
    exact hK _ hb'
  · intro a W hc hsz hold hdep
    have d1 : a.tmps.getD 18 undef = .string (str (l.drop 10)) := hdep 1 (by kernel_rfl) rfl _ rfl
    have d4 : a.tmps.getD 21 undef = .string (str (chk (l.take 10))) := hdep 4 (by kernel_rfl) rfl _ rfl
    have hs := HNB.out
    clear hsz hold hdep
    refine stepR_do rfl (wanted_none rfl) ?_
    refine stepR_val (v := .bool nb) (Below.refl _ _) rfl fun K hK => ?_
    go_simp
    exact hK
  · intro a W hC hd hsz hold hval
    have d22 : a.tmps.getD 22 undef = .bool nb := hval 5 _ rfl rfl
    have d2 : a.tmps.getD 2 undef = .pointer (some ⟨w.heap.size, 0, none⟩) := hold 2 (by kernel_rfl)
    have d0 : a.tmps.getD 0 undef = .string (str l) := hold 0 (by kernel_rfl)
    clear hold
    obtain ⟨tm, df⟩ := a
    replace hd : df = [] := hd
    replace hsz : tm.size = 99 := hsz
    replace d22 : tm.getD 22 undef = .bool nb := d22
    replace d2 : tm.getD 2 undef = .pointer (some ⟨w.heap.size, 0, none⟩) := d2
    replace d0 : tm.getD 0 undef = .string (str l) := d0
    subst hd
    have e : tm = List.toArray (tm.getD 0 undef :: tm.getD 1 undef :: tm.getD 2 undef :: tm.getD 3 undef :: tm.getD 4 undef :: tm.getD 5 undef :: tm.getD 6 undef :: tm.getD 7 undef :: tm.getD 8 undef :: tm.getD 9 undef :: tm.getD 10 undef :: tm.getD 11 undef :: tm.getD 12 undef :: tm.getD 13 undef :: tm.getD 14 undef :: tm.getD 15 undef :: tm.getD 16 undef :: tm.getD 17 undef :: tm.getD 18 undef :: tm.getD 19 undef :: tm.getD 20 undef :: tm.getD 21 undef :: tm.getD 22 undef :: tm.getD 23 undef :: tm.getD 24 undef :: tm.getD 25 undef :: tm.getD 26 undef :: tm.getD 27 undef :: tm.getD 28 undef :: tm.getD 29 undef :: tm.getD 30 undef :: tm.getD 31 undef :: tm.getD 32 undef :: tm.getD 33 undef :: tm.getD 34 undef :: tm.getD 35 undef :: tm.getD 36 undef :: tm.getD 37 undef :: tm.getD 38 undef :: tm.getD 39 undef :: tm.getD 40 undef :: tm.getD 41 undef :: tm.getD 42 undef :: tm.getD 43 undef :: tm.getD 44 undef :: tm.getD 45 undef :: tm.getD 46 undef :: tm.getD 47 undef :: tm.getD 48 undef :: tm.getD 49 undef :: tm.getD 50 undef :: tm.getD 51 undef :: tm.getD 52 undef :: tm.getD 53 undef :: tm.getD 54 undef :: tm.getD 55 undef :: tm.getD 56 undef :: tm.getD 57 undef :: tm.getD 58 undef :: tm.getD 59 undef :: tm.getD 60 undef :: tm.getD 61 undef :: tm.getD 62 undef :: tm.getD 63 undef :: tm.getD 64 undef :: tm.getD 65 undef :: tm.getD 66 undef :: tm.getD 67 undef :: tm.getD 68 undef :: tm.getD 69 undef :: tm.getD 70 undef :: tm.getD 71 undef :: tm.getD 72 undef :: tm.getD 73 undef :: tm.getD 74 undef :: tm.getD 75 undef :: tm.getD 76 undef :: tm.getD 77 undef :: tm.getD 78 undef :: tm.getD 79 undef :: tm.getD 80 undef :: tm.getD 81 undef :: tm.getD 82 undef :: tm.getD 83 undef :: tm.getD 84 undef :: tm.getD 85 undef :: tm.getD 86 undef :: tm.getD 87 undef :: tm.getD 88 undef :: tm.getD 89 undef :: tm.getD 90 undef :: tm.getD 91 undef :: tm.getD 92 undef :: tm.getD 93 undef :: tm.getD 94 undef :: tm.getD 95 undef :: tm.getD 96 undef :: tm.getD 97 undef :: tm.getD 98 undef :: []) := arr_eq tm 99 hsz
    rw [d22, d2, d0] at e
    clear d22 d2 d0 hsz
    generalize tm.getD 1 undef = v1 at e
    generalize tm.getD 3 undef = v3 at e
    generalize tm.getD 4 undef = v4 at e
    generalize tm.getD 5 undef = v5 at e
    generalize tm.getD 6 undef = v6 at e
    generalize tm.getD 7 undef = v7 at e
    generalize tm.getD 8 undef = v8 at e
    generalize tm.getD 9 undef = v9 at e
    generalize tm.getD 10 undef = v10 at e
    generalize tm.getD 11 undef = v11 at e
    generalize tm.getD 12 undef = v12 at e
    generalize tm.getD 13 undef = v13 at e
    generalize tm.getD 14 undef = v14 at e
    generalize tm.getD 15 undef = v15 at e
    generalize tm.getD 16 undef = v16 at e
    generalize tm.getD 17 undef = v17 at e
    generalize tm.getD 18 undef = v18 at e
    generalize tm.getD 19 undef = v19 at e
    generalize tm.getD 20 undef = v20 at e
    generalize tm.getD 21 undef = v21 at e
    generalize tm.getD 23 undef = v23 at e
    generalize tm.getD 24 undef = v24 at e
    generalize tm.getD 25 undef = v25 at e
    generalize tm.getD 26 undef = v26 at e
    generalize tm.getD 27 undef = v27 at e
    generalize tm.getD 28 undef = v28 at e
    generalize tm.getD 29 undef = v29 at e
    generalize tm.getD 30 undef = v30 at e
    generalize tm.getD 31 undef = v31 at e
    generalize tm.getD 32 undef = v32 at e
    generalize tm.getD 33 undef = v33 at e
    generalize tm.getD 34 undef = v34 at e
    generalize tm.getD 35 undef = v35 at e
    generalize tm.getD 36 undef = v36 at e
    generalize tm.getD 37 undef = v37 at e
    generalize tm.getD 38 undef = v38 at e
    generalize tm.getD 39 undef = v39 at e
    generalize tm.getD 40 undef = v40 at e
    generalize tm.getD 41 undef = v41 at e
    generalize tm.getD 42 undef = v42 at e
    generalize tm.getD 43 undef = v43 at e
    generalize tm.getD 44 undef = v44 at e
    generalize tm.getD 45 undef = v45 at e
    generalize tm.getD 46 undef = v46 at e
    generalize tm.getD 47 undef = v47 at e
    generalize tm.getD 48 undef = v48 at e
    generalize tm.getD 49 undef = v49 at e
    generalize tm.getD 50 undef = v50 at e
    generalize tm.getD 51 undef = v51 at e
    generalize tm.getD 52 undef = v52 at e
    generalize tm.getD 53 undef = v53 at e
    generalize tm.getD 54 undef = v54 at e
    generalize tm.getD 55 undef = v55 at e
    generalize tm.getD 56 undef = v56 at e
    generalize tm.getD 57 undef = v57 at e
    generalize tm.getD 58 undef = v58 at e
    generalize tm.getD 59 undef = v59 at e
    generalize tm.getD 60 undef = v60 at e
    generalize tm.getD 61 undef = v61 at e
    generalize tm.getD 62 undef = v62 at e
    generalize tm.getD 63 undef = v63 at e
    generalize tm.getD 64 undef = v64 at e
    generalize tm.getD 65 undef = v65 at e
    generalize tm.getD 66 undef = v66 at e
    generalize tm.getD 67 undef = v67 at e
    generalize tm.getD 68 undef = v68 at e
    generalize tm.getD 69 undef = v69 at e
    generalize tm.getD 70 undef = v70 at e
    generalize tm.getD 71 undef = v71 at e
    generalize tm.getD 72 undef = v72 at e
    generalize tm.getD 73 undef = v73 at e
    generalize tm.getD 74 undef = v74 at e
    generalize tm.getD 75 undef = v75 at e
    generalize tm.getD 76 undef = v76 at e
    generalize tm.getD 77 undef = v77 at e
    generalize tm.getD 78 undef = v78 at e
    generalize tm.getD 79 undef = v79 at e
    generalize tm.getD 80 undef = v80 at e
    generalize tm.getD 81 undef = v81 at e
    generalize tm.getD 82 undef = v82 at e
    generalize tm.getD 83 undef = v83 at e
    generalize tm.getD 84 undef = v84 at e
    generalize tm.getD 85 undef = v85 at e
    generalize tm.getD 86 undef = v86 at e
    generalize tm.getD 87 undef = v87 at e
    generalize tm.getD 88 undef = v88 at e
    generalize tm.getD 89 undef = v89 at e
    generalize tm.getD 90 undef = v90 at e
    generalize tm.getD 91 undef = v91 at e
    generalize tm.getD 92 undef = v92 at e
    generalize tm.getD 93 undef = v93 at e
    generalize tm.getD 94 undef = v94 at e
    generalize tm.getD 95 undef = v95 at e
    generalize tm.getD 96 undef = v96 at e
    generalize tm.getD 97 undef = v97 at e
    generalize tm.getD 98 undef = v98 at e
    subst e
    have hR := hC.1
    have hle := hC.2
    rw [HNT.out]
    clear hC hval
    obtain ⟨b0, b0'⟩ := bn_lt l 0
    obtain ⟨b1, b1'⟩ := bn_lt l 1
    obtain ⟨b2, b2'⟩ := bn_lt l 2
    obtain ⟨gR, hgR⟩ : ∃ g, g = w.heap.size := ⟨_, rfl⟩
    rw [← hgR] at hR
    simp only [← hgR]
    have HGR := Lib.hid hgR
    have hgRl : gR < W.heap.size := hR.lt
    clear hgR
    have HR3 := Lib.hid hR; have HLE3 := Lib.hid hle
    clear hR hle
    go_wp2_with fail
    refine (radec3_any l _ HL.out).mono ?_
    rintro e y3 ⟨rfl, hb3⟩
    have hle4 := HLE3.out.trans (hb3.mono HLE3.out.size)
    obtain ⟨g7, hg7⟩ : ∃ g, g = y3.heap.size := ⟨_, rfl⟩
    have HM4 : Hid (MB (y3.alloc (mo (dM (bn l 3) (bn l 4) (bn l 5)) (dS (bn l 3) (bn l 4) (bn l 5)) (dF (bn l 3) (bn l 4) (bn l 5)))) g7 (dM (bn l 3) (bn l 4) (bn l 5)) (dS (bn l 3) (bn l 4) (bn l 5)) (dF (bn l 3) (bn l 4) (bn l 5))) := Lib.hid (by rw [hg7]; exact Bx.new _ _ _)
    have HR4 := Lib.hid ((HR3.out.call hb3).alloc (mo (dM (bn l 3) (bn l 4) (bn l 5)) (dS (bn l 3) (bn l 4) (bn l 5)) (dF (bn l 3) (bn l 4) (bn l 5))))
    have HLE4 := Lib.hid (hle4.alloc hle4.size (mo (dM (bn l 3) (bn l 4) (bn l 5)) (dS (bn l 3) (bn l 4) (bn l 5)) (dF (bn l 3) (bn l 4) (bn l 5))))
    clear hle4 hb3 HR3 HLE3
    go_wp2_with fail
    simp only [← hg7]
    clear hg7
    generalize y3.alloc (mo (dM (bn l 3) (bn l 4) (bn l 5)) (dS (bn l 3) (bn l 4) (bn l 5)) (dF (bn l 3) (bn l 4) (bn l 5))) = w4 at HM4 HR4 HLE4 ⊢
    clear y3
    refine (radec7_any l _ HL.out).mono ?_
    rintro e y4 ⟨rfl, hb4⟩
    have hle5 := HLE4.out.trans (hb4.mono HLE4.out.size)
    obtain ⟨g9, hg9⟩ : ∃ g, g = y4.heap.size := ⟨_, rfl⟩
    have HN5 : Hid (MB (y4.alloc (mo (dM (bn l 7) (bn l 8) (bn l 9)) (dS (bn l 7) (bn l 8) (bn l 9)) (dF (bn l 7) (bn l 8) (bn l 9)))) g9 (dM (bn l 7) (bn l 8) (bn l 9)) (dS (bn l 7) (bn l 8) (bn l 9)) (dF (bn l 7) (bn l 8) (bn l 9))) := Lib.hid (by rw [hg9]; exact Bx.new _ _ _)
    have HR5 := Lib.hid ((HR4.out.call hb4).alloc (mo (dM (bn l 7) (bn l 8) (bn l 9)) (dS (bn l 7) (bn l 8) (bn l 9)) (dF (bn l 7) (bn l 8) (bn l 9))))
    have HM5 := Lib.hid ((HM4.out.call hb4).alloc (mo (dM (bn l 7) (bn l 8) (bn l 9)) (dS (bn l 7) (bn l 8) (bn l 9)) (dF (bn l 7) (bn l 8) (bn l 9))))
    have HLE5 := Lib.hid (hle5.alloc hle5.size (mo (dM (bn l 7) (bn l 8) (bn l 9)) (dS (bn l 7) (bn l 8) (bn l 9)) (dF (bn l 7) (bn l 8) (bn l 9))))
    clear hle5 hb4 HR4 HLE4 HM4
    go_upto_region 7 with (fail)
    simp only [← hg9]
    clear hg9
    generalize y4.alloc (mo (dM (bn l 7) (bn l 8) (bn l 9)) (dS (bn l 7) (bn l 8) (bn l 9)) (dF (bn l 7) (bn l 8) (bn l 9))) = w5 at HM5 HN5 HR5 HLE5 ⊢
    clear y4
    have hRg : w.heap.size ≤ gR := Nat.le_of_eq HGR.out.symm
    rcases dE_01 (bn l 3) (bn l 4) (bn l 5) with hu0 | hu0
    rotate_left
    · have HU := Lib.hid hu0
      rw [hu0]
      clear hu0
      go_upto_region 8 with (fail)
      have HI : Hid (¬ Is (rcand l) l) := Lib.hid (fun e => by have hp := e.parts; have := HU.out; omega)
      have hR2 := HR5.out
      have hle2 := HLE5.out
      have hf := hR2.free
      have hlt := hR2.lt
      obtain ⟨s0, s1, s2, s3, s4, s5, s6, s7, s8⟩ := fcs_cells hR2
      have HF : Hid (FB (setN w5 gR 0 (fcs Q.z)) gR Q.z) := Lib.hid (hR2.setN (fcs Q.z) 0)
      have HLE := Lib.hid (Below.setN hRg (fcs Q.z) 0 hle2)
      clear hR2 hle2 HR5 HLE5 HM5 HN5
      go_wp2_with fail
      obtain ⟨r0, r1, r2, r3, r4, r5, r6, r7, r8⟩ := fcs_cells HF.out
      simp only [setN, fcs, Q.z, Nat.zero_add, Nat.reduceAdd] at r0 r1 r2 r3 r4 r5 r6 r7 r8
      exact bodyPost_ret (v := .tuple #[fagg Q.z, .int .i64 10]) (by simp [results, Try.results24, go_sem, Q.z, r0, r1, r2, r3, r4, r5, r6, r7, r8]) rfl ((HDec.out _ HLE.out).2 HI.out)
    have HU0 := Lib.hid hu0
    rw [hu0]
    clear hu0
    rcases dE_01 (bn l 7) (bn l 8) (bn l 9) with hu1 | hu1
    rotate_left
    · have HU := Lib.hid hu1
      rw [hu1]
      clear hu1
      go_upto_region 8 with (fail)
      have HI : Hid (¬ Is (rcand l) l) := Lib.hid (fun e => by have hp := e.parts; have := HU.out; omega)
      have hR2 := HR5.out
      have hle2 := HLE5.out
      have hf := hR2.free
      have hlt := hR2.lt
      obtain ⟨s0, s1, s2, s3, s4, s5, s6, s7, s8⟩ := fcs_cells hR2
      have HF : Hid (FB (setN w5 gR 0 (fcs Q.z)) gR Q.z) := Lib.hid (hR2.setN (fcs Q.z) 0)
      have HLE := Lib.hid (Below.setN hRg (fcs Q.z) 0 hle2)
      clear hR2 hle2 HR5 HLE5 HM5 HN5
      go_wp2_with fail
      obtain ⟨r0, r1, r2, r3, r4, r5, r6, r7, r8⟩ := fcs_cells HF.out
      simp only [setN, fcs, Q.z, Nat.zero_add, Nat.reduceAdd] at r0 r1 r2 r3 r4 r5 r6 r7 r8
      exact bodyPost_ret (v := .tuple #[fagg Q.z, .int .i64 10]) (by simp [results, Try.results24, go_sem, Q.z, r0, r1, r2, r3, r4, r5, r6, r7, r8]) rfl ((HDec.out _ HLE.out).2 HI.out)
    have HU1 := Lib.hid hu1
    rw [hu1]
    clear hu1
    cases hu2 : (bn l 6 == 0) with
    | false =>
      have HU : Hid (bn l 6 ≠ 0) := Lib.hid (beq_eq_false_iff_ne.1 hu2)
      go_upto_region 8 with (fail)
      have HI : Hid (¬ Is (rcand l) l) := Lib.hid (fun e => by have hp := e.parts; exact HU.out hp.2.2.2.2.1)
      have hR2 := HR5.out
      have hle2 := HLE5.out
      have hf := hR2.free
      have hlt := hR2.lt
      obtain ⟨s0, s1, s2, s3, s4, s5, s6, s7, s8⟩ := fcs_cells hR2
      have HF : Hid (FB (setN w5 gR 0 (fcs Q.z)) gR Q.z) := Lib.hid (hR2.setN (fcs Q.z) 0)
      have HLE := Lib.hid (Below.setN hRg (fcs Q.z) 0 hle2)
      clear hR2 hle2 HR5 HLE5 HM5 HN5
      go_wp2_with fail
      obtain ⟨r0, r1, r2, r3, r4, r5, r6, r7, r8⟩ := fcs_cells HF.out
      simp only [setN, fcs, Q.z, Nat.zero_add, Nat.reduceAdd] at r0 r1 r2 r3 r4 r5 r6 r7 r8
      exact bodyPost_ret (v := .tuple #[fagg Q.z, .int .i64 10]) (by simp [results, Try.results24, go_sem, Q.z, r0, r1, r2, r3, r4, r5, r6, r7, r8]) rfl ((HDec.out _ HLE.out).2 HI.out)
    | true =>
    have h60 : bn l 6 = 0 := eq_of_beq hu2
    rw [h60] at hx6
    clear hu2 h60
    cases hu3 : (bn l 0 % 16 == 1) with
    | false =>
      have HU : Hid (bn l 0 % 16 ≠ 1) := Lib.hid (beq_eq_false_iff_ne.1 hu3)
      go_upto_region 8 with (fail)
      have HI : Hid (¬ Is (rcand l) l) := Lib.hid (fun e => by have hp := e.parts; exact HU.out hp.2.2.2.2.2)
      have hR2 := HR5.out
      have hle2 := HLE5.out
      have hf := hR2.free
      have hlt := hR2.lt
      obtain ⟨s0, s1, s2, s3, s4, s5, s6, s7, s8⟩ := fcs_cells hR2
      have HF : Hid (FB (setN w5 gR 0 (fcs Q.z)) gR Q.z) := Lib.hid (hR2.setN (fcs Q.z) 0)
      have HLE := Lib.hid (Below.setN hRg (fcs Q.z) 0 hle2)
      clear hR2 hle2 HR5 HLE5 HM5 HN5
      go_wp2_with fail
      obtain ⟨r0, r1, r2, r3, r4, r5, r6, r7, r8⟩ := fcs_cells HF.out
      simp only [setN, fcs, Q.z, Nat.zero_add, Nat.reduceAdd] at r0 r1 r2 r3 r4 r5 r6 r7 r8
      exact bodyPost_ret (v := .tuple #[fagg Q.z, .int .i64 10]) (by simp [results, Try.results24, go_sem, Q.z, r0, r1, r2, r3, r4, r5, r6, r7, r8]) rfl ((HDec.out _ HLE.out).2 HI.out)
    | true =>
    have hu4 : (bn l 0 % 16 != 1) = false := by unfold bne; rw [hu3]; rfl
    go_upto_region 9 with (fail)
    clear hu3 hu4
    have c0 := HM5.out.cell (i := 0) rfl
    have c1 := HM5.out.cell (i := 1) rfl
    have c2 := HM5.out.cell (i := 2) rfl
    have n0 := HN5.out.cell (i := 0) rfl
    have n1 := HN5.out.cell (i := 1) rfl
    have n2 := HN5.out.cell (i := 2) rfl
    have hM := HM5.out; have hN := HN5.out; have hR := HR5.out; have hle := HLE5.out
    clear HM5 HN5 HR5 HLE5 c0 c1 c2 n0 n1 n2
    obtain ⟨B, hBB⟩ : ∃ B, B = w5.heap.size := ⟨_, rfl⟩
    have hb5 : Below B w5 w5 := Below.refl _ _
    have hlM := hM.lt; have hlN := hN.lt; have hlR := hR.lt
    rw [← hBB] at hlM hlN hlR
    refine wp_region_ind (by kernel_rfl) (RegN B 27 (fcs (q9 l))) (fun W => Below B w5 W ∧ MB W g7 (dM (bn l 3) (bn l 4) (bn l 5)) (dS (bn l 3) (bn l 4) (bn l 5)) (dF (bn l 3) (bn l 4) (bn l 5)) ∧ MB W g9 (dM (bn l 7) (bn l 8) (bn l 9)) (dS (bn l 7) (bn l 8) (bn l 9)) (dF (bn l 7) (bn l 8) (bn l 9)) ∧ FB W gR Q.z) (rdec9V l B g7 g9) (fun _ => false) (by kernel_rfl) (fun W W' hR h => ⟨h.1.trans hR.1, (hR.1.block g7 hlM).trans h.2.1, (hR.1.block g9 hlN).trans h.2.2.1, (hR.1.block gR hlR).trans h.2.2.2⟩) (rdec9V_keep l B g7 g9) (⟨hb5.drew, hM, hN, hR⟩) ⟨?_, ?_, ?_, ?_, ?_, ?_, ?_, ?_, ?_, trivial⟩ ?_
    · intro a W hc hsz hold hdep
      have o0 : a.tmps.getD 0 undef = .string (str l) := hold 0 (by kernel_rfl)
      clear hsz hold hdep
      refine stepR_do rfl (wanted_none rfl) ?_
      refine stepD_val (v := .string (str l)) RegN.refl rfl fun K hK => ?_
      go_simp
      exact hK
    · intro a W hc hsz hold hdep
      have d0 : a.tmps.getD 52 undef = .string (str l) := hdep 0 (by kernel_rfl) rfl _ rfl
      clear hsz hold hdep
      refine stepR_do rfl (wanted_none rfl) ?_
      refine stepD_val (v := .int .u8 (bn l 0)) RegN.refl rfl fun K hK => ?_
      go_simp
      exact hK
    · intro a W hc hsz hold hdep
      have d1 : a.tmps.getD 53 undef = .int .u8 (bn l 0) := hdep 1 (by kernel_rfl) rfl _ rfl
      have hw : IntKind.u8.wrap (bn l 0 / 16) = bn l 0 / 16 := by rw [IntKind.wrap_u8']; omega
      have ht : (bn l 0).tdiv 16 = bn l 0 / 16 := Int.tdiv_eq_ediv_of_nonneg b0
      clear hsz hold hdep
      refine stepR_do rfl (wanted_none rfl) ?_
      refine stepD_val (v := .int .u8 (bn l 0 / 16)) RegN.refl rfl fun K hK => ?_
      go_simp
      exact hK
    · intro a W hc hsz hold hdep
      have d2 : a.tmps.getD 54 undef = .int .u8 (bn l 0 / 16) := hdep 2 (by kernel_rfl) rfl _ rfl
      have hw : IntKind.i64.wrap (bn l 0 / 16) = bn l 0 / 16 := IntWalk.i64_in _ (by omega)
      clear hsz hold hdep
      refine stepR_do rfl (wanted_none rfl) ?_
      refine stepD_val (v := .int .i64 (bn l 0 / 16)) RegN.refl rfl fun K hK => ?_
      go_simp
      exact hK
    · intro a W hc hsz hold hdep
      have o4 : a.tmps.getD 4 undef = .pointer (some ⟨g7, 0, none⟩) := hold 4 (by kernel_rfl)
      have c0 := hc.2.1.cell (i := 0) rfl
      have c1 := hc.2.1.cell (i := 1) rfl
      have c2 := hc.2.1.cell (i := 2) rfl
      clear hsz hold hdep
      refine stepR_do rfl (wanted_none rfl) ?_
      refine stepD_val (v := msfv (dM (bn l 3) (bn l 4) (bn l 5)) (dS (bn l 3) (bn l 4) (bn l 5)) (dF (bn l 3) (bn l 4) (bn l 5))) RegN.refl rfl fun K hK => ?_
      go_simp
      exact hK
    · intro a W hc hsz hold hdep
      have o6 : a.tmps.getD 6 undef = .pointer (some ⟨g9, 0, none⟩) := hold 6 (by kernel_rfl)
      have c0 := hc.2.2.1.cell (i := 0) rfl
      have c1 := hc.2.2.1.cell (i := 1) rfl
      have c2 := hc.2.2.1.cell (i := 2) rfl
      clear hsz hold hdep
      refine stepR_do rfl (wanted_none rfl) ?_
      refine stepD_val (v := msfv (dM (bn l 7) (bn l 8) (bn l 9)) (dS (bn l 7) (bn l 8) (bn l 9)) (dF (bn l 7) (bn l 8) (bn l 9))) RegN.refl rfl fun K hK => ?_
      go_simp
      exact hK
    · intro a W hc hsz hold hdep
      have d3 : a.tmps.getD 55 undef = .int .i64 (bn l 0 / 16) := hdep 3 (by kernel_rfl) rfl _ rfl
      have e3 : a.tmps[55]?.getD undef = .int .i64 (bn l 0 / 16) := by rw [← Array.getD_eq_getD_getElem?]; exact d3
      have d4 : a.tmps.getD 56 undef = msfv (dM (bn l 3) (bn l 4) (bn l 5)) (dS (bn l 3) (bn l 4) (bn l 5)) (dF (bn l 3) (bn l 4) (bn l 5)) := hdep 4 (by kernel_rfl) rfl _ rfl
      have e4 : a.tmps[56]?.getD undef = msfv (dM (bn l 3) (bn l 4) (bn l 5)) (dS (bn l 3) (bn l 4) (bn l 5)) (dF (bn l 3) (bn l 4) (bn l 5)) := by rw [← Array.getD_eq_getD_getElem?]; exact d4
      have d5 : a.tmps.getD 57 undef = msfv (dM (bn l 7) (bn l 8) (bn l 9)) (dS (bn l 7) (bn l 8) (bn l 9)) (dF (bn l 7) (bn l 8) (bn l 9)) := hdep 5 (by kernel_rfl) rfl _ rfl
      have e5 : a.tmps[57]?.getD undef = msfv (dM (bn l 7) (bn l 8) (bn l 9)) (dS (bn l 7) (bn l 8) (bn l 9)) (dF (bn l 7) (bn l 8) (bn l 9)) := by rw [← Array.getD_eq_getD_getElem?]; exact d5
      clear hsz hold hdep
      refine stepR_do rfl (wanted_none rfl) ?_
      refine stepD_val (v := fagg (q9 l)) RegN.refl rfl fun K hK => ?_
      go_simp
      exact hK
    · intro a W hc hsz hold hdep
      clear hsz hold hdep
      refine stepR_do rfl (wanted_none rfl) ?_
      refine stepD_new (v := .pointer (some ⟨W.heap.size, 0, none⟩)) (RegN.alloc (by rw [hBB]; exact hc.1.size) (fobj Q.z)) ⟨W.heap.size, rfl, by rw [hBB]; exact hc.1.size, fcs Q.z, rfl, Bx.new _ _ _⟩ fun K hK => ?_
      go_simp
      exact hK
    · intro a W hc hsz hold hdep
      have x7 := hdep 7 (by kernel_rfl) rfl _ rfl
      have d6 : a.tmps.getD 58 undef = fagg (q9 l) := hdep 6 (by kernel_rfl) rfl _ rfl
      clear hsz hold hdep
      refine stepR_do rfl (wanted_none rfl) ?_
      obtain ⟨g, hg, hgB, cs, hl, hB⟩ := x7
      replace hg : a.tmps.getD 8 undef = .pointer (some ⟨g, 0, none⟩) := hg
      have hlt := hB.lt
      have hf := hB.free
      have z0 : ∃ v, W.cell? ⟨g, 0, none⟩ = some v := ⟨_, hB.cell (List.getElem?_eq_getElem (by rw [hl]; simp [fcs]))⟩
      obtain ⟨u0, z0⟩ := z0
      have z1 : ∃ v, W.cell? ⟨g, 1, none⟩ = some v := ⟨_, hB.cell (List.getElem?_eq_getElem (by rw [hl]; simp [fcs]))⟩
      obtain ⟨u1, z1⟩ := z1
      have z2 : ∃ v, W.cell? ⟨g, 2, none⟩ = some v := ⟨_, hB.cell (List.getElem?_eq_getElem (by rw [hl]; simp [fcs]))⟩
      obtain ⟨u2, z2⟩ := z2
      have z3 : ∃ v, W.cell? ⟨g, 3, none⟩ = some v := ⟨_, hB.cell (List.getElem?_eq_getElem (by rw [hl]; simp [fcs]))⟩
      obtain ⟨u3, z3⟩ := z3
      have z4 : ∃ v, W.cell? ⟨g, 4, none⟩ = some v := ⟨_, hB.cell (List.getElem?_eq_getElem (by rw [hl]; simp [fcs]))⟩
      obtain ⟨u4, z4⟩ := z4
      have z5 : ∃ v, W.cell? ⟨g, 5, none⟩ = some v := ⟨_, hB.cell (List.getElem?_eq_getElem (by rw [hl]; simp [fcs]))⟩
      obtain ⟨u5, z5⟩ := z5
      have z6 : ∃ v, W.cell? ⟨g, 6, none⟩ = some v := ⟨_, hB.cell (List.getElem?_eq_getElem (by rw [hl]; simp [fcs]))⟩
      obtain ⟨u6, z6⟩ := z6
      have z7 : ∃ v, W.cell? ⟨g, 7, none⟩ = some v := ⟨_, hB.cell (List.getElem?_eq_getElem (by rw [hl]; simp [fcs]))⟩
      obtain ⟨u7, z7⟩ := z7
      have z8 : ∃ v, W.cell? ⟨g, 8, none⟩ = some v := ⟨_, hB.cell (List.getElem?_eq_getElem (by rw [hl]; simp [fcs]))⟩
      obtain ⟨u8, z8⟩ := z8
      refine stepD_new (v := undef) (RegN.store hgB ⟨cs, hl, hB⟩) ⟨g, hg, hgB, hB.full hl⟩ fun K hK => ?_
      clear hB hl
      go_simp
      exact hK
    · intro a W hC hd hsz hold hval
      obtain ⟨gq, hgq, hqB, hQ⟩ := hval 8 _ rfl rfl
      have d8 : a.tmps.getD 8 undef = .pointer (some ⟨gq, 0, none⟩) := hgq
      clear hgq
      have d0 : a.tmps.getD 0 undef = .string (str l) := hold 0 (by kernel_rfl)
      have d2 : a.tmps.getD 2 undef = .pointer (some ⟨gR, 0, none⟩) := hold 2 (by kernel_rfl)
      clear hold
      obtain ⟨tm, df⟩ := a
      replace hd : df = [] := hd
      replace hsz : tm.size = 99 := hsz
      replace d0 : tm.getD 0 undef = .string (str l) := d0
      replace d2 : tm.getD 2 undef = .pointer (some ⟨gR, 0, none⟩) := d2
      replace d8 : tm.getD 8 undef = .pointer (some ⟨gq, 0, none⟩) := d8
      subst hd
      have e : tm = List.toArray (tm.getD 0 undef :: tm.getD 1 undef :: tm.getD 2 undef :: tm.getD 3 undef :: tm.getD 4 undef :: tm.getD 5 undef :: tm.getD 6 undef :: tm.getD 7 undef :: tm.getD 8 undef :: tm.getD 9 undef :: tm.getD 10 undef :: tm.getD 11 undef :: tm.getD 12 undef :: tm.getD 13 undef :: tm.getD 14 undef :: tm.getD 15 undef :: tm.getD 16 undef :: tm.getD 17 undef :: tm.getD 18 undef :: tm.getD 19 undef :: tm.getD 20 undef :: tm.getD 21 undef :: tm.getD 22 undef :: tm.getD 23 undef :: tm.getD 24 undef :: tm.getD 25 undef :: tm.getD 26 undef :: tm.getD 27 undef :: tm.getD 28 undef :: tm.getD 29 undef :: tm.getD 30 undef :: tm.getD 31 undef :: tm.getD 32 undef :: tm.getD 33 undef :: tm.getD 34 undef :: tm.getD 35 undef :: tm.getD 36 undef :: tm.getD 37 undef :: tm.getD 38 undef :: tm.getD 39 undef :: tm.getD 40 undef :: tm.getD 41 undef :: tm.getD 42 undef :: tm.getD 43 undef :: tm.getD 44 undef :: tm.getD 45 undef :: tm.getD 46 undef :: tm.getD 47 undef :: tm.getD 48 undef :: tm.getD 49 undef :: tm.getD 50 undef :: tm.getD 51 undef :: tm.getD 52 undef :: tm.getD 53 undef :: tm.getD 54 undef :: tm.getD 55 undef :: tm.getD 56 undef :: tm.getD 57 undef :: tm.getD 58 undef :: tm.getD 59 undef :: tm.getD 60 undef :: tm.getD 61 undef :: tm.getD 62 undef :: tm.getD 63 undef :: tm.getD 64 undef :: tm.getD 65 undef :: tm.getD 66 undef :: tm.getD 67 undef :: tm.getD 68 undef :: tm.getD 69 undef :: tm.getD 70 undef :: tm.getD 71 undef :: tm.getD 72 undef :: tm.getD 73 undef :: tm.getD 74 undef :: tm.getD 75 undef :: tm.getD 76 undef :: tm.getD 77 undef :: tm.getD 78 undef :: tm.getD 79 undef :: tm.getD 80 undef :: tm.getD 81 undef :: tm.getD 82 undef :: tm.getD 83 undef :: tm.getD 84 undef :: tm.getD 85 undef :: tm.getD 86 undef :: tm.getD 87 undef :: tm.getD 88 undef :: tm.getD 89 undef :: tm.getD 90 undef :: tm.getD 91 undef :: tm.getD 92 undef :: tm.getD 93 undef :: tm.getD 94 undef :: tm.getD 95 undef :: tm.getD 96 undef :: tm.getD 97 undef :: tm.getD 98 undef :: []) := arr_eq tm 99 hsz
      rw [d0, d2, d8] at e
      clear d0 d2 d8 hsz
      generalize tm.getD 1 undef = v1 at e
      generalize tm.getD 3 undef = v3 at e
      generalize tm.getD 4 undef = v4 at e
      generalize tm.getD 5 undef = v5 at e
      generalize tm.getD 6 undef = v6 at e
      generalize tm.getD 7 undef = v7 at e
      generalize tm.getD 9 undef = v9 at e
      generalize tm.getD 10 undef = v10 at e
      generalize tm.getD 11 undef = v11 at e
      generalize tm.getD 12 undef = v12 at e
      generalize tm.getD 13 undef = v13 at e
      generalize tm.getD 14 undef = v14 at e
      generalize tm.getD 15 undef = v15 at e
      generalize tm.getD 16 undef = v16 at e
      generalize tm.getD 17 undef = v17 at e
      generalize tm.getD 18 undef = v18 at e
      generalize tm.getD 19 undef = v19 at e
      generalize tm.getD 20 undef = v20 at e
      generalize tm.getD 21 undef = v21 at e
      generalize tm.getD 22 undef = v22 at e
      generalize tm.getD 23 undef = v23 at e
      generalize tm.getD 24 undef = v24 at e
      generalize tm.getD 25 undef = v25 at e
      generalize tm.getD 26 undef = v26 at e
      generalize tm.getD 27 undef = v27 at e
      generalize tm.getD 28 undef = v28 at e
      generalize tm.getD 29 undef = v29 at e
      generalize tm.getD 30 undef = v30 at e
      generalize tm.getD 31 undef = v31 at e
      generalize tm.getD 32 undef = v32 at e
      generalize tm.getD 33 undef = v33 at e
      generalize tm.getD 34 undef = v34 at e
      generalize tm.getD 35 undef = v35 at e
      generalize tm.getD 36 undef = v36 at e
      generalize tm.getD 37 undef = v37 at e
      generalize tm.getD 38 undef = v38 at e
      generalize tm.getD 39 undef = v39 at e
      generalize tm.getD 40 undef = v40 at e
      generalize tm.getD 41 undef = v41 at e
      generalize tm.getD 42 undef = v42 at e
      generalize tm.getD 43 undef = v43 at e
      generalize tm.getD 44 undef = v44 at e
      generalize tm.getD 45 undef = v45 at e
      generalize tm.getD 46 undef = v46 at e
      generalize tm.getD 47 undef = v47 at e
      generalize tm.getD 48 undef = v48 at e
      generalize tm.getD 49 undef = v49 at e
      generalize tm.getD 50 undef = v50 at e
      generalize tm.getD 51 undef = v51 at e
      generalize tm.getD 52 undef = v52 at e
      generalize tm.getD 53 undef = v53 at e
      generalize tm.getD 54 undef = v54 at e
      generalize tm.getD 55 undef = v55 at e
      generalize tm.getD 56 undef = v56 at e
      generalize tm.getD 57 undef = v57 at e
      generalize tm.getD 58 undef = v58 at e
      generalize tm.getD 59 undef = v59 at e
      generalize tm.getD 60 undef = v60 at e
      generalize tm.getD 61 undef = v61 at e
      generalize tm.getD 62 undef = v62 at e
      generalize tm.getD 63 undef = v63 at e
      generalize tm.getD 64 undef = v64 at e
      generalize tm.getD 65 undef = v65 at e
      generalize tm.getD 66 undef = v66 at e
      generalize tm.getD 67 undef = v67 at e
      generalize tm.getD 68 undef = v68 at e
      generalize tm.getD 69 undef = v69 at e
      generalize tm.getD 70 undef = v70 at e
      generalize tm.getD 71 undef = v71 at e
      generalize tm.getD 72 undef = v72 at e
      generalize tm.getD 73 undef = v73 at e
      generalize tm.getD 74 undef = v74 at e
      generalize tm.getD 75 undef = v75 at e
      generalize tm.getD 76 undef = v76 at e
      generalize tm.getD 77 undef = v77 at e
      generalize tm.getD 78 undef = v78 at e
      generalize tm.getD 79 undef = v79 at e
      generalize tm.getD 80 undef = v80 at e
      generalize tm.getD 81 undef = v81 at e
      generalize tm.getD 82 undef = v82 at e
      generalize tm.getD 83 undef = v83 at e
      generalize tm.getD 84 undef = v84 at e
      generalize tm.getD 85 undef = v85 at e
      generalize tm.getD 86 undef = v86 at e
      generalize tm.getD 87 undef = v87 at e
      generalize tm.getD 88 undef = v88 at e
      generalize tm.getD 89 undef = v89 at e
      generalize tm.getD 90 undef = v90 at e
      generalize tm.getD 91 undef = v91 at e
      generalize tm.getD 92 undef = v92 at e
      generalize tm.getD 93 undef = v93 at e
      generalize tm.getD 94 undef = v94 at e
      generalize tm.getD 95 undef = v95 at e
      generalize tm.getD 96 undef = v96 at e
      generalize tm.getD 97 undef = v97 at e
      generalize tm.getD 98 undef = v98 at e
      subst e
      have hR9 := hC.2.2.2
      have hle9 := hle.trans (hC.1.mono (by rw [hBB]; exact hle.size))
      have hqw : w.heap.size ≤ gq := by have := hle.size; omega
      have hne : gR ≠ gq := by omega
      have HQ9 := Lib.hid hQ; have HR9 := Lib.hid hR9; have HLE9 := Lib.hid hle9
      clear hC hval hM hN hR hle hQ hR9 hle9 hBB hb5 hlM hlN hlR hqB
      have HU := Lib.hid (fun W => runbcd_any (bn l 1) W b1 b1')
      go_wp2_with fail
      refine (HU.out _).mono ?_
      rintro e x1 ⟨rfl, rfl⟩
      go_upto_if 66 with (fail)
      go_cut [9] (fun v wx => v = .int .i64 (rn (bn l 1)) ∧ W = wx)
      case first =>
        rcases unbcd_01 (bn l 1) with he | he
        · have HR : Hid (rn (bn l 1) = (unbcd (bn l 1)).1) := Lib.hid (if_pos he)
          have e1 : ((unbcd (bn l 1)).2 == 0) = true := by rw [he]; rfl
          have e2 : ((unbcd (bn l 1)).2 != 0) = false := by rw [he]; rfl
          clear he
          go_wp2_with fail
          go_meet
          case rel => exact ⟨by rw [HR.out], rfl⟩
        · have HR : Hid (rn (bn l 1) = bn l 1) := Lib.hid (if_neg (by omega))
          have e1 : ((unbcd (bn l 1)).2 == 0) = false := by rw [he]; rfl
          have e2 : ((unbcd (bn l 1)).2 != 0) = true := by rw [he]; rfl
          clear he
          go_wp2_with fail
          go_meet
          case rel => exact ⟨by rw [HR.out], rfl⟩
      obtain ⟨rfl, rfl⟩ := hcut
      clear HU
      have HU := Lib.hid (fun W => runbcd_any (bn l 2) W b2 b2')
      go_wp2_with fail
      refine (HU.out _).mono ?_
      rintro e x1 ⟨rfl, rfl⟩
      go_upto_if 77 with (fail)
      go_cut [10] (fun v wx => v = .int .i64 (rn (bn l 2)) ∧ W = wx)
      case first =>
        rcases unbcd_01 (bn l 2) with he | he
        · have HR : Hid (rn (bn l 2) = (unbcd (bn l 2)).1) := Lib.hid (if_pos he)
          have e1 : ((unbcd (bn l 2)).2 == 0) = true := by rw [he]; rfl
          have e2 : ((unbcd (bn l 2)).2 != 0) = false := by rw [he]; rfl
          clear he
          go_wp2_with fail
          go_meet
          case rel => exact ⟨by rw [HR.out], rfl⟩
        · have HR : Hid (rn (bn l 2) = bn l 2) := Lib.hid (if_neg (by omega))
          have e1 : ((unbcd (bn l 2)).2 == 0) = false := by rw [he]; rfl
          have e2 : ((unbcd (bn l 2)).2 != 0) = true := by rw [he]; rfl
          clear he
          go_wp2_with fail
          go_meet
          case rel => exact ⟨by rw [HR.out], rfl⟩
      obtain ⟨rfl, rfl⟩ := hcut
      clear HU
      have hQ0 := HQ9.out
      have hR0 := HR9.out
      have hle0 := HLE9.out
      obtain ⟨p0, p1, p2, p3, p4, p5, p6, p7, p8⟩ := fcs_cells hQ0
      have hf := hQ0.free
      have hlt := hQ0.lt
      have HQ : Hid (FB (setN W gq 1 [.int .i64 (rn (bn l 1)), .int .i64 (rn (bn l 2))]) gq (rcand l)) := Lib.hid (hQ0.setN _ 1)
      have HR : Hid (FB (setN W gq 1 [.int .i64 (rn (bn l 1)), .int .i64 (rn (bn l 2))]) gR Q.z) := Lib.hid (hR0.setOther hne)
      have HLE : Hid (Below w.heap.size w (setN W gq 1 [.int .i64 (rn (bn l 1)), .int .i64 (rn (bn l 2))])) := Lib.hid (Below.setN hqw _ 1 hle0)
      clear hQ0 hR0 hle0 HQ9 HR9 HLE9
      go_upto_region 17 with (fail)
      change Code.wp _ _ _ _ (setN W gq 1 [.int .i64 (rn (bn l 1)), .int .i64 (rn (bn l 2))])
      clear p0 p1 p2 p3 p4 p5 p6 p7 p8 hf hlt
      generalize setN W gq 1 [.int .i64 (rn (bn l 1)), .int .i64 (rn (bn l 2))] = W2 at HQ HR HLE ⊢
      clear W
      obtain ⟨p0, p1, p2, p3, p4, p5, p6, p7, p8⟩ := fcs_cells HQ.out
      by_cases hi : Is (rcand l) l
      · have HI := Lib.hid hi
        have HEN := Lib.hid (fun W => renc_yes (rcand l) W hi.1)
        have HEQ := Lib.hid hi.2
        clear hi
        go_upto_region 17 with (fail)
        go_wp2_with fail
        refine (HEN.out _).mono ?_
        rintro e z1 ⟨rfl, hbz⟩
        have hQ2 := HQ.out.call hbz
        have hR2 := HR.out.call hbz
        have hle2 := HLE.out.trans (hbz.mono HLE.out.size)
        rw [HEQ.out]
        have hss := str_same (l := l) rfl
        go_upto_region 20 with (fail)
        have hf := hR2.free
        have hlt := hR2.lt
        obtain ⟨s0, s1, s2, s3, s4, s5, s6, s7, s8⟩ := fcs_cells hR2
        obtain ⟨t0, t1, t2, t3, t4, t5, t6, t7, t8⟩ := fcs_cells hQ2
        have HF : Hid (FB (setN z1 gR 0 (fcs (rcand l))) gR (rcand l)) := Lib.hid (hR2.setN (fcs (rcand l)) 0)
        have HLF := Lib.hid (Below.setN hRg (fcs (rcand l)) 0 hle2)
        clear hQ2 hR2 hle2 hbz HQ HR HLE p0 p1 p2 p3 p4 p5 p6 p7 p8
        go_wp2_with fail
        obtain ⟨r0, r1, r2, r3, r4, r5, r6, r7, r8⟩ := fcs_cells HF.out
        simp only [setN, fcs, Nat.zero_add, Nat.reduceAdd] at r0 r1 r2 r3 r4 r5 r6 r7 r8
        exact bodyPost_ret (v := .tuple #[fagg (rcand l), .int .i64 0]) (by simp [results, Try.results24, go_sem, r0, r1, r2, r3, r4, r5, r6, r7, r8]) rfl ((HDec.out _ HLF.out).1 HI.out)
      · have HI := Lib.hid hi
        cases hfr : frB (rcand l) with
        | true =>
          have HEN := Lib.hid (fun W => renc_yes (rcand l) W hfr)
          have HSS := Lib.hid (str_other (l := encL (rcand l)) (m := l) (fun e => hi ⟨hfr, e⟩))
          clear hi hfr
          go_upto_region 17 with (fail)
          go_wp2_with fail
          refine (HEN.out _).mono ?_
          rintro e z1 ⟨rfl, hbz⟩
          have hQ2 := HQ.out.call hbz
          have hR2 := HR.out.call hbz
          have hle2 := HLE.out.trans (hbz.mono HLE.out.size)
          have hss := HSS.out
          go_upto_region 19 with (fail)
          have hf := hR2.free
          have hlt := hR2.lt
          obtain ⟨s0, s1, s2, s3, s4, s5, s6, s7, s8⟩ := fcs_cells hR2
          obtain ⟨t0, t1, t2, t3, t4, t5, t6, t7, t8⟩ := fcs_cells hQ2
          have HF : Hid (FB (setN z1 gR 0 (fcs Q.z)) gR Q.z) := Lib.hid (hR2.setN (fcs Q.z) 0)
          have HLF := Lib.hid (Below.setN hRg (fcs Q.z) 0 hle2)
          clear hQ2 hR2 hle2 hbz HQ HR HLE p0 p1 p2 p3 p4 p5 p6 p7 p8
          go_wp2_with fail
          obtain ⟨r0, r1, r2, r3, r4, r5, r6, r7, r8⟩ := fcs_cells HF.out
          simp only [setN, fcs, Q.z, Nat.zero_add, Nat.reduceAdd] at r0 r1 r2 r3 r4 r5 r6 r7 r8
          exact bodyPost_ret (v := .tuple #[fagg Q.z, .int .i64 10]) (by simp [results, Try.results24, go_sem, Q.z, r0, r1, r2, r3, r4, r5, r6, r7, r8]) rfl ((HDec.out _ HLF.out).2 HI.out)
        | false =>
          have HEN := Lib.hid (fun W => renc_no (rcand l) W hfr)
          clear hi hfr
          go_upto_region 17 with (fail)
          go_wp2_with fail
          refine (HEN.out _).mono ?_
          rintro e z1 ⟨rfl, hbz⟩
          have hQ2 := HQ.out.call hbz
          have hR2 := HR.out.call hbz
          have hle2 := HLE.out.trans (hbz.mono HLE.out.size)
          go_upto_region 19 with (fail)
          have hf := hR2.free
          have hlt := hR2.lt
          obtain ⟨s0, s1, s2, s3, s4, s5, s6, s7, s8⟩ := fcs_cells hR2
          obtain ⟨t0, t1, t2, t3, t4, t5, t6, t7, t8⟩ := fcs_cells hQ2
          have HF : Hid (FB (setN z1 gR 0 (fcs Q.z)) gR Q.z) := Lib.hid (hR2.setN (fcs Q.z) 0)
          have HLF := Lib.hid (Below.setN hRg (fcs Q.z) 0 hle2)
          clear hQ2 hR2 hle2 hbz HQ HR HLE p0 p1 p2 p3 p4 p5 p6 p7 p8
          go_wp2_with fail
          obtain ⟨r0, r1, r2, r3, r4, r5, r6, r7, r8⟩ := fcs_cells HF.out
          simp only [setN, fcs, Q.z, Nat.zero_add, Nat.reduceAdd] at r0 r1 r2 r3 r4 r5 r6 r7 r8
          exact bodyPost_ret (v := .tuple #[fagg Q.z, .int .i64 10]) (by simp [results, Try.results24, go_sem, Q.z, r0, r1, r2, r3, r4, r5, r6, r7, r8]) rfl ((HDec.out _ HLF.out).2 HI.out)
end Go.Proofs.Ytenbafolmmemgaa.W10
