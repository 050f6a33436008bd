/- Shaken out of XQh -/
import Derived.Test.YtflmjdjkfognjaaGreatTp30
import Derived.Test.YtflmjdjkfognjaaGreatTp11
import Derived.Test.YtflmjdjkfognjaaGreatTp46
import Derived.Deep.CutBlock
import Derived.Deep.DeepCutAuto
namespace Go.Proofs.YtflmjdjkfognjaaGreat.W10
open Go.RowKit
set_option linter.unusedVariables false
theorem ext_drop (l : List UInt8) (h : l.length = 12) : (str l).extract 10 12 = str (l.drop 10) := by
  apply ByteArray.ext
  rw [ByteArray.data_extract]
  simp [str, ← h]
  rw [List.take_of_length_le (by simp)]
/-- two strings that are the same bytes -/
theorem str_same {l m : List UInt8} (h : l = m) : ((str l).toList == (str m).toList) = true := by rw [h]; simp
theorem str_other {l m : List UInt8} (h : l ≠ m) : ((str l).toList == (str m).toList) = false := by
  rw [str_toList, str_toList]; simpa using h
theorem dE_01 (x y z : Int) : dE x y z = 0 ∨ dE x y z = 10 := by unfold dE; split; exact .inl rfl; exact .inr rfl
abbrev FBx (W : World) (g : Nat) (cs : List Value) : Prop := Bx W g 38 cs
abbrev FB (W : World) (g : Nat) (q : Q.Fr) : Prop := Bx W g 38 (fcs q)
set_option maxRecDepth 100000 in
set_option maxHeartbeats 4000000 in
theorem dec_1 (l : List UInt8) (w : World) (h : l.length ≠ 12) (h2 : l.length ≤ 1000000) : Calls Tryz.prog 13 #[.string (str l)] w (FP (decR l) w) := by
  have hd : decR l = (Q.z, 1) := decR_len h
  have hsz := str_size l
  have hn : (((str l).size : Int) == 12) = false := by rw [hsz]; simp; omega
  have HD := Lib.hid hd
  have hm : (str l).size ≤ 1000000 := by omega
  clear hd h h2 hsz
  rw [HD.out]
  generalize str l = S at hn hm ⊢
  go_enter Tryz.func13, Tryz.ntmps13
  go_wp2_with fail
  exact bodyPost_ret (v := .tuple #[fagg Q.z, .int .i64 1]) (by simp [results, Tryz.results13, go_sem, Q.z]) rfl ⟨rfl, (Below.refl _ _).alloc (Nat.le_refl _) _⟩
def dec3V (l : List UInt8) (nb : Bool) (i : Nat) (v : Value) (W : World) : Prop := match i with
  | 0 => v = .string (str l)
  | 1 => v = .string (str (l.take 10))
  | 2 => v = .string (str (chk (l.take 10)))
  | 3 => v = .string (str l)
  | 4 => v = .string (str (l.drop 10))
  | 5 => v = .bool nb
  | 6 => v = .bool nb
  | _ => True
theorem dec3V_keep (l : List UInt8) (nb : Bool) (i : Nat) (v : Value) (W W' : World) (hR : (fun w W => Below w.heap.size w W) W W') (h : dec3V l nb i v W) : dec3V l nb i v W' := by
  unfold dec3V at h ⊢
  split at h <;> first | exact h
set_option maxRecDepth 100000 in
set_option maxHeartbeats 4000000 in
theorem dec_2 (l : List UInt8) (w : World) (h : l.length = 12) (h2 : chk (l.take 10) ≠ l.drop 10) : Calls Tryz.prog 13 #[.string (str l)] w (FP (decR l) w) := by
  have hd : decR l = (Q.z, 9) := decR_chk h h2
  have hsz : (str l).size = 12 := by rw [str_size, h]
  have HD := Lib.hid hd
  have HL := Lib.hid h
  obtain ⟨nb, hnb⟩ : ∃ nb, nb = true := ⟨_, rfl⟩
  have HNB : Hid (((str (chk (l.take 10))).toList == (str (l.drop 10)).toList) = !nb) := Lib.hid (by rw [hnb]; exact str_other h2)
  have HCK : Hid (∀ W, Calls Tryz.prog 50 #[.string (str (l.take 10))] W (RV (.string (str (chk (l.take 10)))) W)) := Lib.hid fun W => check_any (str (l.take 10)) W (by rw [str_size]; simp; omega)
  clear hd h h2
  rw [HD.out]
  have HNT := Lib.hid hnb
  clear hnb
  go_enter Tryz.func13, Tryz.ntmps13
  go_upto_region 3 with (fail)
  have hR : FB (w.alloc (fobj Q.z)) w.heap.size Q.z := Bx.new _ _ _
  have hle := (Below.refl w.heap.size w).alloc (Nat.le_refl _) (fobj Q.z)
  refine wp_region_inr (by kernel_rfl) (fun w W => Below w.heap.size w W) (fun W => FB W w.heap.size Q.z ∧ Below w.heap.size w W) (dec3V l nb) (fun _ => false) (by kernel_rfl) (fun W W' hb h => ⟨h.1.call hb, h.2.trans (hb.mono h.2.size)⟩) (dec3V_keep l nb) (⟨hR, hle.drew⟩) ⟨?_, ?_, ?_, ?_, ?_, ?_, ?_, trivial⟩ ?_
  · intro a W hc hsz hold hdep
    have o0 : a.tmps.getD 0 undef = .string (str l) := hold 0 (by kernel_rfl)
    clear hsz hold hdep
    refine stepR_do rfl (wanted_none rfl) ?_
    refine stepR_val (v := .string (str l)) (Below.refl _ _) rfl fun K hK => ?_
    go_simp
    exact hK
  · intro a W hc hsz hold hdep
    have d0 : a.tmps.getD 19 undef = .string (str l) := hdep 0 (by kernel_rfl) rfl _ rfl
    have hx := ext_str l 10
    have hs : (str l).size = 12 := by rw [str_size, HL.out]
    clear hsz hold hdep
    refine stepR_do rfl (wanted_none rfl) ?_
    refine stepR_val (v := .string (str (l.take 10))) (Below.refl _ _) rfl fun K hK => ?_
    go_simp
    exact hK
  · intro a W hc hsz hold hdep
    have d1 : a.tmps.getD 20 undef = .string (str (l.take 10)) := hdep 1 (by kernel_rfl) rfl _ rfl
    have e1 : a.tmps[20]?.getD undef = .string (str (l.take 10)) := by rw [← Array.getD_eq_getD_getElem?]; exact d1
    clear hsz hold hdep
    refine stepR_do rfl (wanted_none rfl) ?_
    refine stepR_call (v := .string (str (chk (l.take 10)))) (fun W' hb => hb) (fun _ => rfl) fun K hK => ?_
    go_simp
    refine (HCK.out _).mono ?_
    rintro e w' ⟨rfl, hb'⟩
    exact hK _ hb'
  · intro a W hc hsz hold hdep
    have o0 : a.tmps.getD 0 undef = .string (str l) := hold 0 (by kernel_rfl)
    clear hsz hold hdep
    refine stepR_do rfl (wanted_none rfl) ?_
    refine stepR_val (v := .string (str l)) (Below.refl _ _) rfl fun K hK => ?_
    go_simp
    exact hK
  · intro a W hc hsz hold hdep
    have d3 : a.tmps.getD 22 undef = .string (str l) := hdep 3 (by kernel_rfl) rfl _ rfl
    have hx := ext_drop l HL.out
    have hs : (str l).size = 12 := by rw [str_size, HL.out]
    clear hsz hold hdep
    refine stepR_do rfl (wanted_none rfl) ?_
    refine stepR_val (v := .string (str (l.drop 10))) (Below.refl _ _) rfl fun K hK => ?_
    go_simp
    exact hK
  · intro a W hc hsz hold hdep
    have d2 : a.tmps.getD 21 undef = .string (str (chk (l.take 10))) := hdep 2 (by kernel_rfl) rfl _ rfl
    have d4 : a.tmps.getD 23 undef = .string (str (l.drop 10)) := hdep 4 (by kernel_rfl) rfl _ rfl
    have hs := HNB.out
    clear hsz hold hdep
    refine stepR_do rfl (wanted_none rfl) ?_
    refine stepR_val (v := .bool nb) (Below.refl _ _) rfl fun K hK => ?_
    go_simp
    exact hK
  · intro a W hc hsz hold hdep
    have d5 : a.tmps.getD 24 undef = .bool nb := hdep 5 (by kernel_rfl) rfl _ rfl
    clear hsz hold hdep
    refine stepR_do rfl (wanted_none rfl) ?_
    refine stepR_val (v := .bool nb) (Below.refl _ _) rfl fun K hK => ?_
    go_simp
    exact hK
  · intro a W hC hd hsz hold hval
    have d18 : a.tmps.getD 18 undef = .bool nb := hval 6 _ rfl rfl
    have d2 : a.tmps.getD 2 undef = .pointer (some ⟨w.heap.size, 0, none⟩) := hold 2 (by kernel_rfl)
    clear hold
    obtain ⟨tm, df⟩ := a
    replace hd : df = [] := hd
    replace hsz : tm.size = 89 := hsz
    replace d18 : tm.getD 18 undef = .bool nb := d18
    replace d2 : tm.getD 2 undef = .pointer (some ⟨w.heap.size, 0, none⟩) := d2
    subst hd
    have e : tm = List.toArray (tm.getD 0 undef :: tm.getD 1 undef :: tm.getD 2 undef :: tm.getD 3 undef :: tm.getD 4 undef :: tm.getD 5 undef :: tm.getD 6 undef :: tm.getD 7 undef :: tm.getD 8 undef :: tm.getD 9 undef :: tm.getD 10 undef :: tm.getD 11 undef :: tm.getD 12 undef :: tm.getD 13 undef :: tm.getD 14 undef :: tm.getD 15 undef :: tm.getD 16 undef :: tm.getD 17 undef :: tm.getD 18 undef :: tm.getD 19 undef :: tm.getD 20 undef :: tm.getD 21 undef :: tm.getD 22 undef :: tm.getD 23 undef :: tm.getD 24 undef :: tm.getD 25 undef :: tm.getD 26 undef :: tm.getD 27 undef :: tm.getD 28 undef :: tm.getD 29 undef :: tm.getD 30 undef :: tm.getD 31 undef :: tm.getD 32 undef :: tm.getD 33 undef :: tm.getD 34 undef :: tm.getD 35 undef :: tm.getD 36 undef :: tm.getD 37 undef :: tm.getD 38 undef :: tm.getD 39 undef :: tm.getD 40 undef :: tm.getD 41 undef :: tm.getD 42 undef :: tm.getD 43 undef :: tm.getD 44 undef :: tm.getD 45 undef :: tm.getD 46 undef :: tm.getD 47 undef :: tm.getD 48 undef :: tm.getD 49 undef :: tm.getD 50 undef :: tm.getD 51 undef :: tm.getD 52 undef :: tm.getD 53 undef :: tm.getD 54 undef :: tm.getD 55 undef :: tm.getD 56 undef :: tm.getD 57 undef :: tm.getD 58 undef :: tm.getD 59 undef :: tm.getD 60 undef :: tm.getD 61 undef :: tm.getD 62 undef :: tm.getD 63 undef :: tm.getD 64 undef :: tm.getD 65 undef :: tm.getD 66 undef :: tm.getD 67 undef :: tm.getD 68 undef :: tm.getD 69 undef :: tm.getD 70 undef :: tm.getD 71 undef :: tm.getD 72 undef :: tm.getD 73 undef :: tm.getD 74 undef :: tm.getD 75 undef :: tm.getD 76 undef :: tm.getD 77 undef :: tm.getD 78 undef :: tm.getD 79 undef :: tm.getD 80 undef :: tm.getD 81 undef :: tm.getD 82 undef :: tm.getD 83 undef :: tm.getD 84 undef :: tm.getD 85 undef :: tm.getD 86 undef :: tm.getD 87 undef :: tm.getD 88 undef :: []) := arr_eq tm 89 hsz
    rw [d18, d2] at e
    clear d18 d2 hsz
    generalize tm.getD 0 undef = v0 at e
    generalize tm.getD 1 undef = v1 at e
    generalize tm.getD 3 undef = v3 at e
    generalize tm.getD 4 undef = v4 at e
    generalize tm.getD 5 undef = v5 at e
    generalize tm.getD 6 undef = v6 at e
    generalize tm.getD 7 undef = v7 at e
    generalize tm.getD 8 undef = v8 at e
    generalize tm.getD 9 undef = v9 at e
    generalize tm.getD 10 undef = v10 at e
    generalize tm.getD 11 undef = v11 at e
    generalize tm.getD 12 undef = v12 at e
    generalize tm.getD 13 undef = v13 at e
    generalize tm.getD 14 undef = v14 at e
    generalize tm.getD 15 undef = v15 at e
    generalize tm.getD 16 undef = v16 at e
    generalize tm.getD 17 undef = v17 at e
    generalize tm.getD 19 undef = v19 at e
    generalize tm.getD 20 undef = v20 at e
    generalize tm.getD 21 undef = v21 at e
    generalize tm.getD 22 undef = v22 at e
    generalize tm.getD 23 undef = v23 at e
    generalize tm.getD 24 undef = v24 at e
    generalize tm.getD 25 undef = v25 at e
    generalize tm.getD 26 undef = v26 at e
    generalize tm.getD 27 undef = v27 at e
    generalize tm.getD 28 undef = v28 at e
    generalize tm.getD 29 undef = v29 at e
    generalize tm.getD 30 undef = v30 at e
    generalize tm.getD 31 undef = v31 at e
    generalize tm.getD 32 undef = v32 at e
    generalize tm.getD 33 undef = v33 at e
    generalize tm.getD 34 undef = v34 at e
    generalize tm.getD 35 undef = v35 at e
    generalize tm.getD 36 undef = v36 at e
    generalize tm.getD 37 undef = v37 at e
    generalize tm.getD 38 undef = v38 at e
    generalize tm.getD 39 undef = v39 at e
    generalize tm.getD 40 undef = v40 at e
    generalize tm.getD 41 undef = v41 at e
    generalize tm.getD 42 undef = v42 at e
    generalize tm.getD 43 undef = v43 at e
    generalize tm.getD 44 undef = v44 at e
    generalize tm.getD 45 undef = v45 at e
    generalize tm.getD 46 undef = v46 at e
    generalize tm.getD 47 undef = v47 at e
    generalize tm.getD 48 undef = v48 at e
    generalize tm.getD 49 undef = v49 at e
    generalize tm.getD 50 undef = v50 at e
    generalize tm.getD 51 undef = v51 at e
    generalize tm.getD 52 undef = v52 at e
    generalize tm.getD 53 undef = v53 at e
    generalize tm.getD 54 undef = v54 at e
    generalize tm.getD 55 undef = v55 at e
    generalize tm.getD 56 undef = v56 at e
    generalize tm.getD 57 undef = v57 at e
    generalize tm.getD 58 undef = v58 at e
    generalize tm.getD 59 undef = v59 at e
    generalize tm.getD 60 undef = v60 at e
    generalize tm.getD 61 undef = v61 at e
    generalize tm.getD 62 undef = v62 at e
    generalize tm.getD 63 undef = v63 at e
    generalize tm.getD 64 undef = v64 at e
    generalize tm.getD 65 undef = v65 at e
    generalize tm.getD 66 undef = v66 at e
    generalize tm.getD 67 undef = v67 at e
    generalize tm.getD 68 undef = v68 at e
    generalize tm.getD 69 undef = v69 at e
    generalize tm.getD 70 undef = v70 at e
    generalize tm.getD 71 undef = v71 at e
    generalize tm.getD 72 undef = v72 at e
    generalize tm.getD 73 undef = v73 at e
    generalize tm.getD 74 undef = v74 at e
    generalize tm.getD 75 undef = v75 at e
    generalize tm.getD 76 undef = v76 at e
    generalize tm.getD 77 undef = v77 at e
    generalize tm.getD 78 undef = v78 at e
    generalize tm.getD 79 undef = v79 at e
    generalize tm.getD 80 undef = v80 at e
    generalize tm.getD 81 undef = v81 at e
    generalize tm.getD 82 undef = v82 at e
    generalize tm.getD 83 undef = v83 at e
    generalize tm.getD 84 undef = v84 at e
    generalize tm.getD 85 undef = v85 at e
    generalize tm.getD 86 undef = v86 at e
    generalize tm.getD 87 undef = v87 at e
    generalize tm.getD 88 undef = v88 at e
    subst e
    have hF := hC.1
    have hle2 := hC.2
    rw [HNT.out]
    obtain ⟨q0, q1, q2, q3, q4, q5, q6, q7, q8⟩ := fcs_cells hF
    have hf := hF.free
    have hlt := hF.lt
    have HF : Hid (FB (setN W w.heap.size 0 (fcs Q.z)) w.heap.size Q.z) := Lib.hid (hF.setN (fcs Q.z) 0)
    have HLE := Lib.hid (Below.setN (Nat.le_refl _) (fcs Q.z) 0 hle2)
    clear hC hF hval hle2
    go_wp2_with fail
    obtain ⟨r0, r1, r2, r3, r4, r5, r6, r7, r8⟩ := fcs_cells HF.out
    simp only [setN, fcs, Q.z, Nat.zero_add, Nat.reduceAdd] at r0 r1 r2 r3 r4 r5 r6 r7 r8
    exact bodyPost_ret (v := .tuple #[fagg Q.z, .int .i64 9]) (by simp [results, Tryz.results13, go_sem, Q.z, r0, r1, r2, r3, r4, r5, r6, r7, r8]) rfl ⟨rfl, HLE.out⟩
/-- the parts of a frame that is being put together -/
def decD (l : List UInt8) (gq : Nat) (k : Nat) (W : World) : Prop := match k with
  | 0 => W.rangeAt gq 3 (mc (dM (bn l 3) (bn l 4) (bn l 5)) (dS (bn l 3) (bn l 4) (bn l 5)) (dF (bn l 3) (bn l 4) (bn l 5)))
  | 1 => W.rangeAt gq 6 (mc (dM (bn l 7) (bn l 8) (bn l 9)) (dS (bn l 7) (bn l 8) (bn l 9)) (dF (bn l 7) (bn l 8) (bn l 9)))
  | _ => W.rangeAt gq 0 [.int .i64 (bn l 0 / 16), .int .i64 (un (bn l 1)), .int .i64 (un (bn l 2))]
abbrev dec11R (l : List UInt8) (B gq : Nat) : World → World → Prop := RegW B gq 38 9 (decD l gq)
theorem dec11D (l : List UInt8) {gq : Nat} {t : TypeId} {w : World} (o : Nat) (vs : List Value) (hl : vs.length = 3) (ho : (o = 3 ∧ vs = mc (dM (bn l 3) (bn l 4) (bn l 5)) (dS (bn l 3) (bn l 4) (bn l 5)) (dF (bn l 3) (bn l 4) (bn l 5))) ∨ (o = 6 ∧ vs = mc (dM (bn l 7) (bn l 8) (bn l 9)) (dS (bn l 7) (bn l 8) (bn l 9)) (dF (bn l 7) (bn l 8) (bn l 9)))) (hB : ∃ cs : List Value, cs.length = 9 ∧ Bx w gq t cs) : ∀ k, decD l gq k w → decD l gq k (setN w gq o vs) := by
  intro k h
  match k, h with
  | 0, h =>
    rcases ho with ⟨rfl, rfl⟩ | ⟨rfl, rfl⟩
    · exact range_same hB (by simp)
    · exact range_other (o' := 3) h (by simp)
  | 1, h =>
    rcases ho with ⟨rfl, rfl⟩ | ⟨rfl, rfl⟩
    · exact range_other (o' := 6) h (by simp)
    · exact range_same hB (by simp)
  | k + 2, h => exact range_other (o' := 0) h (by rcases ho with ⟨rfl, _⟩ | ⟨rfl, _⟩ <;> simp)
def dec11V (l : List UInt8) (B gq g7 g9 : Nat) (i : Nat) (v : Value) (W : World) : Prop := match i with
  | 0 => v = msfv (dM (bn l 3) (bn l 4) (bn l 5)) (dS (bn l 3) (bn l 4) (bn l 5)) (dF (bn l 3) (bn l 4) (bn l 5))
  | 1 => v = msfv (dM (bn l 7) (bn l 8) (bn l 9)) (dS (bn l 7) (bn l 8) (bn l 9)) (dF (bn l 7) (bn l 8) (bn l 9))
  | 2 => v = .pointer (some ⟨gq, 3, none⟩)
  | 3 => W.rangeAt gq 3 (mc (dM (bn l 3) (bn l 4) (bn l 5)) (dS (bn l 3) (bn l 4) (bn l 5)) (dF (bn l 3) (bn l 4) (bn l 5)))
  | 4 => v = .pointer (some ⟨gq, 6, none⟩)
  | 5 => W.rangeAt gq 6 (mc (dM (bn l 7) (bn l 8) (bn l 9)) (dS (bn l 7) (bn l 8) (bn l 9)) (dF (bn l 7) (bn l 8) (bn l 9)))
  | _ => True
theorem dec11V_keep (l : List UInt8) (B gq g7 g9 : Nat) (i : Nat) (v : Value) (W W' : World) (hR : (dec11R l B gq) W W') (h : dec11V l B gq g7 g9 i v W) : dec11V l B gq g7 g9 i v W' := by
  by_cases h3 : i = 3
  · subst h3
    exact hR.2.2.2 0 h
  by_cases h5 : i = 5
  · subst h5
    exact hR.2.2.2 1 h
  unfold dec11V at h ⊢
  split at h <;> first | exact h | exact absurd rfl h3 | exact absurd rfl h5
set_option maxRecDepth 100000 in
set_option maxHeartbeats 4000000 in
theorem dec_3 (l : List UInt8) (w : World) (h : l.length = 12) (h2 : chk (l.take 10) = l.drop 10) : Calls Tryz.prog 13 #[.string (str l)] w (FP (decR l) w) := by
  have hsz : (str l).size = 12 := by rw [str_size, h]
  have HL := Lib.hid h
  obtain ⟨nb, hnb⟩ : ∃ nb, nb = false := ⟨_, rfl⟩
  have HNB : Hid (((str (chk (l.take 10))).toList == (str (l.drop 10)).toList) = !nb) := Lib.hid (by rw [hnb]; exact str_same h2)
  have HCK : Hid (∀ W, Calls Tryz.prog 50 #[.string (str (l.take 10))] W (RV (.string (str (chk (l.take 10)))) W)) := Lib.hid fun W => check_any (str (l.take 10)) W (by rw [str_size]; simp; omega)
  have hDec : ∀ w1, Below w.heap.size w w1 → (Is (cand l) l → FP (decR l) w (.returned (.tuple #[fagg (cand l), .int .i64 0])) w1) ∧ (¬ Is (cand l) l → FP (decR l) w (.returned (.tuple #[fagg Q.z, .int .i64 10])) w1) := fun w1 hb =>
    ⟨fun hi => by rw [decR_yes h h2 hi]; exact ⟨rfl, hb⟩, fun hi => by rw [decR_no h h2 hi]; exact ⟨rfl, hb⟩⟩
  have HDec := Lib.hid hDec
  have ix := fun (k : Nat) (hk : k < 12) (i : Int) (hi : i = k) (W : World) => run_bn (P := Tryz.prog) Tryz.underlying9 l k (by omega) i hi W
  have hx0 := ix 0 (by omega) 0 rfl
  have hx1 := ix 1 (by omega) 1 rfl
  have hx2 := ix 2 (by omega) 2 rfl
  clear ix hDec h h2
  have HNT := Lib.hid hnb
  clear hnb
  go_enter Tryz.func13, Tryz.ntmps13
  go_upto_region 3 with (fail)
  have hR : FB (w.alloc (fobj Q.z)) w.heap.size Q.z := Bx.new _ _ _
  have hle := (Below.refl w.heap.size w).alloc (Nat.le_refl _) (fobj Q.z)
  refine wp_region_inr (by kernel_rfl) (fun w W => Below w.heap.size w W) (fun W => FB W w.heap.size Q.z ∧ Below w.heap.size w W) (dec3V l nb) (fun _ => false) (by kernel_rfl) (fun W W' hb h => ⟨h.1.call hb, h.2.trans (hb.mono h.2.size)⟩) (dec3V_keep l nb) (⟨hR, hle.drew⟩) ⟨?_, ?_, ?_, ?_, ?_, ?_, ?_, trivial⟩ ?_
  · intro a W hc hsz hold hdep
    have o0 : a.tmps.getD 0 undef = .string (str l) := hold 0 (by kernel_rfl)
    clear hsz hold hdep
    refine stepR_do rfl (wanted_none rfl) ?_
    refine stepR_val (v := .string (str l)) (Below.refl _ _) rfl fun K hK => ?_
    go_simp
    exact hK
  · intro a W hc hsz hold hdep
    have d0 : a.tmps.getD 19 undef = .string (str l) := hdep 0 (by kernel_rfl) rfl _ rfl
    have hx := ext_str l 10
    have hs : (str l).size = 12 := by rw [str_size, HL.out]
    clear hsz hold hdep
    refine stepR_do rfl (wanted_none rfl) ?_
    refine stepR_val (v := .string (str (l.take 10))) (Below.refl _ _) rfl fun K hK => ?_
    go_simp
    exact hK
  · intro a W hc hsz hold hdep
    have d1 : a.tmps.getD 20 undef = .string (str (l.take 10)) := hdep 1 (by kernel_rfl) rfl _ rfl
    have e1 : a.tmps[20]?.getD undef = .string (str (l.take 10)) := by rw [← Array.getD_eq_getD_getElem?]; exact d1
    clear hsz hold hdep
    refine stepR_do rfl (wanted_none rfl) ?_
    refine stepR_call (v := .string (str (chk (l.take 10)))) (fun W' hb => hb) (fun _ => rfl) fun K hK => ?_
    go_simp
    refine (HCK.out _).mono ?_
    rintro e w' ⟨rfl, hb'⟩
    exact hK _ hb'
  · intro a W hc hsz hold hdep
    have o0 : a.tmps.getD 0 undef = .string (str l) := hold 0 (by kernel_rfl)
    clear hsz hold hdep
    refine stepR_do rfl (wanted_none rfl) ?_
    refine stepR_val (v := .string (str l)) (Below.refl _ _) rfl fun K hK => ?_
    go_simp
    exact hK
  · intro a W hc hsz hold hdep
    have d3 : a.tmps.getD 22 undef = .string (str l) := hdep 3 (by kernel_rfl) rfl _ rfl
    have hx := ext_drop l HL.out
    have hs : (str l).size = 12 := by rw [str_size, HL.out]
    clear hsz hold hdep
    refine stepR_do rfl (wanted_none rfl) ?_
    refine stepR_val (v := .string (str (l.drop 10))) (Below.refl _ _) rfl fun K hK => ?_
    go_simp
    exact hK
  · intro a W hc hsz hold hdep
    have d2 : a.tmps.getD 21 undef = .string (str (chk (l.take 10))) := hdep 2 (by kernel_rfl) rfl _ rfl
    have d4 : a.tmps.getD 23 undef = .string (str (l.drop 10)) := hdep 4 (by kernel_rfl) rfl _ rfl
    have hs := HNB.out
    clear hsz hold hdep
    refine stepR_do rfl (wanted_none rfl) ?_
    refine stepR_val (v := .bool nb) (Below.refl _ _) rfl fun K hK => ?_
    go_simp
    exact hK
  · intro a W hc hsz hold hdep
    have d5 : a.tmps.getD 24 undef = .bool nb := hdep 5 (by kernel_rfl) rfl _ rfl
    clear hsz hold hdep
    refine stepR_do rfl (wanted_none rfl) ?_
    refine stepR_val (v := .bool nb) (Below.refl _ _) rfl fun K hK => ?_
    go_simp
    exact hK
  · intro a W hC hd hsz hold hval
    have d18 : a.tmps.getD 18 undef = .bool nb := hval 6 _ rfl rfl
    have d2 : a.tmps.getD 2 undef = .pointer (some ⟨w.heap.size, 0, none⟩) := hold 2 (by kernel_rfl)
    have d0 : a.tmps.getD 0 undef = .string (str l) := hold 0 (by kernel_rfl)
    clear hold
    obtain ⟨tm, df⟩ := a
    replace hd : df = [] := hd
    replace hsz : tm.size = 89 := hsz
    replace d18 : tm.getD 18 undef = .bool nb := d18
    replace d2 : tm.getD 2 undef = .pointer (some ⟨w.heap.size, 0, none⟩) := d2
    replace d0 : tm.getD 0 undef = .string (str l) := d0
    subst hd
    have e : tm = List.toArray (tm.getD 0 undef :: tm.getD 1 undef :: tm.getD 2 undef :: tm.getD 3 undef :: tm.getD 4 undef :: tm.getD 5 undef :: tm.getD 6 undef :: tm.getD 7 undef :: tm.getD 8 undef :: tm.getD 9 undef :: tm.getD 10 undef :: tm.getD 11 undef :: tm.getD 12 undef :: tm.getD 13 undef :: tm.getD 14 undef :: tm.getD 15 undef :: tm.getD 16 undef :: tm.getD 17 undef :: tm.getD 18 undef :: tm.getD 19 undef :: tm.getD 20 undef :: tm.getD 21 undef :: tm.getD 22 undef :: tm.getD 23 undef :: tm.getD 24 undef :: tm.getD 25 undef :: tm.getD 26 undef :: tm.getD 27 undef :: tm.getD 28 undef :: tm.getD 29 undef :: tm.getD 30 undef :: tm.getD 31 undef :: tm.getD 32 undef :: tm.getD 33 undef :: tm.getD 34 undef :: tm.getD 35 undef :: tm.getD 36 undef :: tm.getD 37 undef :: tm.getD 38 undef :: tm.getD 39 undef :: tm.getD 40 undef :: tm.getD 41 undef :: tm.getD 42 undef :: tm.getD 43 undef :: tm.getD 44 undef :: tm.getD 45 undef :: tm.getD 46 undef :: tm.getD 47 undef :: tm.getD 48 undef :: tm.getD 49 undef :: tm.getD 50 undef :: tm.getD 51 undef :: tm.getD 52 undef :: tm.getD 53 undef :: tm.getD 54 undef :: tm.getD 55 undef :: tm.getD 56 undef :: tm.getD 57 undef :: tm.getD 58 undef :: tm.getD 59 undef :: tm.getD 60 undef :: tm.getD 61 undef :: tm.getD 62 undef :: tm.getD 63 undef :: tm.getD 64 undef :: tm.getD 65 undef :: tm.getD 66 undef :: tm.getD 67 undef :: tm.getD 68 undef :: tm.getD 69 undef :: tm.getD 70 undef :: tm.getD 71 undef :: tm.getD 72 undef :: tm.getD 73 undef :: tm.getD 74 undef :: tm.getD 75 undef :: tm.getD 76 undef :: tm.getD 77 undef :: tm.getD 78 undef :: tm.getD 79 undef :: tm.getD 80 undef :: tm.getD 81 undef :: tm.getD 82 undef :: tm.getD 83 undef :: tm.getD 84 undef :: tm.getD 85 undef :: tm.getD 86 undef :: tm.getD 87 undef :: tm.getD 88 undef :: []) := arr_eq tm 89 hsz
    rw [d18, d2, d0] at e
    clear d18 d2 d0 hsz
    generalize tm.getD 1 undef = v1 at e
    generalize tm.getD 3 undef = v3 at e
    generalize tm.getD 4 undef = v4 at e
    generalize tm.getD 5 undef = v5 at e
    generalize tm.getD 6 undef = v6 at e
    generalize tm.getD 7 undef = v7 at e
    generalize tm.getD 8 undef = v8 at e
    generalize tm.getD 9 undef = v9 at e
    generalize tm.getD 10 undef = v10 at e
    generalize tm.getD 11 undef = v11 at e
    generalize tm.getD 12 undef = v12 at e
    generalize tm.getD 13 undef = v13 at e
    generalize tm.getD 14 undef = v14 at e
    generalize tm.getD 15 undef = v15 at e
    generalize tm.getD 16 undef = v16 at e
    generalize tm.getD 17 undef = v17 at e
    generalize tm.getD 19 undef = v19 at e
    generalize tm.getD 20 undef = v20 at e
    generalize tm.getD 21 undef = v21 at e
    generalize tm.getD 22 undef = v22 at e
    generalize tm.getD 23 undef = v23 at e
    generalize tm.getD 24 undef = v24 at e
    generalize tm.getD 25 undef = v25 at e
    generalize tm.getD 26 undef = v26 at e
    generalize tm.getD 27 undef = v27 at e
    generalize tm.getD 28 undef = v28 at e
    generalize tm.getD 29 undef = v29 at e
    generalize tm.getD 30 undef = v30 at e
    generalize tm.getD 31 undef = v31 at e
    generalize tm.getD 32 undef = v32 at e
    generalize tm.getD 33 undef = v33 at e
    generalize tm.getD 34 undef = v34 at e
    generalize tm.getD 35 undef = v35 at e
    generalize tm.getD 36 undef = v36 at e
    generalize tm.getD 37 undef = v37 at e
    generalize tm.getD 38 undef = v38 at e
    generalize tm.getD 39 undef = v39 at e
    generalize tm.getD 40 undef = v40 at e
    generalize tm.getD 41 undef = v41 at e
    generalize tm.getD 42 undef = v42 at e
    generalize tm.getD 43 undef = v43 at e
    generalize tm.getD 44 undef = v44 at e
    generalize tm.getD 45 undef = v45 at e
    generalize tm.getD 46 undef = v46 at e
    generalize tm.getD 47 undef = v47 at e
    generalize tm.getD 48 undef = v48 at e
    generalize tm.getD 49 undef = v49 at e
    generalize tm.getD 50 undef = v50 at e
    generalize tm.getD 51 undef = v51 at e
    generalize tm.getD 52 undef = v52 at e
    generalize tm.getD 53 undef = v53 at e
    generalize tm.getD 54 undef = v54 at e
    generalize tm.getD 55 undef = v55 at e
    generalize tm.getD 56 undef = v56 at e
    generalize tm.getD 57 undef = v57 at e
    generalize tm.getD 58 undef = v58 at e
    generalize tm.getD 59 undef = v59 at e
    generalize tm.getD 60 undef = v60 at e
    generalize tm.getD 61 undef = v61 at e
    generalize tm.getD 62 undef = v62 at e
    generalize tm.getD 63 undef = v63 at e
    generalize tm.getD 64 undef = v64 at e
    generalize tm.getD 65 undef = v65 at e
    generalize tm.getD 66 undef = v66 at e
    generalize tm.getD 67 undef = v67 at e
    generalize tm.getD 68 undef = v68 at e
    generalize tm.getD 69 undef = v69 at e
    generalize tm.getD 70 undef = v70 at e
    generalize tm.getD 71 undef = v71 at e
    generalize tm.getD 72 undef = v72 at e
    generalize tm.getD 73 undef = v73 at e
    generalize tm.getD 74 undef = v74 at e
    generalize tm.getD 75 undef = v75 at e
    generalize tm.getD 76 undef = v76 at e
    generalize tm.getD 77 undef = v77 at e
    generalize tm.getD 78 undef = v78 at e
    generalize tm.getD 79 undef = v79 at e
    generalize tm.getD 80 undef = v80 at e
    generalize tm.getD 81 undef = v81 at e
    generalize tm.getD 82 undef = v82 at e
    generalize tm.getD 83 undef = v83 at e
    generalize tm.getD 84 undef = v84 at e
    generalize tm.getD 85 undef = v85 at e
    generalize tm.getD 86 undef = v86 at e
    generalize tm.getD 87 undef = v87 at e
    generalize tm.getD 88 undef = v88 at e
    subst e
    have hR := hC.1
    have hle := hC.2
    rw [HNT.out]
    clear hC hval
    obtain ⟨b0, b0'⟩ := bn_lt l 0
    obtain ⟨b1, b1'⟩ := bn_lt l 1
    obtain ⟨b2, b2'⟩ := bn_lt l 2
    obtain ⟨gR, hgR⟩ : ∃ g, g = w.heap.size := ⟨_, rfl⟩
    rw [← hgR] at hR
    simp only [← hgR]
    have HGR := Lib.hid hgR
    have hgRl : gR < W.heap.size := hR.lt
    clear hgR
    have hW1 : w.heap.size ≤ W.heap.size := hle.size
    obtain ⟨gq, hgq⟩ : ∃ g, g = W.heap.size := ⟨_, rfl⟩
    have hq1 : FB (W.alloc (fobj ⟨bn l 0 / 16, 0, 0, 0, 0, 0, 0, 0, 0⟩)) gq ⟨bn l 0 / 16, 0, 0, 0, 0, 0, 0, 0, 0⟩ := by rw [hgq]; exact Bx.new _ _ _
    have hR1 := hR.alloc (fobj ⟨bn l 0 / 16, 0, 0, 0, 0, 0, 0, 0, 0⟩)
    have hle1 := hle.alloc hW1 (fobj ⟨bn l 0 / 16, 0, 0, 0, 0, 0, 0, 0, 0⟩)
    have hgqB : w.heap.size ≤ gq := by omega
    have hne : gR ≠ gq := by omega
    have HR1 := Lib.hid hR1; have HQ1 := Lib.hid hq1; have HLE1 := Lib.hid hle1
    clear hR hle hq1 hR1 hle1 hW1
    go_wp2_with fail
    simp only [← hgq]
    clear hgq
    change Calls _ _ _ (W.alloc (fobj ⟨bn l 0 / 16, 0, 0, 0, 0, 0, 0, 0, 0⟩)) _
    generalize W.alloc (fobj ⟨bn l 0 / 16, 0, 0, 0, 0, 0, 0, 0, 0⟩) = w1 at HR1 HQ1 HLE1 ⊢
    refine (unnumber_any (bn l 1) _ b1 b1').mono ?_
    rintro e x1 ⟨rfl, hb1⟩
    have hq2 := HQ1.out.call hb1
    have hR2 := HR1.out.call hb1
    have hle2 := HLE1.out.trans (hb1.mono HLE1.out.size)
    obtain ⟨p0, p1, p2, p3, p4, p5, p6, p7, p8⟩ := fcs_cells hq2
    have hf := hq2.free
    have hlt := hq2.lt
    have HQ2 : Hid (FB (x1.setCell ⟨gq, 1, none⟩ (.int .i64 (un (bn l 1)))) gq ⟨bn l 0 / 16, un (bn l 1), 0, 0, 0, 0, 0, 0, 0⟩) := Lib.hid (hq2.set 1 _)
    have HR2 : Hid (FB (x1.setCell ⟨gq, 1, none⟩ (.int .i64 (un (bn l 1)))) gR Q.z) := Lib.hid (hR2.far (p := ⟨gq, 1, none⟩) (Ne.symm hne) _)
    have HLE2 : Hid (Below w.heap.size w (x1.setCell ⟨gq, 1, none⟩ (.int .i64 (un (bn l 1))))) := Lib.hid (hle2.setCell (p := ⟨gq, 1, none⟩) hgqB _)
    clear hq2 hR2 hle2 hb1 HQ1 HR1 HLE1 b1 b1'
    go_wp2_with fail
    clear p0 p1 p2 p3 p4 p5 p6 p7 p8 hf hlt
    generalize x1.setCell ⟨gq, 1, none⟩ (.int .i64 (un (bn l 1))) = w2 at HQ2 HR2 HLE2 ⊢
    clear x1
    refine (unnumber_any (bn l 2) _ b2 b2').mono ?_
    rintro e x2 ⟨rfl, hb2⟩
    have hq3 := HQ2.out.call hb2
    have hR3 := HR2.out.call hb2
    have hle3 := HLE2.out.trans (hb2.mono HLE2.out.size)
    obtain ⟨p0, p1, p2, p3, p4, p5, p6, p7, p8⟩ := fcs_cells hq3
    have hf := hq3.free
    have hlt := hq3.lt
    have HQ3 : Hid (FB (x2.setCell ⟨gq, 2, none⟩ (.int .i64 (un (bn l 2)))) gq ⟨bn l 0 / 16, un (bn l 1), un (bn l 2), 0, 0, 0, 0, 0, 0⟩) := Lib.hid (hq3.set 2 _)
    have HR3 : Hid (FB (x2.setCell ⟨gq, 2, none⟩ (.int .i64 (un (bn l 2)))) gR Q.z) := Lib.hid (hR3.far (p := ⟨gq, 2, none⟩) (Ne.symm hne) _)
    have HLE3 : Hid (Below w.heap.size w (x2.setCell ⟨gq, 2, none⟩ (.int .i64 (un (bn l 2))))) := Lib.hid (hle3.setCell (p := ⟨gq, 2, none⟩) hgqB _)
    clear hq3 hR3 hle3 hb2 HQ2 HR2 HLE2 b2 b2'
    go_wp2_with fail
    clear p0 p1 p2 p3 p4 p5 p6 p7 p8 hf hlt
    generalize x2.setCell ⟨gq, 2, none⟩ (.int .i64 (un (bn l 2))) = w3 at HQ3 HR3 HLE3 ⊢
    clear x2
    refine (adec3_any l _ HL.out).mono ?_
    rintro e y3 ⟨rfl, hb3⟩
    have hle4 := HLE3.out.trans (hb3.mono HLE3.out.size)
    obtain ⟨g7, hg7⟩ : ∃ g, g = y3.heap.size := ⟨_, rfl⟩
    have HM4 : Hid (MB (y3.alloc (mo (dM (bn l 3) (bn l 4) (bn l 5)) (dS (bn l 3) (bn l 4) (bn l 5)) (dF (bn l 3) (bn l 4) (bn l 5)))) g7 (dM (bn l 3) (bn l 4) (bn l 5)) (dS (bn l 3) (bn l 4) (bn l 5)) (dF (bn l 3) (bn l 4) (bn l 5))) := Lib.hid (by rw [hg7]; exact Bx.new _ _ _)
    have HQ4 := Lib.hid ((HQ3.out.call hb3).alloc (mo (dM (bn l 3) (bn l 4) (bn l 5)) (dS (bn l 3) (bn l 4) (bn l 5)) (dF (bn l 3) (bn l 4) (bn l 5))))
    have HR4 := Lib.hid ((HR3.out.call hb3).alloc (mo (dM (bn l 3) (bn l 4) (bn l 5)) (dS (bn l 3) (bn l 4) (bn l 5)) (dF (bn l 3) (bn l 4) (bn l 5))))
    have HLE4 := Lib.hid (hle4.alloc hle4.size (mo (dM (bn l 3) (bn l 4) (bn l 5)) (dS (bn l 3) (bn l 4) (bn l 5)) (dF (bn l 3) (bn l 4) (bn l 5))))
    have hne7 : g7 ≠ gq := by have := (HQ3.out.call hb3).lt; omega
    clear hle4 hb3 HQ3 HR3 HLE3
    go_wp2_with fail
    simp only [← hg7]
    clear hg7
    generalize y3.alloc (mo (dM (bn l 3) (bn l 4) (bn l 5)) (dS (bn l 3) (bn l 4) (bn l 5)) (dF (bn l 3) (bn l 4) (bn l 5))) = w4 at HM4 HQ4 HR4 HLE4 ⊢
    clear y3
    refine (adec7_any l _ HL.out).mono ?_
    rintro e y4 ⟨rfl, hb4⟩
    have hle5 := HLE4.out.trans (hb4.mono HLE4.out.size)
    obtain ⟨g9, hg9⟩ : ∃ g, g = y4.heap.size := ⟨_, rfl⟩
    have HN5 : Hid (MB (y4.alloc (mo (dM (bn l 7) (bn l 8) (bn l 9)) (dS (bn l 7) (bn l 8) (bn l 9)) (dF (bn l 7) (bn l 8) (bn l 9)))) g9 (dM (bn l 7) (bn l 8) (bn l 9)) (dS (bn l 7) (bn l 8) (bn l 9)) (dF (bn l 7) (bn l 8) (bn l 9))) := Lib.hid (by rw [hg9]; exact Bx.new _ _ _)
    have HQ5 := Lib.hid ((HQ4.out.call hb4).alloc (mo (dM (bn l 7) (bn l 8) (bn l 9)) (dS (bn l 7) (bn l 8) (bn l 9)) (dF (bn l 7) (bn l 8) (bn l 9))))
    have HR5 := Lib.hid ((HR4.out.call hb4).alloc (mo (dM (bn l 7) (bn l 8) (bn l 9)) (dS (bn l 7) (bn l 8) (bn l 9)) (dF (bn l 7) (bn l 8) (bn l 9))))
    have HM5 := Lib.hid ((HM4.out.call hb4).alloc (mo (dM (bn l 7) (bn l 8) (bn l 9)) (dS (bn l 7) (bn l 8) (bn l 9)) (dF (bn l 7) (bn l 8) (bn l 9))))
    have HLE5 := Lib.hid (hle5.alloc hle5.size (mo (dM (bn l 7) (bn l 8) (bn l 9)) (dS (bn l 7) (bn l 8) (bn l 9)) (dF (bn l 7) (bn l 8) (bn l 9))))
    have hne9 : g9 ≠ gq := by have := (HQ4.out.call hb4).lt; omega
    clear hle5 hb4 HQ4 HR4 HLE4 HM4
    go_upto_region 11 with (fail)
    simp only [← hg9]
    clear hg9
    generalize y4.alloc (mo (dM (bn l 7) (bn l 8) (bn l 9)) (dS (bn l 7) (bn l 8) (bn l 9)) (dF (bn l 7) (bn l 8) (bn l 9))) = w5 at HM5 HN5 HQ5 HR5 HLE5 ⊢
    clear y4
    have hM := HM5.out; have hN := HN5.out; have hQ := HQ5.out; have hR := HR5.out; have hle := HLE5.out
    clear HM5 HN5 HQ5 HR5 HLE5
    obtain ⟨B, hBB⟩ : ∃ B, B = w.heap.size := ⟨_, rfl⟩
    rw [← hBB] at hle hgqB
    have hD2 : decD l gq 2 w5 := fun i v hv => by rw [Nat.zero_add]; exact hQ.cell (by
      match i, hv with
      | 0, hv => exact hv
      | 1, hv => exact hv
      | 2, hv => exact hv
      | i + 3, hv => simp at hv)
    refine wp_region_inr (by kernel_rfl) (dec11R l B gq) (fun W => Below B w W ∧ MB W g7 (dM (bn l 3) (bn l 4) (bn l 5)) (dS (bn l 3) (bn l 4) (bn l 5)) (dF (bn l 3) (bn l 4) (bn l 5)) ∧ MB W g9 (dM (bn l 7) (bn l 8) (bn l 9)) (dS (bn l 7) (bn l 8) (bn l 9)) (dF (bn l 7) (bn l 8) (bn l 9)) ∧ (∃ cs : List Value, cs.length = 9 ∧ FBx W gq cs) ∧ decD l gq 2 W ∧ FB W gR Q.z) (dec11V l B gq g7 g9) (fun _ => false) (by kernel_rfl) (fun W W' hR h => ⟨h.1.trans hR.1, (hR.2.1.2 g7 h.2.1.lt (fun e => hne7 (Option.some.inj e))).trans h.2.1, (hR.2.1.2 g9 h.2.2.1.lt (fun e => hne9 (Option.some.inj e))).trans h.2.2.1, hR.2.2.1 h.2.2.2.1, hR.2.2.2 2 h.2.2.2.2.1, (hR.2.1.2 gR h.2.2.2.2.2.lt (fun e => hne (Option.some.inj e))).trans h.2.2.2.2.2⟩) (dec11V_keep l B gq g7 g9) (⟨hle.drew, hM, hN, ⟨_, rfl, hQ⟩, hD2, hR⟩) ⟨?_, ?_, ?_, ?_, ?_, ?_, trivial⟩ ?_
    · intro a W hc hsz hold hdep
      have o7 : a.tmps.getD 7 undef = .pointer (some ⟨g7, 0, none⟩) := hold 7 (by kernel_rfl)
      have c0 := hc.2.1.cell (i := 0) rfl
      have c1 := hc.2.1.cell (i := 1) rfl
      have c2 := hc.2.1.cell (i := 2) rfl
      clear hsz hold hdep
      refine stepR_do rfl (wanted_none rfl) ?_
      refine stepR_val (v := msfv (dM (bn l 3) (bn l 4) (bn l 5)) (dS (bn l 3) (bn l 4) (bn l 5)) (dF (bn l 3) (bn l 4) (bn l 5))) RegW.refl rfl fun K hK => ?_
      go_simp
      exact hK
    · intro a W hc hsz hold hdep
      have o9 : a.tmps.getD 9 undef = .pointer (some ⟨g9, 0, none⟩) := hold 9 (by kernel_rfl)
      have c0 := hc.2.2.1.cell (i := 0) rfl
      have c1 := hc.2.2.1.cell (i := 1) rfl
      have c2 := hc.2.2.1.cell (i := 2) rfl
      clear hsz hold hdep
      refine stepR_do rfl (wanted_none rfl) ?_
      refine stepR_val (v := msfv (dM (bn l 7) (bn l 8) (bn l 9)) (dS (bn l 7) (bn l 8) (bn l 9)) (dF (bn l 7) (bn l 8) (bn l 9))) RegW.refl rfl fun K hK => ?_
      go_simp
      exact hK
    · intro a W hc hsz hold hdep
      have o4 : a.tmps.getD 4 undef = .pointer (some ⟨gq, 0, none⟩) := hold 4 (by kernel_rfl)
      clear hsz hold hdep
      refine stepR_do rfl (wanted_none rfl) ?_
      refine stepR_val (v := .pointer (some ⟨gq, 3, none⟩)) RegW.refl rfl fun K hK => ?_
      go_simp
      exact hK
    · intro a W hc hsz hold hdep
      have d2 : a.tmps.getD 57 undef = .pointer (some ⟨gq, 3, none⟩) := hdep 2 (by kernel_rfl) rfl _ rfl
      have d0 : a.tmps.getD 55 undef = msfv (dM (bn l 3) (bn l 4) (bn l 5)) (dS (bn l 3) (bn l 4) (bn l 5)) (dF (bn l 3) (bn l 4) (bn l 5)) := hdep 0 (by kernel_rfl) rfl _ rfl
      clear hsz hold hdep
      refine stepR_do rfl (wanted_none rfl) ?_
      have hE := hc.2.2.2.1
      obtain ⟨cs, hl, hB⟩ := hE
      have hlt := hB.lt
      have hf := hB.free
      have q3 : ∃ v, W.cell? ⟨gq, 3, none⟩ = some v := ⟨_, hB.cell (List.getElem?_eq_getElem (by omega))⟩
      have q4 : ∃ v, W.cell? ⟨gq, 4, none⟩ = some v := ⟨_, hB.cell (List.getElem?_eq_getElem (by omega))⟩
      have q5 : ∃ v, W.cell? ⟨gq, 5, none⟩ = some v := ⟨_, hB.cell (List.getElem?_eq_getElem (by omega))⟩
      obtain ⟨u0, q3⟩ := q3
      obtain ⟨u1, q4⟩ := q4
      obtain ⟨u2, q5⟩ := q5
      refine stepR_new (v := undef) (RegW.store hgqB 3 (mc (dM (bn l 3) (bn l 4) (bn l 5)) (dS (bn l 3) (bn l 4) (bn l 5)) (dF (bn l 3) (bn l 4) (bn l 5))) (dec11D l 3 _ (by simp) (.inl ⟨rfl, rfl⟩) ⟨cs, hl, hB⟩)) (range_same ⟨cs, hl, hB⟩ (by simp)) fun K hK => ?_
      clear hB hl
      go_simp
      exact hK
    · intro a W hc hsz hold hdep
      have o4 : a.tmps.getD 4 undef = .pointer (some ⟨gq, 0, none⟩) := hold 4 (by kernel_rfl)
      clear hsz hold hdep
      refine stepR_do rfl (wanted_none rfl) ?_
      refine stepR_val (v := .pointer (some ⟨gq, 6, none⟩)) RegW.refl rfl fun K hK => ?_
      go_simp
      exact hK
    · intro a W hc hsz hold hdep
      have d4 : a.tmps.getD 58 undef = .pointer (some ⟨gq, 6, none⟩) := hdep 4 (by kernel_rfl) rfl _ rfl
      have d1 : a.tmps.getD 56 undef = msfv (dM (bn l 7) (bn l 8) (bn l 9)) (dS (bn l 7) (bn l 8) (bn l 9)) (dF (bn l 7) (bn l 8) (bn l 9)) := hdep 1 (by kernel_rfl) rfl _ rfl
      clear hsz hold hdep
      refine stepR_do rfl (wanted_none rfl) ?_
      have hE := hc.2.2.2.1
      obtain ⟨cs, hl, hB⟩ := hE
      have hlt := hB.lt
      have hf := hB.free
      have q6 : ∃ v, W.cell? ⟨gq, 6, none⟩ = some v := ⟨_, hB.cell (List.getElem?_eq_getElem (by omega))⟩
      have q7 : ∃ v, W.cell? ⟨gq, 7, none⟩ = some v := ⟨_, hB.cell (List.getElem?_eq_getElem (by omega))⟩
      have q8 : ∃ v, W.cell? ⟨gq, 8, none⟩ = some v := ⟨_, hB.cell (List.getElem?_eq_getElem (by omega))⟩
      obtain ⟨u0, q6⟩ := q6
      obtain ⟨u1, q7⟩ := q7
      obtain ⟨u2, q8⟩ := q8
      refine stepR_new (v := undef) (RegW.store hgqB 6 (mc (dM (bn l 7) (bn l 8) (bn l 9)) (dS (bn l 7) (bn l 8) (bn l 9)) (dF (bn l 7) (bn l 8) (bn l 9))) (dec11D l 6 _ (by simp) (.inr ⟨rfl, rfl⟩) ⟨cs, hl, hB⟩)) (range_same ⟨cs, hl, hB⟩ (by simp)) fun K hK => ?_
      clear hB hl
      go_simp
      exact hK
    · intro a W hC hd hsz hold hval
      have d0 : a.tmps.getD 0 undef = .string (str l) := hold 0 (by kernel_rfl)
      have d2 : a.tmps.getD 2 undef = .pointer (some ⟨gR, 0, none⟩) := hold 2 (by kernel_rfl)
      have d4 : a.tmps.getD 4 undef = .pointer (some ⟨gq, 0, none⟩) := hold 4 (by kernel_rfl)
      have d5 : a.tmps.getD 5 undef = .bool (unB (bn l 1)) := hold 5 (by kernel_rfl)
      have d6 : a.tmps.getD 6 undef = .bool (unB (bn l 2)) := hold 6 (by kernel_rfl)
      have d8 : a.tmps.getD 8 undef = .int .i64 (dE (bn l 3) (bn l 4) (bn l 5)) := hold 8 (by kernel_rfl)
      have d10 : a.tmps.getD 10 undef = .int .i64 (dE (bn l 7) (bn l 8) (bn l 9)) := hold 10 (by kernel_rfl)
      clear hold
      obtain ⟨tm, df⟩ := a
      replace hd : df = [] := hd
      replace hsz : tm.size = 89 := hsz
      replace d0 : tm.getD 0 undef = .string (str l) := d0
      replace d2 : tm.getD 2 undef = .pointer (some ⟨gR, 0, none⟩) := d2
      replace d4 : tm.getD 4 undef = .pointer (some ⟨gq, 0, none⟩) := d4
      replace d5 : tm.getD 5 undef = .bool (unB (bn l 1)) := d5
      replace d6 : tm.getD 6 undef = .bool (unB (bn l 2)) := d6
      replace d8 : tm.getD 8 undef = .int .i64 (dE (bn l 3) (bn l 4) (bn l 5)) := d8
      replace d10 : tm.getD 10 undef = .int .i64 (dE (bn l 7) (bn l 8) (bn l 9)) := d10
      subst hd
      have e : tm = List.toArray (tm.getD 0 undef :: tm.getD 1 undef :: tm.getD 2 undef :: tm.getD 3 undef :: tm.getD 4 undef :: tm.getD 5 undef :: tm.getD 6 undef :: tm.getD 7 undef :: tm.getD 8 undef :: tm.getD 9 undef :: tm.getD 10 undef :: tm.getD 11 undef :: tm.getD 12 undef :: tm.getD 13 undef :: tm.getD 14 undef :: tm.getD 15 undef :: tm.getD 16 undef :: tm.getD 17 undef :: tm.getD 18 undef :: tm.getD 19 undef :: tm.getD 20 undef :: tm.getD 21 undef :: tm.getD 22 undef :: tm.getD 23 undef :: tm.getD 24 undef :: tm.getD 25 undef :: tm.getD 26 undef :: tm.getD 27 undef :: tm.getD 28 undef :: tm.getD 29 undef :: tm.getD 30 undef :: tm.getD 31 undef :: tm.getD 32 undef :: tm.getD 33 undef :: tm.getD 34 undef :: tm.getD 35 undef :: tm.getD 36 undef :: tm.getD 37 undef :: tm.getD 38 undef :: tm.getD 39 undef :: tm.getD 40 undef :: tm.getD 41 undef :: tm.getD 42 undef :: tm.getD 43 undef :: tm.getD 44 undef :: tm.getD 45 undef :: tm.getD 46 undef :: tm.getD 47 undef :: tm.getD 48 undef :: tm.getD 49 undef :: tm.getD 50 undef :: tm.getD 51 undef :: tm.getD 52 undef :: tm.getD 53 undef :: tm.getD 54 undef :: tm.getD 55 undef :: tm.getD 56 undef :: tm.getD 57 undef :: tm.getD 58 undef :: tm.getD 59 undef :: tm.getD 60 undef :: tm.getD 61 undef :: tm.getD 62 undef :: tm.getD 63 undef :: tm.getD 64 undef :: tm.getD 65 undef :: tm.getD 66 undef :: tm.getD 67 undef :: tm.getD 68 undef :: tm.getD 69 undef :: tm.getD 70 undef :: tm.getD 71 undef :: tm.getD 72 undef :: tm.getD 73 undef :: tm.getD 74 undef :: tm.getD 75 undef :: tm.getD 76 undef :: tm.getD 77 undef :: tm.getD 78 undef :: tm.getD 79 undef :: tm.getD 80 undef :: tm.getD 81 undef :: tm.getD 82 undef :: tm.getD 83 undef :: tm.getD 84 undef :: tm.getD 85 undef :: tm.getD 86 undef :: tm.getD 87 undef :: tm.getD 88 undef :: []) := arr_eq tm 89 hsz
      rw [d0, d2, d4, d5, d6, d8, d10] at e
      clear d0 d2 d4 d5 d6 d8 d10 hsz
      generalize tm.getD 1 undef = v1 at e
      generalize tm.getD 3 undef = v3 at e
      generalize tm.getD 7 undef = v7 at e
      generalize tm.getD 9 undef = v9 at e
      generalize tm.getD 11 undef = v11 at e
      generalize tm.getD 12 undef = v12 at e
      generalize tm.getD 13 undef = v13 at e
      generalize tm.getD 14 undef = v14 at e
      generalize tm.getD 15 undef = v15 at e
      generalize tm.getD 16 undef = v16 at e
      generalize tm.getD 17 undef = v17 at e
      generalize tm.getD 18 undef = v18 at e
      generalize tm.getD 19 undef = v19 at e
      generalize tm.getD 20 undef = v20 at e
      generalize tm.getD 21 undef = v21 at e
      generalize tm.getD 22 undef = v22 at e
      generalize tm.getD 23 undef = v23 at e
      generalize tm.getD 24 undef = v24 at e
      generalize tm.getD 25 undef = v25 at e
      generalize tm.getD 26 undef = v26 at e
      generalize tm.getD 27 undef = v27 at e
      generalize tm.getD 28 undef = v28 at e
      generalize tm.getD 29 undef = v29 at e
      generalize tm.getD 30 undef = v30 at e
      generalize tm.getD 31 undef = v31 at e
      generalize tm.getD 32 undef = v32 at e
      generalize tm.getD 33 undef = v33 at e
      generalize tm.getD 34 undef = v34 at e
      generalize tm.getD 35 undef = v35 at e
      generalize tm.getD 36 undef = v36 at e
      generalize tm.getD 37 undef = v37 at e
      generalize tm.getD 38 undef = v38 at e
      generalize tm.getD 39 undef = v39 at e
      generalize tm.getD 40 undef = v40 at e
      generalize tm.getD 41 undef = v41 at e
      generalize tm.getD 42 undef = v42 at e
      generalize tm.getD 43 undef = v43 at e
      generalize tm.getD 44 undef = v44 at e
      generalize tm.getD 45 undef = v45 at e
      generalize tm.getD 46 undef = v46 at e
      generalize tm.getD 47 undef = v47 at e
      generalize tm.getD 48 undef = v48 at e
      generalize tm.getD 49 undef = v49 at e
      generalize tm.getD 50 undef = v50 at e
      generalize tm.getD 51 undef = v51 at e
      generalize tm.getD 52 undef = v52 at e
      generalize tm.getD 53 undef = v53 at e
      generalize tm.getD 54 undef = v54 at e
      generalize tm.getD 55 undef = v55 at e
      generalize tm.getD 56 undef = v56 at e
      generalize tm.getD 57 undef = v57 at e
      generalize tm.getD 58 undef = v58 at e
      generalize tm.getD 59 undef = v59 at e
      generalize tm.getD 60 undef = v60 at e
      generalize tm.getD 61 undef = v61 at e
      generalize tm.getD 62 undef = v62 at e
      generalize tm.getD 63 undef = v63 at e
      generalize tm.getD 64 undef = v64 at e
      generalize tm.getD 65 undef = v65 at e
      generalize tm.getD 66 undef = v66 at e
      generalize tm.getD 67 undef = v67 at e
      generalize tm.getD 68 undef = v68 at e
      generalize tm.getD 69 undef = v69 at e
      generalize tm.getD 70 undef = v70 at e
      generalize tm.getD 71 undef = v71 at e
      generalize tm.getD 72 undef = v72 at e
      generalize tm.getD 73 undef = v73 at e
      generalize tm.getD 74 undef = v74 at e
      generalize tm.getD 75 undef = v75 at e
      generalize tm.getD 76 undef = v76 at e
      generalize tm.getD 77 undef = v77 at e
      generalize tm.getD 78 undef = v78 at e
      generalize tm.getD 79 undef = v79 at e
      generalize tm.getD 80 undef = v80 at e
      generalize tm.getD 81 undef = v81 at e
      generalize tm.getD 82 undef = v82 at e
      generalize tm.getD 83 undef = v83 at e
      generalize tm.getD 84 undef = v84 at e
      generalize tm.getD 85 undef = v85 at e
      generalize tm.getD 86 undef = v86 at e
      generalize tm.getD 87 undef = v87 at e
      generalize tm.getD 88 undef = v88 at e
      subst e
      have hQF : FB W gq (cand l) := by
        obtain ⟨cs, h1, h2⟩ := hC.2.2.2.1
        exact h2.ofRange (range_join (range_join hC.2.2.2.2.1 (hval 3 _ rfl rfl)) (hval 5 _ rfl rfl)) (by rw [h1]; rfl)
      have hRF := hC.2.2.2.2.2
      have hleF := hC.1
      rw [hBB] at hleF
      clear hC hval hM hN hQ hR hle hD2 hgqB hne hne7 hne9 hBB hgRl
      have hRg : w.heap.size ≤ gR := Nat.le_of_eq HGR.out.symm
      have HQF := Lib.hid hQF; have HRF := Lib.hid hRF; have HLF := Lib.hid hleF
      obtain ⟨p0, p1, p2, p3, p4, p5, p6, p7, p8⟩ := fcs_cells hQF
      clear hQF hRF hleF
      by_cases hi : Is (cand l) l
      · have HI := Lib.hid hi
        have hpa := hi.parts
        have HP1 := Lib.hid hpa.1; have HP2 := Lib.hid hpa.2.1; have HP3 := Lib.hid hpa.2.2.1; have HP4 := Lib.hid hpa.2.2.2.1
        have HEN := Lib.hid (fun W => enc_yes (cand l) W hi.1)
        have HEQ := Lib.hid hi.2
        clear hi hpa
        rw [HP1.out, HP2.out, HP3.out, HP4.out]
        go_wp2_with fail
        refine (HEN.out _).mono ?_
        rintro e z1 ⟨rfl, hbz⟩
        have hQ2 := HQF.out.call hbz
        have hR2 := HRF.out.call hbz
        have hle2 := HLF.out.trans (hbz.mono HLF.out.size)
        obtain ⟨t0, t1, t2, t3, t4, t5, t6, t7, t8⟩ := fcs_cells hQ2
        have hf := hR2.free
        have hlt := hR2.lt
        obtain ⟨s0, s1, s2, s3, s4, s5, s6, s7, s8⟩ := fcs_cells hR2
        have HF : Hid (FB (setN z1 gR 0 (fcs (cand l))) gR (cand l)) := Lib.hid (hR2.setN (fcs (cand l)) 0)
        have HLE := Lib.hid (Below.setN hRg (fcs (cand l)) 0 hle2)
        rw [HEQ.out]
        have hss := str_same (l := l) rfl
        clear hQ2 hR2 hle2 hbz HQF HRF HLF p0 p1 p2 p3 p4 p5 p6 p7 p8
        go_wp2_with fail
        obtain ⟨r0, r1, r2, r3, r4, r5, r6, r7, r8⟩ := fcs_cells HF.out
        simp only [setN, fcs, Nat.zero_add, Nat.reduceAdd] at r0 r1 r2 r3 r4 r5 r6 r7 r8
        exact bodyPost_ret (v := .tuple #[fagg (cand l), .int .i64 0]) (by simp [results, Tryz.results13, go_sem, r0, r1, r2, r3, r4, r5, r6, r7, r8]) rfl ((HDec.out _ HLE.out).1 HI.out)
      · have HI := Lib.hid hi
        cases hfr : frB (cand l) with
        | true =>
          have HEN := Lib.hid (fun W => enc_yes (cand l) W hfr)
          have HSS := Lib.hid (str_other (l := encL (cand l)) (m := l) (fun e => hi ⟨hfr, e⟩))
          clear hi hfr
          cases hu0 : unB (bn l 1) with
          | false =>
            clear hu0
            go_wp2_with fail
            refine (HEN.out _).mono ?_
            rintro e z1 ⟨rfl, hbz⟩
            have hR2 := HRF.out.call hbz
            have hle2 := HLF.out.trans (hbz.mono HLF.out.size)
            have hf := hR2.free
            have hlt := hR2.lt
            obtain ⟨s0, s1, s2, s3, s4, s5, s6, s7, s8⟩ := fcs_cells hR2
            have HF : Hid (FB (setN z1 gR 0 (fcs Q.z)) gR Q.z) := Lib.hid (hR2.setN (fcs Q.z) 0)
            have HLE := Lib.hid (Below.setN hRg (fcs Q.z) 0 hle2)
            clear hR2 hle2 hbz HQF HRF HLF p0 p1 p2 p3 p4 p5 p6 p7 p8
            have hss := HSS.out
            go_wp2_with fail
            obtain ⟨r0, r1, r2, r3, r4, r5, r6, r7, r8⟩ := fcs_cells HF.out
            simp only [setN, fcs, Q.z, Nat.zero_add, Nat.reduceAdd] at r0 r1 r2 r3 r4 r5 r6 r7 r8
            exact bodyPost_ret (v := .tuple #[fagg Q.z, .int .i64 10]) (by simp [results, Tryz.results13, go_sem, Q.z, r0, r1, r2, r3, r4, r5, r6, r7, r8]) rfl ((HDec.out _ HLE.out).2 HI.out)
          | true =>
            clear hu0
            cases hu1 : unB (bn l 2) with
            | false =>
              clear hu1
              go_wp2_with fail
              refine (HEN.out _).mono ?_
              rintro e z1 ⟨rfl, hbz⟩
              have hR2 := HRF.out.call hbz
              have hle2 := HLF.out.trans (hbz.mono HLF.out.size)
              have hf := hR2.free
              have hlt := hR2.lt
              obtain ⟨s0, s1, s2, s3, s4, s5, s6, s7, s8⟩ := fcs_cells hR2
              have HF : Hid (FB (setN z1 gR 0 (fcs Q.z)) gR Q.z) := Lib.hid (hR2.setN (fcs Q.z) 0)
              have HLE := Lib.hid (Below.setN hRg (fcs Q.z) 0 hle2)
              clear hR2 hle2 hbz HQF HRF HLF p0 p1 p2 p3 p4 p5 p6 p7 p8
              have hss := HSS.out
              go_wp2_with fail
              obtain ⟨r0, r1, r2, r3, r4, r5, r6, r7, r8⟩ := fcs_cells HF.out
              simp only [setN, fcs, Q.z, Nat.zero_add, Nat.reduceAdd] at r0 r1 r2 r3 r4 r5 r6 r7 r8
              exact bodyPost_ret (v := .tuple #[fagg Q.z, .int .i64 10]) (by simp [results, Tryz.results13, go_sem, Q.z, r0, r1, r2, r3, r4, r5, r6, r7, r8]) rfl ((HDec.out _ HLE.out).2 HI.out)
            | true =>
              clear hu1
              rcases dE_01 (bn l 3) (bn l 4) (bn l 5) with hu2 | hu2
              rotate_left
              · rw [hu2]
                clear hu2
                go_wp2_with fail
                refine (HEN.out _).mono ?_
                rintro e z1 ⟨rfl, hbz⟩
                have hR2 := HRF.out.call hbz
                have hle2 := HLF.out.trans (hbz.mono HLF.out.size)
                have hf := hR2.free
                have hlt := hR2.lt
                obtain ⟨s0, s1, s2, s3, s4, s5, s6, s7, s8⟩ := fcs_cells hR2
                have HF : Hid (FB (setN z1 gR 0 (fcs Q.z)) gR Q.z) := Lib.hid (hR2.setN (fcs Q.z) 0)
                have HLE := Lib.hid (Below.setN hRg (fcs Q.z) 0 hle2)
                clear hR2 hle2 hbz HQF HRF HLF p0 p1 p2 p3 p4 p5 p6 p7 p8
                have hss := HSS.out
                go_wp2_with fail
                obtain ⟨r0, r1, r2, r3, r4, r5, r6, r7, r8⟩ := fcs_cells HF.out
                simp only [setN, fcs, Q.z, Nat.zero_add, Nat.reduceAdd] at r0 r1 r2 r3 r4 r5 r6 r7 r8
                exact bodyPost_ret (v := .tuple #[fagg Q.z, .int .i64 10]) (by simp [results, Tryz.results13, go_sem, Q.z, r0, r1, r2, r3, r4, r5, r6, r7, r8]) rfl ((HDec.out _ HLE.out).2 HI.out)
              · rw [hu2]
                clear hu2
                rcases dE_01 (bn l 7) (bn l 8) (bn l 9) with hu3 | hu3
                rotate_left
                · rw [hu3]
                  clear hu3
                  go_wp2_with fail
                  refine (HEN.out _).mono ?_
                  rintro e z1 ⟨rfl, hbz⟩
                  have hR2 := HRF.out.call hbz
                  have hle2 := HLF.out.trans (hbz.mono HLF.out.size)
                  have hf := hR2.free
                  have hlt := hR2.lt
                  obtain ⟨s0, s1, s2, s3, s4, s5, s6, s7, s8⟩ := fcs_cells hR2
                  have HF : Hid (FB (setN z1 gR 0 (fcs Q.z)) gR Q.z) := Lib.hid (hR2.setN (fcs Q.z) 0)
                  have HLE := Lib.hid (Below.setN hRg (fcs Q.z) 0 hle2)
                  clear hR2 hle2 hbz HQF HRF HLF p0 p1 p2 p3 p4 p5 p6 p7 p8
                  have hss := HSS.out
                  go_wp2_with fail
                  obtain ⟨r0, r1, r2, r3, r4, r5, r6, r7, r8⟩ := fcs_cells HF.out
                  simp only [setN, fcs, Q.z, Nat.zero_add, Nat.reduceAdd] at r0 r1 r2 r3 r4 r5 r6 r7 r8
                  exact bodyPost_ret (v := .tuple #[fagg Q.z, .int .i64 10]) (by simp [results, Tryz.results13, go_sem, Q.z, r0, r1, r2, r3, r4, r5, r6, r7, r8]) rfl ((HDec.out _ HLE.out).2 HI.out)
                · rw [hu3]
                  clear hu3
                  go_wp2_with fail
                  refine (HEN.out _).mono ?_
                  rintro e z1 ⟨rfl, hbz⟩
                  have hR2 := HRF.out.call hbz
                  have hle2 := HLF.out.trans (hbz.mono HLF.out.size)
                  have hf := hR2.free
                  have hlt := hR2.lt
                  obtain ⟨s0, s1, s2, s3, s4, s5, s6, s7, s8⟩ := fcs_cells hR2
                  have HF : Hid (FB (setN z1 gR 0 (fcs Q.z)) gR Q.z) := Lib.hid (hR2.setN (fcs Q.z) 0)
                  have HLE := Lib.hid (Below.setN hRg (fcs Q.z) 0 hle2)
                  clear hR2 hle2 hbz HQF HRF HLF p0 p1 p2 p3 p4 p5 p6 p7 p8
                  have hss := HSS.out
                  go_wp2_with fail
                  obtain ⟨r0, r1, r2, r3, r4, r5, r6, r7, r8⟩ := fcs_cells HF.out
                  simp only [setN, fcs, Q.z, Nat.zero_add, Nat.reduceAdd] at r0 r1 r2 r3 r4 r5 r6 r7 r8
                  exact bodyPost_ret (v := .tuple #[fagg Q.z, .int .i64 10]) (by simp [results, Tryz.results13, go_sem, Q.z, r0, r1, r2, r3, r4, r5, r6, r7, r8]) rfl ((HDec.out _ HLE.out).2 HI.out)
        | false =>
          have HEN := Lib.hid (fun W => enc_no (cand l) W hfr)
          clear hi hfr
          cases hu0 : unB (bn l 1) with
          | false =>
            clear hu0
            go_wp2_with fail
            refine (HEN.out _).mono ?_
            rintro e z1 ⟨rfl, hbz⟩
            have hR2 := HRF.out.call hbz
            have hle2 := HLF.out.trans (hbz.mono HLF.out.size)
            have hf := hR2.free
            have hlt := hR2.lt
            obtain ⟨s0, s1, s2, s3, s4, s5, s6, s7, s8⟩ := fcs_cells hR2
            have HF : Hid (FB (setN z1 gR 0 (fcs Q.z)) gR Q.z) := Lib.hid (hR2.setN (fcs Q.z) 0)
            have HLE := Lib.hid (Below.setN hRg (fcs Q.z) 0 hle2)
            clear hR2 hle2 hbz HQF HRF HLF p0 p1 p2 p3 p4 p5 p6 p7 p8
            go_wp2_with fail
            obtain ⟨r0, r1, r2, r3, r4, r5, r6, r7, r8⟩ := fcs_cells HF.out
            simp only [setN, fcs, Q.z, Nat.zero_add, Nat.reduceAdd] at r0 r1 r2 r3 r4 r5 r6 r7 r8
            exact bodyPost_ret (v := .tuple #[fagg Q.z, .int .i64 10]) (by simp [results, Tryz.results13, go_sem, Q.z, r0, r1, r2, r3, r4, r5, r6, r7, r8]) rfl ((HDec.out _ HLE.out).2 HI.out)
          | true =>
            clear hu0
            cases hu1 : unB (bn l 2) with
            | false =>
              clear hu1
              go_wp2_with fail
              refine (HEN.out _).mono ?_
              rintro e z1 ⟨rfl, hbz⟩
              have hR2 := HRF.out.call hbz
              have hle2 := HLF.out.trans (hbz.mono HLF.out.size)
              have hf := hR2.free
              have hlt := hR2.lt
              obtain ⟨s0, s1, s2, s3, s4, s5, s6, s7, s8⟩ := fcs_cells hR2
              have HF : Hid (FB (setN z1 gR 0 (fcs Q.z)) gR Q.z) := Lib.hid (hR2.setN (fcs Q.z) 0)
              have HLE := Lib.hid (Below.setN hRg (fcs Q.z) 0 hle2)
              clear hR2 hle2 hbz HQF HRF HLF p0 p1 p2 p3 p4 p5 p6 p7 p8
              go_wp2_with fail
              obtain ⟨r0, r1, r2, r3, r4, r5, r6, r7, r8⟩ := fcs_cells HF.out
              simp only [setN, fcs, Q.z, Nat.zero_add, Nat.reduceAdd] at r0 r1 r2 r3 r4 r5 r6 r7 r8
              exact bodyPost_ret (v := .tuple #[fagg Q.z, .int .i64 10]) (by simp [results, Tryz.results13, go_sem, Q.z, r0, r1, r2, r3, r4, r5, r6, r7, r8]) rfl ((HDec.out _ HLE.out).2 HI.out)
            | true =>
              clear hu1
              rcases dE_01 (bn l 3) (bn l 4) (bn l 5) with hu2 | hu2
              rotate_left
              · rw [hu2]
                clear hu2
                go_wp2_with fail
                refine (HEN.out _).mono ?_
                rintro e z1 ⟨rfl, hbz⟩
                have hR2 := HRF.out.call hbz
                have hle2 := HLF.out.trans (hbz.mono HLF.out.size)
                have hf := hR2.free
                have hlt := hR2.lt
                obtain ⟨s0, s1, s2, s3, s4, s5, s6, s7, s8⟩ := fcs_cells hR2
                have HF : Hid (FB (setN z1 gR 0 (fcs Q.z)) gR Q.z) := Lib.hid (hR2.setN (fcs Q.z) 0)
                have HLE := Lib.hid (Below.setN hRg (fcs Q.z) 0 hle2)
                clear hR2 hle2 hbz HQF HRF HLF p0 p1 p2 p3 p4 p5 p6 p7 p8
                go_wp2_with fail
                obtain ⟨r0, r1, r2, r3, r4, r5, r6, r7, r8⟩ := fcs_cells HF.out
                simp only [setN, fcs, Q.z, Nat.zero_add, Nat.reduceAdd] at r0 r1 r2 r3 r4 r5 r6 r7 r8
                exact bodyPost_ret (v := .tuple #[fagg Q.z, .int .i64 10]) (by simp [results, Tryz.results13, go_sem, Q.z, r0, r1, r2, r3, r4, r5, r6, r7, r8]) rfl ((HDec.out _ HLE.out).2 HI.out)
              · rw [hu2]
                clear hu2
                rcases dE_01 (bn l 7) (bn l 8) (bn l 9) with hu3 | hu3
                rotate_left
                · rw [hu3]
                  clear hu3
                  go_wp2_with fail
                  refine (HEN.out _).mono ?_
                  rintro e z1 ⟨rfl, hbz⟩
                  have hR2 := HRF.out.call hbz
                  have hle2 := HLF.out.trans (hbz.mono HLF.out.size)
                  have hf := hR2.free
                  have hlt := hR2.lt
                  obtain ⟨s0, s1, s2, s3, s4, s5, s6, s7, s8⟩ := fcs_cells hR2
                  have HF : Hid (FB (setN z1 gR 0 (fcs Q.z)) gR Q.z) := Lib.hid (hR2.setN (fcs Q.z) 0)
                  have HLE := Lib.hid (Below.setN hRg (fcs Q.z) 0 hle2)
                  clear hR2 hle2 hbz HQF HRF HLF p0 p1 p2 p3 p4 p5 p6 p7 p8
                  go_wp2_with fail
                  obtain ⟨r0, r1, r2, r3, r4, r5, r6, r7, r8⟩ := fcs_cells HF.out
                  simp only [setN, fcs, Q.z, Nat.zero_add, Nat.reduceAdd] at r0 r1 r2 r3 r4 r5 r6 r7 r8
                  exact bodyPost_ret (v := .tuple #[fagg Q.z, .int .i64 10]) (by simp [results, Tryz.results13, go_sem, Q.z, r0, r1, r2, r3, r4, r5, r6, r7, r8]) rfl ((HDec.out _ HLE.out).2 HI.out)
                · rw [hu3]
                  clear hu3
                  go_wp2_with fail
                  refine (HEN.out _).mono ?_
                  rintro e z1 ⟨rfl, hbz⟩
                  have hR2 := HRF.out.call hbz
                  have hle2 := HLF.out.trans (hbz.mono HLF.out.size)
                  have hf := hR2.free
                  have hlt := hR2.lt
                  obtain ⟨s0, s1, s2, s3, s4, s5, s6, s7, s8⟩ := fcs_cells hR2
                  have HF : Hid (FB (setN z1 gR 0 (fcs Q.z)) gR Q.z) := Lib.hid (hR2.setN (fcs Q.z) 0)
                  have HLE := Lib.hid (Below.setN hRg (fcs Q.z) 0 hle2)
                  clear hR2 hle2 hbz HQF HRF HLF p0 p1 p2 p3 p4 p5 p6 p7 p8
                  go_wp2_with fail
                  obtain ⟨r0, r1, r2, r3, r4, r5, r6, r7, r8⟩ := fcs_cells HF.out
                  simp only [setN, fcs, Q.z, Nat.zero_add, Nat.reduceAdd] at r0 r1 r2 r3 r4 r5 r6 r7 r8
                  exact bodyPost_ret (v := .tuple #[fagg Q.z, .int .i64 10]) (by simp [results, Tryz.results13, go_sem, Q.z, r0, r1, r2, r3, r4, r5, r6, r7, r8]) rfl ((HDec.out _ HLE.out).2 HI.out)
end Go.Proofs.YtflmjdjkfognjaaGreat.W10
