/- Chapter 12: the reference walked: Scratch. -/
import Derived.Test.YtpncjadhpnapnaaMq19
namespace Go.Proofs.Ytpncjadhpnapnaa.D12
open Go.RowKit Go.Maps C9
open D13 (RdI ixI is)
set_option linter.unusedVariables false

theorem part_len (l : List Int) (i : Nat) : (part l i).length ≤ l.length := by
  unfold part; rw [List.length_map]; exact List.length_filter_le _ _
theorem heap5 (W : World) (g o0 o1 o2 o3 o4 : Nat) (v0 v1 v2 v3 v4 : Value) (k : Nat) (hk : k ≠ g) : (((((W.setCell ⟨g, o0, none⟩ v0).setCell ⟨g, o1, none⟩ v1).setCell ⟨g, o2, none⟩ v2).setCell ⟨g, o3, none⟩ v3).setCell ⟨g, o4, none⟩ v4).heap[k]? = W.heap[k]? := by
  rw [Below.heap_setCell _ ⟨g, o4, none⟩ _ k hk, Below.heap_setCell _ ⟨g, o3, none⟩ _ k hk, Below.heap_setCell _ ⟨g, o2, none⟩ _ k hk, Below.heap_setCell _ ⟨g, o1, none⟩ _ k hk, Below.heap_setCell _ ⟨g, o0, none⟩ _ k hk]
theorem own_agree2 {w W : World} {base e sz n : Nat} {v : Value} {xs : List Value} (h : w.ownsRow base e sz v n xs) {g t : Nat} {cs : List Value} (hx : Bx w g t cs) (ht : t ≠ e) (hk : ∀ k, base ≤ k → k < w.heap.size → k ≠ g → W.heap[k]? = w.heap[k]?) : W.ownsRow base e sz v n xs := by
  refine ⟨h.1, ?_⟩
  rcases h.2 with h | ⟨q, cap, cur, hv, hg, hh, r⟩
  · exact .inl h
  · refine .inr ⟨q, cap, cur, hv, hg, (hk q hg (Array.getElem?_eq_some_iff.1 hh).1 fun e => ?_).trans hh, r⟩
    subst e
    unfold Bx at hx
    rw [hx] at hh
    simp only [Option.some.injEq, Obj.cells.injEq] at hh
    exact ht hh.2.1
def rscV (b g n k ia ga hz c10 n2 c2 : Nat) (a2 : Option Addr) (L : List Int) (x : Int) (vk : Value) (i : Nat) (v : Value) (W : World) : Prop := match i with
  | 0 => v = .pointer (some ⟨b, 4, none⟩)
  | 1 => v = .slice (some ⟨g, 0, none⟩) n n
  | 2 => v = .int .i64 (ia : Nat)
  | 3 => v = .pointer (some ⟨b, 4, none⟩)
  | 4 => v = .slice (some ⟨g, 0, none⟩) n n
  | 5 => v = .int .i64 (ia : Nat)
  | 6 => v = .pointer (some ⟨g, ia, none⟩)
  | 7 => v = vk
  | 8 => v = .slice (some ⟨ga, 0, none⟩) L.length c10
  | 9 => v = .int .i64 k
  | 10 => v = .pointer (some ⟨ga, k, none⟩)
  | 11 => v = .int .i64 x
  | 12 => v = .int .i64 (x % 2352)
  | 13 => v = .slice (some ⟨hz, 0, none⟩) 1 1
  | 14 => v = .slice a2 n2 c2
  | 15 => v = .pointer (some ⟨g, ia, none⟩)
  | _ => True
def rscVE : Nat → Option Nat
  | 13 => some 0
  | 14 => some 1
  | 16 => some 2
  | _ => none
theorem rscV_keep (b g n k ia ga hz c10 n2 c2 : Nat) (a2 : Option Addr) (L : List Int) (x : Int) (vk : Value) (i r : Nat) (v : Value) (W W' : World) (hk : ∀ k, rscVE i = some k → k < r) (hR : (anyR) r W W') (h : rscV b g n k ia ga hz c10 n2 c2 a2 L x vk i v W) : rscV b g n k ia ga hz c10 n2 c2 a2 L x vk i v W' := by
  unfold rscV at h ⊢
  split at h <;> first | exact h
set_option maxRecDepth 100000 in
set_option maxHeartbeats 4000000 in
theorem rscratch_fit {w : World} {vL vS vD : Value} {M : Med} {P : Nat → Prop} {SS : List RS} (h : RmF P w vL vS vD M SS) (hn : M.n ≤ 4096) (hn1 : 1 ≤ M.n) (hs : M.scr.length ≤ 256) {vl : Value} {l : List Sc} (hc : CameSc w vl l) (hll : l.length ≤ 100000) (hfit : fitA (98 * M.n + 108) l = false) :
    Calls Try.prog 27 #[rmv M vL vS vD, vl] w (RmP (1, M) P w) := by
  have HF := Lib.hid h
  have hre := h.here
  obtain ⟨⟨aL, cL, rfl⟩, ⟨aS, cS, rfl⟩, aD, cD, rfl⟩ := hre.forms
  have HR := Lib.hid hre
  have hl1 := hre.l
  have hl2 := hre.e
  have hl3 := hre.x
  have hSn := hre.n
  obtain ⟨n, hnn⟩ : ∃ n, n = M.n := ⟨_, rfl⟩
  rw [← hnn] at hl1 hSn hn1 hfit hn HR HF ⊢
  have HNN := Lib.hid hnn
  have HL1 := Lib.hid hl1
  have HL2 := Lib.hid hl2
  have HL3 := Lib.hid hl3
  have HSN := Lib.hid hSn
  have hz := zeroRM
  clear hl1 hl2 hl3 hSn hnn hre h
  obtain ⟨w1, hw1⟩ : ∃ w1, w1 = w.alloc (.cells #[.int .i64 M.kind, .int .i64 M.endu, .slice aL n cL, .slice aS M.scr.length cS, .slice aD n cD] 59) := ⟨_, rfl⟩
  obtain ⟨w2, hw2⟩ : ∃ w2, w2 = w1.alloc (.cells #[.int .i64 0, .int .i64 0, .slice none 0 0, .slice none 0 0, .slice none 0 0] 59) := ⟨_, rfl⟩
  have hA1 := (Below.refl w.heap.size w).alloc (Nat.le_refl _) (.cells #[.int .i64 M.kind, .int .i64 M.endu, .slice aL n cL, .slice aS M.scr.length cS, .slice aD n cD] 59)
  rw [← hw1] at hA1
  have hA2 := (Below.refl w1.heap.size w1).alloc (Nat.le_refl _) (.cells #[.int .i64 0, .int .i64 0, .slice none 0 0, .slice none 0 0, .slice none 0 0] 59)
  rw [← hw2] at hA2
  have hB1 : Bx w1 w.heap.size 59 [.int .i64 M.kind, .int .i64 M.endu, .slice aL n cL, .slice aS M.scr.length cS, .slice aD n cD] := by rw [hw1]; exact Bx.new w _ _
  have hB2 : Bx w2 w1.heap.size 59 [.int .i64 0, .int .i64 0, .slice none 0 0, .slice none 0 0, .slice none 0 0] := by rw [hw2]; exact Bx.new w1 _ _
  obtain ⟨b, hb⟩ : ∃ b, b = w.heap.size := ⟨_, rfl⟩
  have hs1 : w1.heap.size = b + 1 := by rw [hw1, hb]; simp
  have hs2 : w2.heap.size = b + 1 + 1 := by rw [hw2]; simp [hs1]
  rw [← hb] at hB1
  rw [hs1] at hB2
  have H1 := Lib.hid (hB1.call hA2)
  have H2 := Lib.hid hB2
  have HA := Lib.hid (hA1.trans (hA2.mono hA1.size))
  have HB := Lib.hid hb
  have HS := Lib.hid hs2
  have HW : Hid (((w.alloc (.cells #[.int .i64 M.kind, .int .i64 M.endu, .slice aL n cL, .slice aS M.scr.length cS, .slice aD n cD] 59)).alloc (.cells #[.int .i64 0, .int .i64 0, .slice none 0 0, .slice none 0 0, .slice none 0 0] 59)) = w2) := Lib.hid (by rw [hw2, hw1])
  clear hw1 hA1 hB1 hw2 hA2 hB2 hs1 hb
  obtain ⟨al, cl, rfl, _⟩ := RdD.form hc.1
  obtain ⟨m, hm⟩ : ∃ m, m = l.length := ⟨_, rfl⟩
  rw [← hm] at hll hc ⊢
  have HC := Lib.hid hc
  have HMM := Lib.hid hm
  have hw1 : IntKind.i64.wrap (98 * (n : Int)) = 98 * (n : Int) := IntWalk.i64_in _ (by omega)
  have hw2 : IntKind.i64.wrap (98 * (n : Int) + 108) = 98 * (n : Int) + 108 := IntWalk.i64_in _ (by omega)
  have hw3 : IntKind.i64.wrap ((M.scr.length : Int) + (m : Int)) = (M.scr.length : Int) + (m : Int) := IntWalk.i64_in _ (by omega)
  have HFIT : Hid (Calls Try.prog 50 #[.int .i64 (98 * (n : Int) + 108), .slice al m cl] w2 (RV (.bool false) w2)) := Lib.hid (by
    have hq := rfits_any (.slice al m cl) l (98 * n + 108) w2 (RdD.keep hc.1 HA.out) hc.2.1 hc.2.2 (by omega)
    rw [show ((98 * n + 108 : Nat) : Int) = 98 * (n : Int) + 108 from by omega, hfit] at hq
    exact hq)
  clear hc hm hfit
  have k0 := H1.out.cell (i := 0) rfl
  have k1 := H1.out.cell (i := 1) rfl
  have k2 := H1.out.cell (i := 2) rfl
  have k3 := H1.out.cell (i := 3) rfl
  have k4 := H1.out.cell (i := 4) rfl
  unfold rmv
  go_enter Try.func27, Try.ntmps27
  go_upto_region 1 with (fail)
  rw [HW.out, ← HB.out]
  go_wp2_with fail
  refine HFIT.out.mono ?_
  rintro e w3 ⟨rfl, hb3⟩
  have H13 := Lib.hid (H1.out.call hb3)
  have H23 := Lib.hid (H2.out.call hb3)
  have HA3 := Lib.hid (HA.out.trans (hb3.mono HA.out.size))
  clear hb3 k0 k1 k2 k3 k4
  have k0 := H13.out.cell (i := 0) rfl
  have k1 := H13.out.cell (i := 1) rfl
  have k2 := H13.out.cell (i := 2) rfl
  have k3 := H13.out.cell (i := 3) rfl
  have k4 := H13.out.cell (i := 4) rfl
  have z0 := H23.out.cell (i := 0) rfl
  have z1 := H23.out.cell (i := 1) rfl
  have z2 := H23.out.cell (i := 2) rfl
  have z3 := H23.out.cell (i := 3) rfl
  have z4 := H23.out.cell (i := 4) rfl
  have zf := H23.out.free
  have hZ := (((((H23.out.set 0 (.int .i64 M.kind)).set 1 (.int .i64 M.endu)).set 2 (.slice aL n cL)).set 3 (.slice aS M.scr.length cS)).set 4 (.slice aD n cD))
  have HZ := Lib.hid hZ
  have HZb := Lib.hid (below5 HA3.out (g := b + 1) (by have := HB.out; omega) 0 1 2 3 4 (.int .i64 M.kind) (.int .i64 M.endu) (.slice aL n cL) (.slice aS M.scr.length cS) (.slice aD n cD))
  have q0 := hZ.cell (i := 0) rfl
  have q1 := hZ.cell (i := 1) rfl
  have q2 := hZ.cell (i := 2) rfl
  have q3 := hZ.cell (i := 3) rfl
  have q4 := hZ.cell (i := 4) rfl
  have HQ0 := Lib.hid q0
  have HQ1 := Lib.hid q1
  have HQ2 := Lib.hid q2
  have HQ3 := Lib.hid q3
  have HQ4 := Lib.hid q4
  clear q0 q1 q2 q3 q4 hZ
  go_wp2_with fail
  refine bodyPost_ret (v := .tuple #[rmv M (.slice aL n cL) (.slice aS M.scr.length cS) (.slice aD n cD), .int .i64 1]) (by simp [rmv, results, Try.results27, go_sem, HQ0.out, HQ1.out, HQ2.out, HQ3.out, HQ4.out]) rfl ?_
  exact ⟨_, _, _, SS, rfl, HF.out.res HZb.out, HZb.out⟩
set_option maxRecDepth 100000 in
set_option maxHeartbeats 4000000 in
theorem rscratch_many {w : World} {vL vS vD : Value} {M : Med} {P : Nat → Prop} {SS : List RS} (h : RmF P w vL vS vD M SS) (hn : M.n ≤ 4096) (hn1 : 1 ≤ M.n) (hs : M.scr.length ≤ 256) {vl : Value} {l : List Sc} (hc : CameSc w vl l) (hll : l.length ≤ 100000) (hfit : fitA (98 * M.n + 108) l = true) (hmany : M.scr.length + l.length > 256) :
    Calls Try.prog 27 #[rmv M vL vS vD, vl] w (RmP (7, M) P w) := by
  have HF := Lib.hid h
  have hre := h.here
  obtain ⟨⟨aL, cL, rfl⟩, ⟨aS, cS, rfl⟩, aD, cD, rfl⟩ := hre.forms
  have HR := Lib.hid hre
  have hl1 := hre.l
  have hl2 := hre.e
  have hl3 := hre.x
  have hSn := hre.n
  obtain ⟨n, hnn⟩ : ∃ n, n = M.n := ⟨_, rfl⟩
  rw [← hnn] at hl1 hSn hn1 hfit hn HR HF ⊢
  have HNN := Lib.hid hnn
  have HL1 := Lib.hid hl1
  have HL2 := Lib.hid hl2
  have HL3 := Lib.hid hl3
  have HSN := Lib.hid hSn
  have hz := zeroRM
  clear hl1 hl2 hl3 hSn hnn hre h
  obtain ⟨w1, hw1⟩ : ∃ w1, w1 = w.alloc (.cells #[.int .i64 M.kind, .int .i64 M.endu, .slice aL n cL, .slice aS M.scr.length cS, .slice aD n cD] 59) := ⟨_, rfl⟩
  obtain ⟨w2, hw2⟩ : ∃ w2, w2 = w1.alloc (.cells #[.int .i64 0, .int .i64 0, .slice none 0 0, .slice none 0 0, .slice none 0 0] 59) := ⟨_, rfl⟩
  have hA1 := (Below.refl w.heap.size w).alloc (Nat.le_refl _) (.cells #[.int .i64 M.kind, .int .i64 M.endu, .slice aL n cL, .slice aS M.scr.length cS, .slice aD n cD] 59)
  rw [← hw1] at hA1
  have hA2 := (Below.refl w1.heap.size w1).alloc (Nat.le_refl _) (.cells #[.int .i64 0, .int .i64 0, .slice none 0 0, .slice none 0 0, .slice none 0 0] 59)
  rw [← hw2] at hA2
  have hB1 : Bx w1 w.heap.size 59 [.int .i64 M.kind, .int .i64 M.endu, .slice aL n cL, .slice aS M.scr.length cS, .slice aD n cD] := by rw [hw1]; exact Bx.new w _ _
  have hB2 : Bx w2 w1.heap.size 59 [.int .i64 0, .int .i64 0, .slice none 0 0, .slice none 0 0, .slice none 0 0] := by rw [hw2]; exact Bx.new w1 _ _
  obtain ⟨b, hb⟩ : ∃ b, b = w.heap.size := ⟨_, rfl⟩
  have hs1 : w1.heap.size = b + 1 := by rw [hw1, hb]; simp
  have hs2 : w2.heap.size = b + 1 + 1 := by rw [hw2]; simp [hs1]
  rw [← hb] at hB1
  rw [hs1] at hB2
  have H1 := Lib.hid (hB1.call hA2)
  have H2 := Lib.hid hB2
  have HA := Lib.hid (hA1.trans (hA2.mono hA1.size))
  have HB := Lib.hid hb
  have HS := Lib.hid hs2
  have HW : Hid (((w.alloc (.cells #[.int .i64 M.kind, .int .i64 M.endu, .slice aL n cL, .slice aS M.scr.length cS, .slice aD n cD] 59)).alloc (.cells #[.int .i64 0, .int .i64 0, .slice none 0 0, .slice none 0 0, .slice none 0 0] 59)) = w2) := Lib.hid (by rw [hw2, hw1])
  clear hw1 hA1 hB1 hw2 hA2 hB2 hs1 hb
  obtain ⟨al, cl, rfl, _⟩ := RdD.form hc.1
  obtain ⟨m, hm⟩ : ∃ m, m = l.length := ⟨_, rfl⟩
  rw [← hm] at hll hc hmany ⊢
  have HC := Lib.hid hc
  have HMM := Lib.hid hm
  have hw1 : IntKind.i64.wrap (98 * (n : Int)) = 98 * (n : Int) := IntWalk.i64_in _ (by omega)
  have hw2 : IntKind.i64.wrap (98 * (n : Int) + 108) = 98 * (n : Int) + 108 := IntWalk.i64_in _ (by omega)
  have hw3 : IntKind.i64.wrap ((M.scr.length : Int) + (m : Int)) = (M.scr.length : Int) + (m : Int) := IntWalk.i64_in _ (by omega)
  have HFIT : Hid (Calls Try.prog 50 #[.int .i64 (98 * (n : Int) + 108), .slice al m cl] w2 (RV (.bool true) w2)) := Lib.hid (by
    have hq := rfits_any (.slice al m cl) l (98 * n + 108) w2 (RdD.keep hc.1 HA.out) hc.2.1 hc.2.2 (by omega)
    rw [show ((98 * n + 108 : Nat) : Int) = 98 * (n : Int) + 108 from by omega, hfit] at hq
    exact hq)
  clear hc hm hfit
  have k0 := H1.out.cell (i := 0) rfl
  have k1 := H1.out.cell (i := 1) rfl
  have k2 := H1.out.cell (i := 2) rfl
  have k3 := H1.out.cell (i := 3) rfl
  have k4 := H1.out.cell (i := 4) rfl
  unfold rmv
  go_enter Try.func27, Try.ntmps27
  go_upto_region 1 with (fail)
  rw [HW.out, ← HB.out]
  go_wp2_with fail
  refine HFIT.out.mono ?_
  rintro e w3 ⟨rfl, hb3⟩
  have H13 := Lib.hid (H1.out.call hb3)
  have H23 := Lib.hid (H2.out.call hb3)
  have HA3 := Lib.hid (HA.out.trans (hb3.mono HA.out.size))
  clear hb3 k0 k1 k2 k3 k4
  have k0 := H13.out.cell (i := 0) rfl
  have k1 := H13.out.cell (i := 1) rfl
  have k2 := H13.out.cell (i := 2) rfl
  have k3 := H13.out.cell (i := 3) rfl
  have k4 := H13.out.cell (i := 4) rfl
  have z0 := H23.out.cell (i := 0) rfl
  have z1 := H23.out.cell (i := 1) rfl
  have z2 := H23.out.cell (i := 2) rfl
  have z3 := H23.out.cell (i := 3) rfl
  have z4 := H23.out.cell (i := 4) rfl
  have zf := H23.out.free
  have hZ := (((((H23.out.set 0 (.int .i64 M.kind)).set 1 (.int .i64 M.endu)).set 2 (.slice aL n cL)).set 3 (.slice aS M.scr.length cS)).set 4 (.slice aD n cD))
  have HZ := Lib.hid hZ
  have HZb := Lib.hid (below5 HA3.out (g := b + 1) (by have := HB.out; omega) 0 1 2 3 4 (.int .i64 M.kind) (.int .i64 M.endu) (.slice aL n cL) (.slice aS M.scr.length cS) (.slice aD n cD))
  have q0 := hZ.cell (i := 0) rfl
  have q1 := hZ.cell (i := 1) rfl
  have q2 := hZ.cell (i := 2) rfl
  have q3 := hZ.cell (i := 3) rfl
  have q4 := hZ.cell (i := 4) rfl
  have HQ0 := Lib.hid q0
  have HQ1 := Lib.hid q1
  have HQ2 := Lib.hid q2
  have HQ3 := Lib.hid q3
  have HQ4 := Lib.hid q4
  clear q0 q1 q2 q3 q4 hZ
  go_wp2_with fail
  refine bodyPost_ret (v := .tuple #[rmv M (.slice aL n cL) (.slice aS M.scr.length cS) (.slice aD n cD), .int .i64 7]) (by simp [rmv, results, Try.results27, go_sem, HQ0.out, HQ1.out, HQ2.out, HQ3.out, HQ4.out]) rfl ?_
  exact ⟨_, _, _, SS, rfl, HF.out.res HZb.out, HZb.out⟩
set_option maxRecDepth 100000 in
set_option maxHeartbeats 4000000 in
theorem rscratch_ok {w : World} {vL vS vD : Value} {M : Med} {P : Nat → Prop} {SS : List RS} (h : RmF P w vL vS vD M SS) (hn : M.n ≤ 4096) (hn1 : 1 ≤ M.n) (hs : M.scr.length ≤ 256) {vl : Value} {l : List Sc} (hc : CameSc w vl l) (hll : l.length ≤ 100000) (hfit : fitA (98 * M.n + 108) l = true) (hmany : M.scr.length + l.length ≤ 256) (hw : ∀ i, i < M.scr.length → Wf (scA M.scr i)) (hfa : fitA (98 * M.n + 108) (M.scr ++ l) = true) :
    Calls Try.prog 27 #[rmv M vL vS vD, vl] w (RmP (0, { M with scr := M.scr ++ l }) P w) := by
  have HF := Lib.hid h
  have hre := h.here
  obtain ⟨⟨aL, cL, rfl⟩, ⟨aS, cS, rfl⟩, aD, cD, rfl⟩ := hre.forms
  have HR := Lib.hid hre
  have hl1 := hre.l
  have hl2 := hre.e
  have hl3 := hre.x
  have hSn := hre.n
  obtain ⟨n, hnn⟩ : ∃ n, n = M.n := ⟨_, rfl⟩
  rw [← hnn] at hl1 hSn hn1 hfit hfa hn HR HF ⊢
  have HNN := Lib.hid hnn
  have HL1 := Lib.hid hl1
  have HL2 := Lib.hid hl2
  have HL3 := Lib.hid hl3
  have HSN := Lib.hid hSn
  have hz := zeroRM
  clear hl1 hl2 hl3 hSn hnn hre h
  obtain ⟨w1, hw1⟩ : ∃ w1, w1 = w.alloc (.cells #[.int .i64 M.kind, .int .i64 M.endu, .slice aL n cL, .slice aS M.scr.length cS, .slice aD n cD] 59) := ⟨_, rfl⟩
  obtain ⟨w2, hw2⟩ : ∃ w2, w2 = w1.alloc (.cells #[.int .i64 0, .int .i64 0, .slice none 0 0, .slice none 0 0, .slice none 0 0] 59) := ⟨_, rfl⟩
  have hA1 := (Below.refl w.heap.size w).alloc (Nat.le_refl _) (.cells #[.int .i64 M.kind, .int .i64 M.endu, .slice aL n cL, .slice aS M.scr.length cS, .slice aD n cD] 59)
  rw [← hw1] at hA1
  have hA2 := (Below.refl w1.heap.size w1).alloc (Nat.le_refl _) (.cells #[.int .i64 0, .int .i64 0, .slice none 0 0, .slice none 0 0, .slice none 0 0] 59)
  rw [← hw2] at hA2
  have hB1 : Bx w1 w.heap.size 59 [.int .i64 M.kind, .int .i64 M.endu, .slice aL n cL, .slice aS M.scr.length cS, .slice aD n cD] := by rw [hw1]; exact Bx.new w _ _
  have hB2 : Bx w2 w1.heap.size 59 [.int .i64 0, .int .i64 0, .slice none 0 0, .slice none 0 0, .slice none 0 0] := by rw [hw2]; exact Bx.new w1 _ _
  obtain ⟨b, hb⟩ : ∃ b, b = w.heap.size := ⟨_, rfl⟩
  have hs1 : w1.heap.size = b + 1 := by rw [hw1, hb]; simp
  have hs2 : w2.heap.size = b + 1 + 1 := by rw [hw2]; simp [hs1]
  rw [← hb] at hB1
  rw [hs1] at hB2
  have H1 := Lib.hid (hB1.call hA2)
  have H2 := Lib.hid hB2
  have HA := Lib.hid (hA1.trans (hA2.mono hA1.size))
  have HB := Lib.hid hb
  have HS := Lib.hid hs2
  have HW : Hid (((w.alloc (.cells #[.int .i64 M.kind, .int .i64 M.endu, .slice aL n cL, .slice aS M.scr.length cS, .slice aD n cD] 59)).alloc (.cells #[.int .i64 0, .int .i64 0, .slice none 0 0, .slice none 0 0, .slice none 0 0] 59)) = w2) := Lib.hid (by rw [hw2, hw1])
  clear hw1 hA1 hB1 hw2 hA2 hB2 hs1 hb
  obtain ⟨al, cl, rfl, _⟩ := RdD.form hc.1
  obtain ⟨m, hm⟩ : ∃ m, m = l.length := ⟨_, rfl⟩
  rw [← hm] at hll hc hmany ⊢
  have HC := Lib.hid hc
  have HMM := Lib.hid hm
  have hw1 : IntKind.i64.wrap (98 * (n : Int)) = 98 * (n : Int) := IntWalk.i64_in _ (by omega)
  have hw2 : IntKind.i64.wrap (98 * (n : Int) + 108) = 98 * (n : Int) + 108 := IntWalk.i64_in _ (by omega)
  have hw3 : IntKind.i64.wrap ((M.scr.length : Int) + (m : Int)) = (M.scr.length : Int) + (m : Int) := IntWalk.i64_in _ (by omega)
  have HFIT : Hid (Calls Try.prog 50 #[.int .i64 (98 * (n : Int) + 108), .slice al m cl] w2 (RV (.bool true) w2)) := Lib.hid (by
    have hq := rfits_any (.slice al m cl) l (98 * n + 108) w2 (RdD.keep hc.1 HA.out) hc.2.1 hc.2.2 (by omega)
    rw [show ((98 * n + 108 : Nat) : Int) = 98 * (n : Int) + 108 from by omega, hfit] at hq
    exact hq)
  clear hc hm hfit
  have hmb : decide ((256 : Int) < (M.scr.length : Int) + (m : Int)) = false := by rw [decide_eq_false_iff_not]; omega
  have HFA := Lib.hid hfa
  have HWF := Lib.hid hw
  clear hfa hw
  have k0 := H1.out.cell (i := 0) rfl
  have k1 := H1.out.cell (i := 1) rfl
  have k2 := H1.out.cell (i := 2) rfl
  have k3 := H1.out.cell (i := 3) rfl
  have k4 := H1.out.cell (i := 4) rfl
  unfold rmv
  go_enter Try.func27, Try.ntmps27
  go_upto_region 1 with (fail)
  rw [HW.out, ← HB.out]
  go_wp2_with fail
  refine HFIT.out.mono ?_
  rintro e w3 ⟨rfl, hb3⟩
  have H13 := Lib.hid (H1.out.call hb3)
  have H23 := Lib.hid (H2.out.call hb3)
  have HA3 := Lib.hid (HA.out.trans (hb3.mono HA.out.size))
  clear hb3 k0 k1 k2 k3 k4
  have k0 := H13.out.cell (i := 0) rfl
  have k1 := H13.out.cell (i := 1) rfl
  have k2 := H13.out.cell (i := 2) rfl
  have k3 := H13.out.cell (i := 3) rfl
  have k4 := H13.out.cell (i := 4) rfl
  have z0 := H23.out.cell (i := 0) rfl
  have z1 := H23.out.cell (i := 1) rfl
  have z2 := H23.out.cell (i := 2) rfl
  have z3 := H23.out.cell (i := 3) rfl
  have z4 := H23.out.cell (i := 4) rfl
  have zf := H23.out.free
  have hs3 : b + 1 + 1 ≤ w3.heap.size := H23.out.lt
  go_upto_region 6 with (fail)
  obtain ⟨g0, hg0⟩ : ∃ g0, g0 = w3.heap.size := ⟨_, rfl⟩
  obtain ⟨w4, hw4⟩ : ∃ w4, w4 = w3.alloc (.cells #[] 36) := ⟨_, rfl⟩
  have hown4 : w4.ownsRow g0 36 2 (.slice (some ⟨g0, 0, none⟩) 0 0) 0 (flD scc []) := by rw [hw4, hg0]; exact World.ownsRow_lit w3 #[] 0 (Nat.le_refl _) (by simp [maxLen]) (by simp)
  have hA4 := (Below.refl w3.heap.size w3).alloc (Nat.le_refl _) (.cells #[] 36)
  rw [← hw4] at hA4
  have H14 := Lib.hid (H13.out.call hA4)
  have H24 := Lib.hid (H23.out.call hA4)
  have HA4 := Lib.hid (HA3.out.trans (hA4.mono HA3.out.size))
  have hgs4 : g0 ≤ w4.heap.size := by rw [hg0]; exact hA4.size
  have HRS4 := RdD.keep HR.out.s HA4.out
  have HW4 := Lib.hid hw4
  rw [← hg0] at hs3
  have HG0 := Lib.hid hg0
  have hsz3 : w3.heap.size = g0 := hg0.symm
  have k43 : (w3.alloc (.cells #[] 36)).cell? ⟨b, 3, none⟩ = some (.slice aS M.scr.length cS) := (H13.out.alloc _).cell (i := 3) rfl
  clear hA4 hw4 hg0
  go_upto_region 7 with (first
    | (at_builtin
       rw [← HW4.out]
       refine wpList_appD rfl _ _ rfl Try.underlying22 Try.infoSc12 rfl (by decide) scc_len scc_one hown4 rfl HRS4 rfl (by unfold maxLen; omega) (by omega) hgs4 ?_
       intro v5 w5 hown5 hgr5
       rw [Nat.zero_add, List.nil_append] at hown5
       have H15 := Lib.hid (Ap.bx_off H14.out hgr5 (by intro e; simp only [Value.ownBlock, Option.some.injEq] at e; omega))
       have H25 := Lib.hid (Ap.bx_off H24.out hgr5 (by intro e; simp only [Value.ownBlock, Option.some.injEq] at e; omega))
       have HA5 := Lib.hid (HA4.out.grown hgr5 HA4.out.size (by intro j hj; simp only [Value.ownBlock, Option.some.injEq] at hj; have := HB.out; omega))
       have hgs5 : g0 ≤ w5.heap.size := Nat.le_trans hgs4 ((Below.refl 0 w4).grown hgr5 (Nat.zero_le _) fun _ _ => Nat.zero_le _).size
       have hrl5 := RdD.keep HC.out.1 HA5.out
       clear hgr5)
    | (at_builtin
       refine wpList_appD rfl _ _ rfl Try.underlying22 Try.infoSc12 rfl (by decide) scc_len scc_one hown5 rfl hrl5 rfl (by unfold maxLen; rw [← HMM.out]; omega) (by rw [← HMM.out]; omega) hgs5 ?_
       intro v6 w6 hown6 hgr6
       rw [← HMM.out] at hown6
       have H16 := Lib.hid (Ap.bx_off H15.out hgr6 (by intro e; have := ownD_block hown5 _ e; omega))
       have H26 := Lib.hid (Ap.bx_off H25.out hgr6 (by intro e; have := ownD_block hown5 _ e; omega))
       have HA6 := Lib.hid (HA5.out.grown hgr6 HA5.out.size (by intro j hj; have := ownD_block hown5 _ hj; have := HB.out; omega))
       have hgs6 : g0 ≤ w6.heap.size := Nat.le_trans hgs5 ((Below.refl 0 w5).grown hgr6 (Nat.zero_le _) fun _ _ => Nat.zero_le _).size
       obtain ⟨a6, c6, rfl⟩ := ownD_form hown6
       have k63 := H16.out.cell (i := 3) rfl
       have k6f := H16.out.free)
    | fail)
  have hX1 := H16.out.set 3 (.slice a6 (M.scr.length + m) c6)
  have hX2 := H26.out.far (p := ⟨b, 3, none⟩) (by simp only; omega) (.slice a6 (M.scr.length + m) c6)
  have hXo := ownD_far hown6 (p := ⟨b, 3, none⟩) (by simp only; omega) (.slice a6 (M.scr.length + m) c6)
  have hXa := HA6.out.setCell (p := ⟨b, 3, none⟩) (by have := HB.out; simp only; omega) (.slice a6 (M.scr.length + m) c6)
  have hXs : g0 ≤ (w6.setCell ⟨b, 3, none⟩ (.slice a6 (M.scr.length + m) c6)).heap.size := by simpa using hgs6
  rw [List.set_cons_succ, List.set_cons_succ, List.set_cons_succ, List.set_cons_zero] at hX1
  clear k63 k6f hgr6 hown6 hown5 hown4 hrl5 HRS4 k43
  generalize w6.setCell ⟨b, 3, none⟩ (.slice a6 (M.scr.length + m) c6) = w7 at *
  have HX1 := Lib.hid hX1
  have HX2 := Lib.hid hX2
  have HXo := Lib.hid hXo
  have HXa := Lib.hid hXa
  obtain ⟨g, hg⟩ : ∃ g, g = w7.heap.size := ⟨_, rfl⟩
  have hg0g : g0 ≤ g := by rw [hg]; exact hXs
  have hgw : w7.heap.size = g := hg.symm
  have HGW := Lib.hid hgw
  have c2 := hX1.cell (i := 2) rfl
  clear hX1 hX2 hXo hXa hXs hg hgw
  obtain ⟨i0, hi0, hz0, hz1, hz2⟩ := info_parts Try.infoIs
  go_upto_region 8 with (first
    | (refine wpList_make_full w7 rfl _ _ _ rfl g 30 i0 _ 1 Try.underlying57 hi0 hz0 hz1 .i64 .i64 _ _ n rfl rfl rfl rfl (by rw [hz2]; omega) (by unfold maxLen; omega) (by rw [HGW.out]; exact Nat.le_refl _) ?_
       intro w8 r1 r2
       have e1 : (Value.slice none 0 0).cells = (iD (.slice none 0 0)).toArray := rfl
       rw [e1, made_flD iD (.slice none 0 0) 1 n (by decide) (fun _ => rfl), HGW.out] at r1
       have hb8 : Below w7.heap.size w7 w8 := (Below.refl _ _).grown r2 (Nat.le_refl _) (fun k hk => by cases hk)
       have H18 := Lib.hid (HX1.out.call hb8)
       have H28 := Lib.hid (HX2.out.call hb8)
       have HO8 := Lib.hid (ownD_keep HXo.out hb8)
       have HA8 := Lib.hid (HXa.out.trans (hb8.mono HXa.out.size))
       have HG8 := Lib.hid (Bx.ofOwn r1)
       have k84 := H18.out.cell (i := 4) rfl
       have k8f := H18.out.free
       rw [HGW.out]
       clear r1 r2 hb8 e1)
    | fail)
  have hX1 := H18.out.set 4 (.slice (some ⟨g, 0, none⟩) n n)
  have hX2 := H28.out.far (p := ⟨b, 4, none⟩) (by simp only; omega) (.slice (some ⟨g, 0, none⟩) n n)
  have hX3 := HG8.out.far (p := ⟨b, 4, none⟩) (by simp only; omega) (.slice (some ⟨g, 0, none⟩) n n)
  have hXo := ownD_far HO8.out (p := ⟨b, 4, none⟩) (by simp only; omega) (.slice (some ⟨g, 0, none⟩) n n)
  have hXa := HA8.out.setCell (p := ⟨b, 4, none⟩) (by have := HB.out; simp only; omega) (.slice (some ⟨g, 0, none⟩) n n)
  rw [List.set_cons_succ, List.set_cons_succ, List.set_cons_succ, List.set_cons_succ, List.set_cons_zero] at hX1
  clear k84 k8f c2
  generalize w8.setCell ⟨b, 4, none⟩ (.slice (some ⟨g, 0, none⟩) n n) = w9 at *
  have HY1 := Lib.hid hX1
  have HY2 := Lib.hid hX2
  have HY3 := Lib.hid hX3
  have HYo := Lib.hid hXo
  have HYa := Lib.hid hXa
  have k93 := hX1.cell (i := 3) rfl
  clear hX1 hX2 hX3 hXo hXa
  have hlg : g < w9.heap.size := HY3.out.lt
  have HLOST : Hid (Calls Try.prog 51 #[.int .i64 (98 * (n : Int)), .slice a6 (M.scr.length + m) c6] w9 (LostP (lostL n (M.scr ++ l), 0) w9)) := Lib.hid (by
    have hcs : CameSc w9 (.slice a6 (M.scr.length + m) c6) (M.scr ++ l) := ⟨RdD.ofOwn scc_len (by rw [List.length_append, ← HMM.out]; exact HYo.out), fun i hi => by
      rw [List.length_append] at hi
      unfold scA atD
      by_cases h : i < M.scr.length
      · have := HWF.out i h; unfold scA atD at this; rwa [List.getElem?_append_left h]
      · have := HC.out.2.1 (i - M.scr.length) (by omega); unfold scA atD at this; rwa [List.getElem?_append_right (by omega)], by rw [List.length_append]; have := HMM.out; omega⟩
    have hq := rlost_any (98 * (n : Int)) (.slice a6 (M.scr.length + m) c6) (M.scr ++ l) w9 hcs
    have e : lostR (98 * (n : Int)) (M.scr ++ l) = (lostL n (M.scr ++ l), 0) := by
      unfold lostR
      rw [if_neg (by omega), show (98 * (n : Int)).toNat = 98 * n from by omega, HFA.out]
      rfl
    rwa [e] at hq)
  have HPL := Lib.hid (part_lost n (M.scr ++ l))
  have HBD := Lib.hid (lostN_bd (M.scr ++ l) (98 * n))
  have HLS := Lib.hid (lostN_sorted (M.scr ++ l) (98 * n))
  rw [show lostN (M.scr ++ l) (98 * n) = lostL n (M.scr ++ l) from rfl] at HBD HLS
  obtain ⟨L, hL⟩ : ∃ L, lostL n (M.scr ++ l) = L := ⟨_, rfl⟩
  rw [hL] at HLOST HBD HLS
  have HPL2 : Hid (∀ i, part L i = lostS n (M.scr ++ l) i) := Lib.hid fun i => by rw [← hL]; exact HPL.out i
  have HLE : Hid (lostN (M.scr ++ l) (98 * n) = L) := Lib.hid hL
  clear hL HPL
  have HLN : Hid (L.length ≤ 20000000) := Lib.hid (by have := lostN_length (M.scr ++ l) (98 * n); rw [show lostN (M.scr ++ l) (98 * n) = L from HLE.out] at this; omega)
  go_upto_region 9 with (fail)
  refine HLOST.out.mono ?_
  rintro e w10 ⟨v10, rfl, ho10, hb10⟩
  obtain ⟨a10, c10, rfl⟩ := ownD_form ho10
  have HT1 := Lib.hid (HY1.out.call hb10)
  have HT2 := Lib.hid (HY2.out.call hb10)
  have HTo := Lib.hid (ownD_keep HYo.out hb10)
  have HTa := Lib.hid (HYa.out.trans (hb10.mono HYa.out.size))
  have HG0' : Hid (GrR w10.heap.size g (List.replicate n vnil) (fun _ => []) w10) := Lib.hid (GrR.start n (by
    have hx := HY3.out.call hb10
    have e2 : flD iD (List.replicate n (Value.slice none 0 0)) = List.replicate n vnil := by
      rw [show (List.replicate n vnil) = (List.replicate n vnil).flatMap fun x => [x] from by simp]
      rfl
    rwa [e2] at hx) (by have := hb10.size; omega) (Nat.le_refl _))
  have HO10 := Lib.hid ho10
  obtain ⟨B, hB⟩ : ∃ B, B = w10.heap.size := ⟨_, rfl⟩
  have hgB : g < B := by rw [hB]; have := hb10.size; omega
  obtain ⟨b9, hb9⟩ : ∃ b9, b9 = w9.heap.size := ⟨_, rfl⟩
  rw [← hB] at HG0'
  rw [← hb9] at HO10 hlg
  have HBB := Lib.hid hB
  have HT1g := Lib.hid (HY3.out.call hb10)
  clear ho10 hb10 hB hb9 k93
  go_wp2_with fail
  go_loopw [9] (fun vi wr => ∃ (k : Nat) (vals : List Value), k ≤ L.length ∧ vi = .int .i64 k ∧ vals.length = n ∧ GrR B g vals (part (L.take k)) wr ∧ Lo B g w10 wr) (fun vi _ => L.length - (RowKit.intOf vi).toNat)
  case atStart => exact ⟨0, List.replicate n vnil, by omega, by simp, by simp, by rw [List.take_zero]; exact HG0'.out, Lo.refl _ _ _⟩
  case round =>
    obtain ⟨k, vals, hk, rfl, hvn, hgr, hlo⟩ := hrel
    have HGR := Lib.hid hgr
    have HVN2 := Lib.hid hvn
    have HLO := Lib.hid hlo
    have hLn := HLN.out
    have HBD1 := HBD.out
    have hbb : b < B := by rw [HBB.out]; exact HT1.out.lt
    have HX1r := Lib.hid (hlo.bx hbb (by omega) HT1.out)
    have x4 := HX1r.out.cell (i := 4) rfl
    clear hgr hlo
    by_cases hlt : k < L.length
    · have hoW := HLO.out.own (by rw [HBB.out]; exact Nat.le_refl _) hlg HO10.out
      obtain ⟨ga, ca, hva, hga1, hga2⟩ := ownD_addr hoW (by omega)
      simp only [Value.slice.injEq] at hva
      obtain ⟨hva, _, hca⟩ := hva
      subst hva
      subst hca
      have hgag : g < ga := by have := (HO10.out.lt ga (by simp [Value.ownBlock])).1; omega
      have hgaB : ga < B := by have := (HO10.out.lt ga (by simp [Value.ownBlock])).2; rw [HBB.out]; exact this
      have hcl : wr.cell? ⟨ga, k, none⟩ = some (.int .i64 (ixI L k)) := by
        have := hoW.cells (g := ga) rfl k _ (D13.is_get hlt)
        rwa [Addr.add_lit, Nat.zero_add] at this
      have hxb := HBD1 _ (D13.ixI_mem hlt)
      have hix := fun w' => run_idxS Try.underlying30 Try.sizeInt9 (cap := c10) (n := L.length) (k := k) (b := ga) (off := 0) rfl hlt _ rfl w'
      simp only [Nat.mul_one, Nat.zero_add] at hix
      have HTK : Hid (L.take (k + 1) = L.take k ++ [ixI L k]) := Lib.hid (by rw [List.take_succ_eq_append_getElem hlt, ← D13.ixI_get hlt])
      generalize ixI L k = x at *
      obtain ⟨ia, hi⟩ : ∃ i : Nat, x / 2352 = (i : Int) := ⟨(x / 2352).toNat, by omega⟩
      have hia : ia < n := by omega
      have HI := Lib.hid hi
      clear hoW hga1 hga2 HBD1
      go_upto_region 13 with (fail)
      rw [hi]
      have hil : ia < vals.length := by omega
      have HVN := Lib.hid hvn
      clear hvn hi
      have hvx : wr.cell? ⟨g, ia, none⟩ = some (atD vnil vals ia) := HGR.out.box.cell (by simp [atD, hil])
      have hgx := HGR.out.box.free ia
      obtain ⟨vk, hvk⟩ : ∃ vk, vk = atD vnil vals ia := ⟨_, rfl⟩
      obtain ⟨hz, hhz⟩ : ∃ hz, hz = wr.heap.size := ⟨_, rfl⟩
      obtain ⟨wa, hwa⟩ : ∃ wa, wa = wr.drew.alloc (.cells #[.int .i64 (x % 2352)] 3) := ⟨_, rfl⟩
      have hb0 : Below wr.heap.size wr wa := by rw [hwa]; exact ((Below.refl wr.heap.size wr).drew).alloc (Nat.le_refl _) _
      have hga := HGR.out.keep hb0
      have hza : Bx wa hz 3 [.int .i64 (x % 2352)] := by rw [hwa, hhz]; exact Bx.new wr.drew _ _
      have hpl : (part (L.take k) ia).length ≤ 20000000 := by have := part_len (L.take k) ia; rw [List.length_take] at this; omega
      obtain ⟨j0, hj0, hq0, hq1, hq2⟩ := info_parts Try.infoInt9
      obtain ⟨v2, w2, r1, r2, r3, r4⟩ := Ap.run_apx (P := Try.prog) (t := 30) (ty := 30) Try.underlying30 hj0 hq0 hq1 hq2 rfl (by decide) (hga.row ia hil) (a := ⟨hz, 0, none⟩) (m := 1) (c := 1) (news := is [x % 2352]) (by decide) rfl (fun j u hu => by
        cases j with
        | zero =>
          simp only [is, List.map_cons, List.getElem?_cons_zero, Option.some.injEq] at hu
          subst hu
          exact hza.cell rfl
        | succ j => simp [is] at hu) (D13.is_one _) (by unfold maxLen; have := hpl; omega) (by have := hpl; omega) hga.sz
      rw [← hvk] at r1 r3 r4 hvx
      have hgs := hga.append hil r2 (by rw [← hvk]; exact r3) (by rw [← hvk]; exact r4)
      obtain ⟨a2, c2', hv2⟩ := ownD_form r2
      obtain ⟨w3, hw3⟩ : ∃ w3, w3 = w2.setCell ⟨g, ia, none⟩ v2 := ⟨_, rfl⟩
      have hg3 := hgs.store hil
      rw [← hw3] at hg3
      have hl0 : Lo B g wr wa := Lo.of HGR.out.sz (by omega) hb0
      have hl2 : Lo B g wa w2 := Lo.grown r3 hga.sz hgB (fun c hc => by rw [hvk] at hc; exact hga.ge hil c hc)
      have hl3 : Lo B g w2 w3 := by rw [hw3]; exact Lo.set B g ia w2 v2
      have hl02 := hl0.trans hl2
      have hl03 := hl02.trans hl3
      have HCH : Hid (∀ r W, ChainW wr.drew wa w2 w3 r W → Bx W b 59 [.int .i64 M.kind, .int .i64 M.endu, .slice aL n cL, .slice a6 (M.scr.length + m) c6, .slice (some ⟨g, 0, none⟩) n n] ∧ W.cell? ⟨ga, k, none⟩ = some (.int .i64 x) ∧ (r ≤ 2 → W.cell? ⟨g, ia, none⟩ = some vk) ∧ (r ≤ 2 → W.frozen? ⟨g, ia, none⟩ = false)) := Lib.hid fun r W hc => by
        have hcell : ∀ W', Lo B g wr W' → W'.cell? ⟨ga, k, none⟩ = some (.int .i64 x) := fun W' hl => by
          have := hl.eq ga hgaB (by omega)
          unfold World.cell? at hcl ⊢
          rw [this]; exact hcl
        have hbx : ∀ W', Lo B g wr W' → Bx W' b 59 [.int .i64 M.kind, .int .i64 M.endu, .slice aL n cL, .slice a6 (M.scr.length + m) c6, .slice (some ⟨g, 0, none⟩) n n] := fun W' hl => hl.bx hbb (by omega) HX1r.out
        have hat : vals[ia]? = some vk := by rw [hvk]; simp [atD, hil]
        unfold ChainW at hc
        rcases r with _ | _ | _ | r <;> subst hc
        · exact ⟨HX1r.out, hcl, fun _ => hvx, fun _ => hgx⟩
        · exact ⟨hbx _ hl0, hcell _ hl0, fun _ => hga.box.cell hat, fun _ => hga.box.free ia⟩
        · exact ⟨hbx _ hl02, hcell _ hl02, fun _ => hgs.box.cell hat, fun _ => hgs.box.free ia⟩
        · exact ⟨hbx _ hl03, hcell _ hl03, fun h => by omega, fun h => by omega⟩
      have hixg := fun w' => run_idxS Try.underlying57 (by kernel_rfl : (Try.prog.info? 30).map (·.size) = some 1) (a := some ⟨g, 0, none⟩) (n := n) (cap := n) (k := ia) (b := g) (off := 0) rfl hia (ia : Int) rfl w'
      simp only [Nat.mul_one, Nat.zero_add] at hixg
      have HR1 := Lib.hid r1
      have HWA := Lib.hid hwa
      have HW3 := Lib.hid hw3
      have HG3 := Lib.hid hg3
      have HL3 := Lib.hid hl03
      have HHZ := Lib.hid hhz
      have HHS := Lib.hid hgs
      have HVK := Lib.hid hvk
      have HV2 := Lib.hid hv2
      subst hv2
      clear r1 r2 r3 r4 hwa hw3 hg3 hl0 hl2 hl3 hl02 hl03 hhz hgs hvk hga hza hb0 hvx hgx hj0 hq0 hq1 hq2 HX1r x4 hcl hix
      refine wp_region_seq (by kernel_rfl) (anyR) (ChainW wr.drew wa w2 w3) (rscV b g n k ia ga hz c10 ((part (L.take k) ia).length + 1) c2' a2 L x vk) (fun _ => false) rscVE 3 (by kernel_rfl) (by kernel_rfl) (.inl (by kernel_rfl)) (rscV_keep b g n k ia ga hz c10 ((part (L.take k) ia).length + 1) c2' a2 L x vk) (rfl) ⟨?_, ?_, ?_, ?_, ?_, ?_, ?_, ?_, ?_, ?_, ?_, ?_, ?_, ?_, ?_, ?_, ?_, trivial⟩ ?_
      · intro r a W hc hsz hold hdep hnot hlo hhi hrk
        have o2 : a.tmps.getD 2 undef = .pointer (some ⟨b, 0, none⟩) := hold 2 (by kernel_rfl)
        clear hsz hold hdep hnot hlo hhi hrk
        refine stepR_do rfl (wanted_none rfl) ?_
        refine stepS_val (v := .pointer (some ⟨b, 4, none⟩)) (anyR_mk _ _ _) hc rfl fun K hK => ?_
        go_simp
        exact hK
      · intro r a W hc hsz hold hdep hnot hlo hhi hrk
        have d0 : a.tmps.getD 59 undef = .pointer (some ⟨b, 4, none⟩) := hdep 0 (by kernel_rfl) rfl _ rfl
        have q4 := (HCH.out r W hc).1.cell (i := 4) rfl
        clear hsz hold hdep hnot hlo hhi hrk
        refine stepR_do rfl (wanted_none rfl) ?_
        refine stepS_val (v := .slice (some ⟨g, 0, none⟩) n n) (anyR_mk _ _ _) hc rfl fun K hK => ?_
        go_simp
        exact hK
      · intro r a W hc hsz hold hdep hnot hlo hhi hrk
        have o10 : a.tmps.getD 10 undef = .int .i64 (ia : Nat) := hold 10 (by kernel_rfl)
        clear hsz hold hdep hnot hlo hhi hrk
        refine stepR_do rfl (wanted_none rfl) ?_
        refine stepS_val (v := .int .i64 (ia : Nat)) (anyR_mk _ _ _) hc rfl fun K hK => ?_
        go_simp
        exact hK
      · intro r a W hc hsz hold hdep hnot hlo hhi hrk
        have o2 : a.tmps.getD 2 undef = .pointer (some ⟨b, 0, none⟩) := hold 2 (by kernel_rfl)
        clear hsz hold hdep hnot hlo hhi hrk
        refine stepR_do rfl (wanted_none rfl) ?_
        refine stepS_val (v := .pointer (some ⟨b, 4, none⟩)) (anyR_mk _ _ _) hc rfl fun K hK => ?_
        go_simp
        exact hK
      · intro r a W hc hsz hold hdep hnot hlo hhi hrk
        have d3 : a.tmps.getD 62 undef = .pointer (some ⟨b, 4, none⟩) := hdep 3 (by kernel_rfl) rfl _ rfl
        have q4 := (HCH.out r W hc).1.cell (i := 4) rfl
        clear hsz hold hdep hnot hlo hhi hrk
        refine stepR_do rfl (wanted_none rfl) ?_
        refine stepS_val (v := .slice (some ⟨g, 0, none⟩) n n) (anyR_mk _ _ _) hc rfl fun K hK => ?_
        go_simp
        exact hK
      · intro r a W hc hsz hold hdep hnot hlo hhi hrk
        have o10 : a.tmps.getD 10 undef = .int .i64 (ia : Nat) := hold 10 (by kernel_rfl)
        clear hsz hold hdep hnot hlo hhi hrk
        refine stepR_do rfl (wanted_none rfl) ?_
        refine stepS_val (v := .int .i64 (ia : Nat)) (anyR_mk _ _ _) hc rfl fun K hK => ?_
        go_simp
        exact hK
      · intro r a W hc hsz hold hdep hnot hlo hhi hrk
        have d4 : a.tmps.getD 63 undef = .slice (some ⟨g, 0, none⟩) n n := hdep 4 (by kernel_rfl) rfl _ rfl
        have d5 : a.tmps.getD 64 undef = .int .i64 (ia : Nat) := hdep 5 (by kernel_rfl) rfl _ rfl
        clear hsz hold hdep hnot hlo hhi hrk
        refine stepR_do rfl (wanted_none rfl) ?_
        refine stepS_val (v := .pointer (some ⟨g, ia, none⟩)) (anyR_mk _ _ _) hc rfl fun K hK => ?_
        go_simp
        exact hK
      · intro r a W hc hsz hold hdep hnot hlo hhi hrk
        have d6 : a.tmps.getD 65 undef = .pointer (some ⟨g, ia, none⟩) := hdep 6 (by kernel_rfl) rfl _ rfl
        have hr2 := hhi 16 2 rfl (by kernel_rfl)
        have q5 := (HCH.out r W hc).2.2.1 (by omega)
        clear hsz hold hdep hnot hlo hhi hrk
        refine stepR_do rfl (wanted_none rfl) ?_
        refine stepS_val (v := vk) (anyR_mk _ _ _) hc rfl fun K hK => ?_
        go_simp
        exact hK
      · intro r a W hc hsz hold hdep hnot hlo hhi hrk
        have o7 : a.tmps.getD 7 undef = .slice (some ⟨ga, 0, none⟩) L.length c10 := hold 7 (by kernel_rfl)
        clear hsz hold hdep hnot hlo hhi hrk
        refine stepR_do rfl (wanted_none rfl) ?_
        refine stepS_val (v := .slice (some ⟨ga, 0, none⟩) L.length c10) (anyR_mk _ _ _) hc rfl fun K hK => ?_
        go_simp
        exact hK
      · intro r a W hc hsz hold hdep hnot hlo hhi hrk
        have o9 : a.tmps.getD 9 undef = .int .i64 k := hold 9 (by kernel_rfl)
        clear hsz hold hdep hnot hlo hhi hrk
        refine stepR_do rfl (wanted_none rfl) ?_
        refine stepS_val (v := .int .i64 k) (anyR_mk _ _ _) hc rfl fun K hK => ?_
        go_simp
        exact hK
      · intro r a W hc hsz hold hdep hnot hlo hhi hrk
        have d8 : a.tmps.getD 67 undef = .slice (some ⟨ga, 0, none⟩) L.length c10 := hdep 8 (by kernel_rfl) rfl _ rfl
        have d9 : a.tmps.getD 68 undef = .int .i64 k := hdep 9 (by kernel_rfl) rfl _ rfl
        have hix := fun w' => run_idxS Try.underlying30 Try.sizeInt9 (a := some ⟨ga, 0, none⟩) (cap := c10) (n := L.length) (k := k) (b := ga) (off := 0) rfl hlt (k : Int) rfl w'
        simp only [Nat.mul_one, Nat.zero_add] at hix
        clear hsz hold hdep hnot hlo hhi hrk
        refine stepR_do rfl (wanted_none rfl) ?_
        refine stepS_val (v := .pointer (some ⟨ga, k, none⟩)) (anyR_mk _ _ _) hc rfl fun K hK => ?_
        go_simp
        exact hK
      · intro r a W hc hsz hold hdep hnot hlo hhi hrk
        have d10 : a.tmps.getD 69 undef = .pointer (some ⟨ga, k, none⟩) := hdep 10 (by kernel_rfl) rfl _ rfl
        have q6 := (HCH.out r W hc).2.1
        clear hsz hold hdep hnot hlo hhi hrk
        refine stepR_do rfl (wanted_none rfl) ?_
        refine stepS_val (v := .int .i64 x) (anyR_mk _ _ _) hc rfl fun K hK => ?_
        go_simp
        exact hK
      · intro r a W hc hsz hold hdep hnot hlo hhi hrk
        have d11 : a.tmps.getD 70 undef = .int .i64 x := hdep 11 (by kernel_rfl) rfl _ rfl
        clear hsz hold hdep hnot hlo hhi hrk
        refine stepR_do rfl (wanted_none rfl) ?_
        refine stepS_val (v := .int .i64 (x % 2352)) (anyR_mk _ _ _) hc rfl fun K hK => ?_
        go_simp
        rw [Int.tmod_eq_emod_of_nonneg hxb.1]
        exact hK
      · intro r a W hc hsz hold hdep hnot hlo hhi hrk
        have hr := hrk 0 rfl
        subst hr
        have d12 : a.tmps.getD 71 undef = .int .i64 (x % 2352) := hdep 12 (by kernel_rfl) rfl _ rfl
        have e12 : a.tmps[71]?.getD undef = .int .i64 (x % 2352) := by rw [← Array.getD_eq_getD_getElem?]; exact d12
        clear hsz hold hdep hnot hlo hhi hrk
        refine stepR_do rfl (wanted_none rfl) ?_
        refine stepS_new (v := .slice (some ⟨hz, 0, none⟩) 1 1) (w' := wa) (anyR_mk _ _ _) (show ChainW _ _ _ _ 1 _ from rfl) rfl fun K hK => ?_
        obtain rfl : W = wr.drew := hc
        rw [HWA.out, HHZ.out] at hK
        go_simp
        exact hK
      · intro r a W hc hsz hold hdep hnot hlo hhi hrk
        have hr := hrk 1 rfl
        subst hr
        have d7 : a.tmps.getD 66 undef = vk := hdep 7 (by kernel_rfl) rfl _ rfl
        have e7 : a.tmps[66]?.getD undef = vk := by rw [← Array.getD_eq_getD_getElem?]; exact d7
        have d13 : a.tmps.getD 72 undef = .slice (some ⟨hz, 0, none⟩) 1 1 := hdep 13 (by kernel_rfl) rfl _ rfl
        have e13 : a.tmps[72]?.getD undef = .slice (some ⟨hz, 0, none⟩) 1 1 := by rw [← Array.getD_eq_getD_getElem?]; exact d13
        clear hsz hold hdep hnot hlo hhi hrk
        refine stepR_do rfl (wanted_none rfl) ?_
        obtain rfl : W = _ := hc
        have hA := HR1.out
        have v66 : a.eval (.tmp 66) = vk := d7
        have v72 : a.eval (.tmp 72) = .slice (some ⟨hz, 0, none⟩) 1 1 := d13
        refine stepS_new (v := .slice a2 ((part (L.take k) ia).length + 1) c2') (w' := w2) (anyR_mk _ _ _) (show ChainW _ _ _ _ 2 _ from rfl) rfl fun K hK => ?_
        unfold Oper.wp execOp
        simp only [resolve, invoke, builtin, Sem.run_bind, Sem.run_pure, Result.andThen_ok, List.map_toArray, List.map_cons, List.map_nil, v66, v72, hA]
        exact hK
      · intro r a W hc hsz hold hdep hnot hlo hhi hrk
        have d1 : a.tmps.getD 60 undef = .slice (some ⟨g, 0, none⟩) n n := hdep 1 (by kernel_rfl) rfl _ rfl
        have d2 : a.tmps.getD 61 undef = .int .i64 (ia : Nat) := hdep 2 (by kernel_rfl) rfl _ rfl
        clear hsz hold hdep hnot hlo hhi hrk
        refine stepR_do rfl (wanted_none rfl) ?_
        refine stepS_val (v := .pointer (some ⟨g, ia, none⟩)) (anyR_mk _ _ _) hc rfl fun K hK => ?_
        go_simp
        exact hK
      · intro r a W hc hsz hold hdep hnot hlo hhi hrk
        have hr := hrk 2 rfl
        subst hr
        have d15 : a.tmps.getD 74 undef = .pointer (some ⟨g, ia, none⟩) := hdep 15 (by kernel_rfl) rfl _ rfl
        have d14 : a.tmps.getD 73 undef = .slice a2 ((part (L.take k) ia).length + 1) c2' := hdep 14 (by kernel_rfl) rfl _ rfl
        clear hsz hold hdep hnot hlo hhi hrk
        refine stepR_do rfl (wanted_none rfl) ?_
        have q7 := (HCH.out 2 W hc).2.2
        have q8 := q7.1 (by omega)
        have q9 := q7.2 (by omega)
        obtain rfl : W = _ := hc
        refine stepS_new (v := undef) (w' := w3) (anyR_mk _ _ _) (show ChainW _ _ _ _ 3 _ from rfl) trivial fun K hK => ?_
        rw [HW3.out] at hK
        go_simp
        exact hK
      · intro a W hC hd hsz hold hval
        have d0 : a.tmps.getD 0 undef = .agg #[.int .i64 ↑M.kind, .int .i64 ↑M.endu, .slice aL n cL, .slice aS M.scr.length cS, .slice aD n cD] := hold 0 (by kernel_rfl)
        have d1 : a.tmps.getD 1 undef = .slice al m cl := hold 1 (by kernel_rfl)
        have d2 : a.tmps.getD 2 undef = .pointer (some ⟨b, 0, none⟩) := hold 2 (by kernel_rfl)
        have d3 : a.tmps.getD 3 undef = undef := hold 3 (by kernel_rfl)
        have d4 : a.tmps.getD 4 undef = .pointer (some ⟨b + 1, 0, none⟩) := hold 4 (by kernel_rfl)
        have d5 : a.tmps.getD 5 undef = .int .i64 0 := hold 5 (by kernel_rfl)
        have d6 : a.tmps.getD 6 undef = .int .i64 (98 * ↑n) := hold 6 (by kernel_rfl)
        have d7 : a.tmps.getD 7 undef = .slice (some ⟨ga, 0, none⟩) L.length c10 := hold 7 (by kernel_rfl)
        have d8 : a.tmps.getD 8 undef = .int .i64 0 := hold 8 (by kernel_rfl)
        have d9 : a.tmps.getD 9 undef = .int .i64 ↑k := hold 9 (by kernel_rfl)
        have d10 : a.tmps.getD 10 undef = .int .i64 ↑ia := hold 10 (by kernel_rfl)
        have d11 : a.tmps.getD 11 undef = .pointer (some ⟨b, 2, none⟩) := hold 11 (by kernel_rfl)
        have d12 : a.tmps.getD 12 undef = .slice aL n cL := hold 12 (by kernel_rfl)
        have d13 : a.tmps.getD 13 undef = .int .i64 ↑n := hold 13 (by kernel_rfl)
        have d14 : a.tmps.getD 14 undef = .int .i64 (98 * ↑n) := hold 14 (by kernel_rfl)
        have d15 : a.tmps.getD 15 undef = .int .i64 (98 * ↑n) := hold 15 (by kernel_rfl)
        have d16 : a.tmps.getD 16 undef = .int .i64 (98 * ↑n + 108) := hold 16 (by kernel_rfl)
        have d17 : a.tmps.getD 17 undef = .slice al m cl := hold 17 (by kernel_rfl)
        have d18 : a.tmps.getD 18 undef = .bool true := hold 18 (by kernel_rfl)
        have d19 : a.tmps.getD 19 undef = .bool false := hold 19 (by kernel_rfl)
        have d20 : a.tmps.getD 20 undef = undef := hold 20 (by kernel_rfl)
        have d21 : a.tmps.getD 21 undef = .pointer (some ⟨b, 3, none⟩) := hold 21 (by kernel_rfl)
        have d22 : a.tmps.getD 22 undef = .slice aS M.scr.length cS := hold 22 (by kernel_rfl)
        have d23 : a.tmps.getD 23 undef = .int .i64 ↑M.scr.length := hold 23 (by kernel_rfl)
        have d24 : a.tmps.getD 24 undef = .slice al m cl := hold 24 (by kernel_rfl)
        have d25 : a.tmps.getD 25 undef = .int .i64 ↑m := hold 25 (by kernel_rfl)
        have d26 : a.tmps.getD 26 undef = .int .i64 (↑M.scr.length + ↑m) := hold 26 (by kernel_rfl)
        have d27 : a.tmps.getD 27 undef = .bool false := hold 27 (by kernel_rfl)
        have d28 : a.tmps.getD 28 undef = undef := hold 28 (by kernel_rfl)
        have d29 : a.tmps.getD 29 undef = .slice (some ⟨g0, 0, none⟩) 0 0 := hold 29 (by kernel_rfl)
        have d30 : a.tmps.getD 30 undef = .pointer (some ⟨b, 3, none⟩) := hold 30 (by kernel_rfl)
        have d31 : a.tmps.getD 31 undef = .slice aS M.scr.length cS := hold 31 (by kernel_rfl)
        have d32 : a.tmps.getD 32 undef = v5 := hold 32 (by kernel_rfl)
        have d33 : a.tmps.getD 33 undef = .slice al m cl := hold 33 (by kernel_rfl)
        have d34 : a.tmps.getD 34 undef = .slice a6 (M.scr.length + m) c6 := hold 34 (by kernel_rfl)
        have d35 : a.tmps.getD 35 undef = .pointer (some ⟨b, 3, none⟩) := hold 35 (by kernel_rfl)
        have d36 : a.tmps.getD 36 undef = .pointer (some ⟨b, 2, none⟩) := hold 36 (by kernel_rfl)
        have d37 : a.tmps.getD 37 undef = .slice aL n cL := hold 37 (by kernel_rfl)
        have d38 : a.tmps.getD 38 undef = .int .i64 ↑n := hold 38 (by kernel_rfl)
        have d39 : a.tmps.getD 39 undef = .slice (some ⟨g, 0, none⟩) n n := hold 39 (by kernel_rfl)
        have d40 : a.tmps.getD 40 undef = .pointer (some ⟨b, 4, none⟩) := hold 40 (by kernel_rfl)
        have d41 : a.tmps.getD 41 undef = .tuple #[.slice (some ⟨ga, 0, none⟩) L.length c10, .int .i64 0] := hold 41 (by kernel_rfl)
        have d42 : a.tmps.getD 42 undef = .int .i64 (98 * ↑n) := hold 42 (by kernel_rfl)
        have d43 : a.tmps.getD 43 undef = .pointer (some ⟨b, 3, none⟩) := hold 43 (by kernel_rfl)
        have d44 : a.tmps.getD 44 undef = .slice a6 (M.scr.length + m) c6 := hold 44 (by kernel_rfl)
        have d45 : a.tmps.getD 45 undef = .tuple #[.slice (some ⟨ga, 0, none⟩) L.length c10, .int .i64 0] := hold 45 (by kernel_rfl)
        have d46 : a.tmps.getD 46 undef = .slice (some ⟨ga, 0, none⟩) L.length c10 := hold 46 (by kernel_rfl)
        have d47 : a.tmps.getD 47 undef = .int .i64 0 := hold 47 (by kernel_rfl)
        have d48 : a.tmps.getD 48 undef = .int .i64 ↑k := hold 48 (by kernel_rfl)
        have d49 : a.tmps.getD 49 undef = .slice (some ⟨ga, 0, none⟩) L.length c10 := hold 49 (by kernel_rfl)
        have d50 : a.tmps.getD 50 undef = .int .i64 ↑L.length := hold 50 (by kernel_rfl)
        have d51 : a.tmps.getD 51 undef = .bool true := hold 51 (by kernel_rfl)
        have d54 : a.tmps.getD 54 undef = .slice (some ⟨ga, 0, none⟩) L.length c10 := hold 54 (by kernel_rfl)
        have d55 : a.tmps.getD 55 undef = .int .i64 ↑k := hold 55 (by kernel_rfl)
        have d56 : a.tmps.getD 56 undef = .pointer (some ⟨ga, k, none⟩) := hold 56 (by kernel_rfl)
        have d57 : a.tmps.getD 57 undef = .int .i64 x := hold 57 (by kernel_rfl)
        have d58 : a.tmps.getD 58 undef = .int .i64 ↑ia := hold 58 (by kernel_rfl)
        have d52 : a.tmps.getD 52 undef = u52 := hold 52 (by kernel_rfl)
        have d53 : a.tmps.getD 53 undef = u53 := hold 53 (by kernel_rfl)
        have d75 : a.tmps.getD 75 undef = undef := hold 75 (by kernel_rfl)
        clear hold
        obtain ⟨tm, df⟩ := a
        replace hd : df = [] := hd
        replace hsz : tm.size = 76 := hsz
        replace d0 : tm.getD 0 undef = .agg #[.int .i64 ↑M.kind, .int .i64 ↑M.endu, .slice aL n cL, .slice aS M.scr.length cS, .slice aD n cD] := d0
        replace d1 : tm.getD 1 undef = .slice al m cl := d1
        replace d2 : tm.getD 2 undef = .pointer (some ⟨b, 0, none⟩) := d2
        replace d3 : tm.getD 3 undef = undef := d3
        replace d4 : tm.getD 4 undef = .pointer (some ⟨b + 1, 0, none⟩) := d4
        replace d5 : tm.getD 5 undef = .int .i64 0 := d5
        replace d6 : tm.getD 6 undef = .int .i64 (98 * ↑n) := d6
        replace d7 : tm.getD 7 undef = .slice (some ⟨ga, 0, none⟩) L.length c10 := d7
        replace d8 : tm.getD 8 undef = .int .i64 0 := d8
        replace d9 : tm.getD 9 undef = .int .i64 ↑k := d9
        replace d10 : tm.getD 10 undef = .int .i64 ↑ia := d10
        replace d11 : tm.getD 11 undef = .pointer (some ⟨b, 2, none⟩) := d11
        replace d12 : tm.getD 12 undef = .slice aL n cL := d12
        replace d13 : tm.getD 13 undef = .int .i64 ↑n := d13
        replace d14 : tm.getD 14 undef = .int .i64 (98 * ↑n) := d14
        replace d15 : tm.getD 15 undef = .int .i64 (98 * ↑n) := d15
        replace d16 : tm.getD 16 undef = .int .i64 (98 * ↑n + 108) := d16
        replace d17 : tm.getD 17 undef = .slice al m cl := d17
        replace d18 : tm.getD 18 undef = .bool true := d18
        replace d19 : tm.getD 19 undef = .bool false := d19
        replace d20 : tm.getD 20 undef = undef := d20
        replace d21 : tm.getD 21 undef = .pointer (some ⟨b, 3, none⟩) := d21
        replace d22 : tm.getD 22 undef = .slice aS M.scr.length cS := d22
        replace d23 : tm.getD 23 undef = .int .i64 ↑M.scr.length := d23
        replace d24 : tm.getD 24 undef = .slice al m cl := d24
        replace d25 : tm.getD 25 undef = .int .i64 ↑m := d25
        replace d26 : tm.getD 26 undef = .int .i64 (↑M.scr.length + ↑m) := d26
        replace d27 : tm.getD 27 undef = .bool false := d27
        replace d28 : tm.getD 28 undef = undef := d28
        replace d29 : tm.getD 29 undef = .slice (some ⟨g0, 0, none⟩) 0 0 := d29
        replace d30 : tm.getD 30 undef = .pointer (some ⟨b, 3, none⟩) := d30
        replace d31 : tm.getD 31 undef = .slice aS M.scr.length cS := d31
        replace d32 : tm.getD 32 undef = v5 := d32
        replace d33 : tm.getD 33 undef = .slice al m cl := d33
        replace d34 : tm.getD 34 undef = .slice a6 (M.scr.length + m) c6 := d34
        replace d35 : tm.getD 35 undef = .pointer (some ⟨b, 3, none⟩) := d35
        replace d36 : tm.getD 36 undef = .pointer (some ⟨b, 2, none⟩) := d36
        replace d37 : tm.getD 37 undef = .slice aL n cL := d37
        replace d38 : tm.getD 38 undef = .int .i64 ↑n := d38
        replace d39 : tm.getD 39 undef = .slice (some ⟨g, 0, none⟩) n n := d39
        replace d40 : tm.getD 40 undef = .pointer (some ⟨b, 4, none⟩) := d40
        replace d41 : tm.getD 41 undef = .tuple #[.slice (some ⟨ga, 0, none⟩) L.length c10, .int .i64 0] := d41
        replace d42 : tm.getD 42 undef = .int .i64 (98 * ↑n) := d42
        replace d43 : tm.getD 43 undef = .pointer (some ⟨b, 3, none⟩) := d43
        replace d44 : tm.getD 44 undef = .slice a6 (M.scr.length + m) c6 := d44
        replace d45 : tm.getD 45 undef = .tuple #[.slice (some ⟨ga, 0, none⟩) L.length c10, .int .i64 0] := d45
        replace d46 : tm.getD 46 undef = .slice (some ⟨ga, 0, none⟩) L.length c10 := d46
        replace d47 : tm.getD 47 undef = .int .i64 0 := d47
        replace d48 : tm.getD 48 undef = .int .i64 ↑k := d48
        replace d49 : tm.getD 49 undef = .slice (some ⟨ga, 0, none⟩) L.length c10 := d49
        replace d50 : tm.getD 50 undef = .int .i64 ↑L.length := d50
        replace d51 : tm.getD 51 undef = .bool true := d51
        replace d54 : tm.getD 54 undef = .slice (some ⟨ga, 0, none⟩) L.length c10 := d54
        replace d55 : tm.getD 55 undef = .int .i64 ↑k := d55
        replace d56 : tm.getD 56 undef = .pointer (some ⟨ga, k, none⟩) := d56
        replace d57 : tm.getD 57 undef = .int .i64 x := d57
        replace d58 : tm.getD 58 undef = .int .i64 ↑ia := d58
        replace d52 : tm.getD 52 undef = u52 := d52
        replace d53 : tm.getD 53 undef = u53 := d53
        replace d75 : tm.getD 75 undef = undef := d75
        subst hd
        have e : tm = List.toArray (tm.getD 0 undef :: tm.getD 1 undef :: tm.getD 2 undef :: tm.getD 3 undef :: tm.getD 4 undef :: tm.getD 5 undef :: tm.getD 6 undef :: tm.getD 7 undef :: tm.getD 8 undef :: tm.getD 9 undef :: tm.getD 10 undef :: tm.getD 11 undef :: tm.getD 12 undef :: tm.getD 13 undef :: tm.getD 14 undef :: tm.getD 15 undef :: tm.getD 16 undef :: tm.getD 17 undef :: tm.getD 18 undef :: tm.getD 19 undef :: tm.getD 20 undef :: tm.getD 21 undef :: tm.getD 22 undef :: tm.getD 23 undef :: tm.getD 24 undef :: tm.getD 25 undef :: tm.getD 26 undef :: tm.getD 27 undef :: tm.getD 28 undef :: tm.getD 29 undef :: tm.getD 30 undef :: tm.getD 31 undef :: tm.getD 32 undef :: tm.getD 33 undef :: tm.getD 34 undef :: tm.getD 35 undef :: tm.getD 36 undef :: tm.getD 37 undef :: tm.getD 38 undef :: tm.getD 39 undef :: tm.getD 40 undef :: tm.getD 41 undef :: tm.getD 42 undef :: tm.getD 43 undef :: tm.getD 44 undef :: tm.getD 45 undef :: tm.getD 46 undef :: tm.getD 47 undef :: tm.getD 48 undef :: tm.getD 49 undef :: tm.getD 50 undef :: tm.getD 51 undef :: tm.getD 52 undef :: tm.getD 53 undef :: tm.getD 54 undef :: tm.getD 55 undef :: tm.getD 56 undef :: tm.getD 57 undef :: tm.getD 58 undef :: tm.getD 59 undef :: tm.getD 60 undef :: tm.getD 61 undef :: tm.getD 62 undef :: tm.getD 63 undef :: tm.getD 64 undef :: tm.getD 65 undef :: tm.getD 66 undef :: tm.getD 67 undef :: tm.getD 68 undef :: tm.getD 69 undef :: tm.getD 70 undef :: tm.getD 71 undef :: tm.getD 72 undef :: tm.getD 73 undef :: tm.getD 74 undef :: tm.getD 75 undef :: []) := arr_eq tm 76 hsz
        rw [d0, d1, d2, d3, d4, d5, d6, d7, d8, d9, d10, d11, d12, d13, d14, d15, d16, d17, d18, d19, d20, d21, d22, d23, d24, d25, d26, d27, d28, d29, d30, d31, d32, d33, d34, d35, d36, d37, d38, d39, d40, d41, d42, d43, d44, d45, d46, d47, d48, d49, d50, d51, d54, d55, d56, d57, d58, d52, d53, d75] at e
        clear d0 d1 d2 d3 d4 d5 d6 d7 d8 d9 d10 d11 d12 d13 d14 d15 d16 d17 d18 d19 d20 d21 d22 d23 d24 d25 d26 d27 d28 d29 d30 d31 d32 d33 d34 d35 d36 d37 d38 d39 d40 d41 d42 d43 d44 d45 d46 d47 d48 d49 d50 d51 d54 d55 d56 d57 d58 d52 d53 d75 hsz
        generalize tm.getD 59 undef = v59 at e
        generalize tm.getD 60 undef = v60 at e
        generalize tm.getD 61 undef = v61 at e
        generalize tm.getD 62 undef = v62 at e
        generalize tm.getD 63 undef = v63 at e
        generalize tm.getD 64 undef = v64 at e
        generalize tm.getD 65 undef = v65 at e
        generalize tm.getD 66 undef = v66 at e
        generalize tm.getD 67 undef = v67 at e
        generalize tm.getD 68 undef = v68 at e
        generalize tm.getD 69 undef = v69 at e
        generalize tm.getD 70 undef = v70 at e
        generalize tm.getD 71 undef = v71 at e
        generalize tm.getD 72 undef = v72 at e
        generalize tm.getD 73 undef = v73 at e
        generalize tm.getD 74 undef = v74 at e
        subst e
        have hW : W = w3 := hC
        subst hW
        clear hval hC
        go_wp2_with fail
        have e : part (L.take (k + 1)) = addT (part (L.take k)) ia (x % 2352) := by
          funext j
          rw [HTK.out, part_snoc]
          unfold addT
          by_cases h : j = ia
          · rw [if_pos h, if_pos (by rw [h]; exact HI.out), h]
          · rw [if_neg h, if_neg (by have := HI.out; omega)]
        refine ⟨⟨k + 1, vals.set ia (.slice a2 _ c2'), by omega, by simp, by rw [List.length_set]; exact HVN.out, by rw [e]; exact HG3.out, HLO.out.trans HL3.out⟩, ?_⟩
        simp [RowKit.intOf]; omega
    · obtain rfl : k = L.length := by omega
      have hX2r := HLO.out.bx (b := b + 1) (by rw [HBB.out]; exact HT2.out.lt) (by omega) HT2.out
      have k0 := HX1r.out.cell (i := 0) rfl
      have k1 := HX1r.out.cell (i := 1) rfl
      have k2 := HX1r.out.cell (i := 2) rfl
      have k3 := HX1r.out.cell (i := 3) rfl
      have k4 := HX1r.out.cell (i := 4) rfl
      have z0 := hX2r.cell (i := 0) rfl
      have z1 := hX2r.cell (i := 1) rfl
      have z2 := hX2r.cell (i := 2) rfl
      have z3 := hX2r.cell (i := 3) rfl
      have z4 := hX2r.cell (i := 4) rfl
      have zf := hX2r.free
      have hZ := (((((hX2r.set 0 (.int .i64 M.kind)).set 1 (.int .i64 M.endu)).set 2 (.slice aL n cL)).set 3 (.slice a6 (M.scr.length + m) c6)).set 4 (.slice (some ⟨g, 0, none⟩) n n))
      have HZ := Lib.hid hZ
      have hbg : w.heap.size ≤ g := by have := HB.out; omega
      have HZh := Lib.hid (heap5 wr (b + 1) 0 1 2 3 4 (.int .i64 M.kind) (.int .i64 M.endu) (.slice aL n cL) (.slice a6 (M.scr.length + m) c6) (.slice (some ⟨g, 0, none⟩) n n))
      have HZb := Lib.hid (below5 (HTa.out.trans (Below.mono (B := g) HLO.out.below hbg)) (g := b + 1) (by have := HB.out; omega) 0 1 2 3 4 (.int .i64 M.kind) (.int .i64 M.endu) (.slice aL n cL) (.slice a6 (M.scr.length + m) c6) (.slice (some ⟨g, 0, none⟩) n n))
      have q0 := hZ.cell (i := 0) rfl
      have q1 := hZ.cell (i := 1) rfl
      have q2 := hZ.cell (i := 2) rfl
      have q3 := hZ.cell (i := 3) rfl
      have q4 := hZ.cell (i := 4) rfl
      have HQ0 := Lib.hid q0
      have HQ1 := Lib.hid q1
      have HQ2 := Lib.hid q2
      have HQ3 := Lib.hid q3
      have HQ4 := Lib.hid q4
      clear q0 q1 q2 q3 q4 hZ hX2r x4
      have HSNN := Lib.hid hn
      go_wp2_with fail
      refine bodyPost_ret (v := .tuple #[rmv { M with scr := M.scr ++ l } (.slice aL n cL) (.slice a6 (M.scr.length + m) c6) (.slice (some ⟨g, 0, none⟩) n n), .int .i64 0]) (by simp [rmv, results, Try.results27, go_sem, HQ0.out, HQ1.out, HQ2.out, HQ3.out, HQ4.out]) rfl ?_
      refine ⟨_, _, _, SS, rfl, fun W2 hW => ?_, HZb.out⟩
      have hr := HF.out W2 (hW.low HZb.out)
      have hk2 : ∀ k, g0 ≤ k → k < wr.heap.size → W2.heap[k]? = wr.heap[k]? := fun k h1 h2 => by
        have e1 := hW.eq k (by simpa using h2) (fun h3 => by have := HB.out; omega)
        rw [e1]
        exact HZh.out k (by omega)
      have hg2 := HGR.out.agree (base := g0) hg0g (by have := hW.size; simpa using this) hk2
      have ho2 : W2.ownsRow g0 36 2 (.slice a6 (M.scr.length + m) c6) (M.scr.length + m) (flD scc (M.scr ++ l)) := by
        refine own_agree2 HTo.out HT1g.out (by decide) fun k h1 h2 h3 => ?_
        rw [hk2 k h1 (Nat.lt_of_lt_of_le h2 (by have := HLO.out.below.size; exact this)), HLO.out.eq k (by rw [HBB.out]; exact h2) h3]
      refine ⟨hr.e, hr.l, hr.x, ?_, ?_⟩
      · exact RdD.ofOwn scc_len (by rw [List.length_append, ← HMM.out]; exact ho2)
      · have hq := hg2.rdV (n := n) HVN2.out (scr := M.scr ++ l) (fun i hi => by rw [List.take_length, HPL2.out])
        show RdV W2 _ M.n _
        rw [← HNN.out]
        exact hq
theorem fit_wf {n : Nat} {l : List Sc} (h : fitA n l = true) (hn : n ≤ 1000000000) (i : Nat) (hi : i < l.length) : Wf (scA l i) := by
  unfold fitA at h
  have hb := List.all_eq_true.1 h (scA l i) (by unfold scA; exact atD_mem hi)
  have := (fitB_iff n (scA l i)).1 hb
  unfold Wf
  omega
theorem rscratch12 {w : World} {vL vS vD : Value} {M : Med} {P : Nat → Prop} {SS : List RS} {N : Nat} (h : RmF P w vL vS vD M SS) (ho : M.Ok N) {vl : Value} {l : List Sc} (hc : CameSc w vl l) (hll : l.length ≤ 100000) :
    Calls Try.prog 27 #[rmv M vL vS vD, vl] w (RmP (M.scratch l) P w) := by
  unfold Med.scratch
  have hn := ho.n
  by_cases h1 : fitA (98 * M.n + 108) l = false
  · rw [if_pos h1]; exact rscratch_fit h hn.2 hn.1 ho.scr hc hll h1
  rw [if_neg h1]
  have h1' : fitA (98 * M.n + 108) l = true := by simpa using h1
  by_cases h2 : M.scr.length + l.length > 256
  · rw [if_pos h2]; exact rscratch_many h hn.2 hn.1 ho.scr hc hll h1' h2
  · rw [if_neg h2]
    exact rscratch_ok h hn.2 hn.1 ho.scr hc hll h1' (by omega) (fun i hi => fit_wf ho.fit (by omega) i hi) (by rw [fitA_append, ho.fit, h1']; rfl)
end Go.Proofs.Ytpncjadhpnapnaa.D12
