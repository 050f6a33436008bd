/- Parts: XIh -/
import Derived.Test.YtflmjdjkfognjaaGreatTe25
import Derived.Test.YtflmjdjkfognjaaGreatTe26
import Derived.Test.YtflmjdjkfognjaaGreatTe16
import Derived.Test.YtflmjdjkfognjaaGreatTe21
import Derived.Test.YtflmjdjkfognjaaGreatTe23
namespace Go.Proofs.YtflmjdjkfognjaaGreat.T7
open Go Go.RowKit W10
set_option linter.unusedVariables false
structure Good (s : List UInt8) (lba : Int) (d : List UInt8) : Prop where
  len : s.length = 2352
  dl : d.length = 2048
  h0 : -150 ≤ lba
  h1 : lba ≤ 449849
  eq : s.take 2076 = (bld lba d).take 2076
theorem part_eq {s t : List UInt8} {n lo hi : Nat} (h : s.take n = t.take n) (hh : hi ≤ n) : (s.drop lo).take (hi - lo) = (t.drop lo).take (hi - lo) := by
  have e : ∀ u : List UInt8, (u.drop lo).take (hi - lo) = ((u.take n).drop lo).take (hi - lo) := fun u => by
    rw [List.drop_take, List.take_take, Nat.min_eq_left (by omega)]
  rw [e s, e t, h]
theorem cut_mid (a b c : List UInt8) {lo hi : Nat} (hl : lo = a.length) (hh : hi = lo + b.length) : (((a ++ b) ++ c).drop lo).take (hi - lo) = b := by
  subst hl hh
  rw [List.append_assoc, List.drop_left, show a.length + b.length - a.length = b.length from by omega, List.take_left]
section
variable {s d : List UInt8} {lba : Int}
theorem Good.head (h : Good s lba d) : s.take 2064 = bldH lba d := by
  have e := part_eq (lo := 0) (hi := 2064) h.eq (by omega)
  rw [List.drop_zero, List.drop_zero] at e
  have hb := bldH_len lba h.dl
  rw [show 2064 - 0 = 2064 from rfl] at e
  rw [e]
  unfold bld
  rw [List.append_assoc, List.take_append_of_le_length (by omega), List.take_of_length_le (by omega)]
theorem Good.code (h : Good s lba d) : (s.drop 2064).take (2068 - 2064) = edcB (edc 0 (bldH lba d)) := by
  rw [part_eq h.eq (by omega)]
  unfold bld
  exact cut_mid _ _ _ (bldH_len lba h.dl).symm (by rw [edcB_len])
theorem Good.zero (h : Good s lba d) : (s.drop 2068).take (2076 - 2068) = List.replicate 8 0 := by
  rw [part_eq h.eq (by omega)]
  unfold bld
  have hl : (bldH lba d ++ edcB (edc 0 (bldH lba d))).length = 2068 := by rw [List.length_append, bldH_len lba h.dl, edcB_len]
  rw [show (2068 : Nat) = (bldH lba d ++ edcB (edc 0 (bldH lba d))).length from hl.symm, List.drop_left, hl, List.take_replicate]
  rfl
theorem Good.sync (h : Good s lba d) : s.take 12 = syL := by
  have e := congrArg (List.take 12) h.head
  rw [List.take_take, Nat.min_eq_left (by omega)] at e
  rw [e]
  unfold bldH
  rw [List.append_assoc, List.append_assoc, List.take_append_of_le_length (by decide)]
  rfl
theorem Good.data (h : Good s lba d) : (s.drop 16).take (2064 - 16) = d := by
  have e : (s.drop 16).take (2064 - 16) = (bldH lba d).drop 16 := by
    rw [← h.head, List.drop_take]
  rw [e]
  unfold bldH
  have hl : (syL ++ adrL lba ++ [1]).length = 16 := by simp [adrL_len, syL]
  rw [show (16 : Nat) = (syL ++ adrL lba ++ [1]).length from hl.symm, List.drop_left]
theorem Good.byte (h : Good s lba d) {k : Nat} (hk : k < 2064) : G.ix s k = G.ix (bldH lba d) k := by
  rw [← h.head]
  unfold G.ix
  rw [List.getD_eq_getElem?_getD, List.getD_eq_getElem?_getD, List.getElem?_take_of_lt hk]
theorem bldH_mode (lba : Int) (d : List UInt8) : G.ix (bldH lba d) 15 = 1 := by
  unfold bldH
  rfl
end
set_option maxRecDepth 100000 in
theorem kind_0 (s : List UInt8) (hl : s.length = 2352) (h15 : G.ix s 15 = 1) (w : World) : Calls Tryz.prog 93 #[.string (str s)] w fun e w' => e = .returned (.tuple #[.int .i64 0, .int .i64 0]) ∧ w = w' := by
  have hx := fun W => run_bn (P := Tryz.prog) Tryz.underlying9 s 15 (by omega) 15 rfl W
  have e : bn s 15 = 1 := by unfold bn; rw [h15]; rfl
  rw [e] at hx
  have hsz := str_size s
  rw [hl] at hsz
  have hsz2 : (str s).data.size = 2352 := hsz
  clear e hl h15
  generalize str s = S at *
  go_enter Tryz.func93, Tryz.ntmps93
  go_wp2_with fail
  go_ret2
  exact ⟨rfl, rfl⟩
def chkV (b : Nat) (S E H : ByteArray) (i : Nat) (v : Value) (W : World) : Prop := match i with
  | 0 => v = .string S
  | 1 => v = .agg #[.int .u8 1, .int .i64 16, .int .i64 2048, .int .i64 0]
  | 2 => v = .int .i64 2064
  | 3 => v = .string H
  | 4 => v = .pointer (some ⟨b, 3, none⟩)
  | 5 => v = .int .i64 0
  | 6 => v = .string E
  | 7 => v = .string S
  | 8 => v = .agg #[.int .u8 1, .int .i64 16, .int .i64 2048, .int .i64 0]
  | 9 => v = .int .i64 2064
  | 10 => v = .agg #[.int .u8 1, .int .i64 16, .int .i64 2048, .int .i64 0]
  | 11 => v = .int .i64 2064
  | 12 => v = .int .i64 2068
  | 13 => v = .string E
  | 14 => v = .bool true
  | 15 => v = .bool true
  | _ => True
theorem chkV_keep (b : Nat) (S E H : ByteArray) (i : Nat) (v : Value) (W W' : World) (hR : (fun w W => Below w.heap.size w W) W W') (h : chkV b S E H i v W) : chkV b S E H i v W' := by
  unfold chkV at h ⊢
  split at h <;> first | exact h
set_option maxRecDepth 100000 in
set_option maxHeartbeats 4000000 in
theorem check_0 {s d : List UInt8} {lba : Int} (h : Good s lba d) (w : World) : Calls Tryz.prog 97 #[.string (str s)] w fun e w' => e = .returned (.bool true) ∧ Below w.heap.size w w' := by
  have h15 : G.ix s 15 = 1 := by rw [h.byte (by omega), bldH_mode]
  have HK := Lib.hid (fun W => kind_0 s h.len h15 W)
  have HL := Lib.hid layouts_0
  have HE := Lib.hid edcat_any
  unfold layV at HL HE
  have hl1 := h.len
  have hbl := bldH_len lba h.dl
  have s1 := fun W => sub_upto (P := Tryz.prog) Tryz.underlying9 s 2064 (by omega) 2064 rfl W
  rw [h.head] at s1
  have s2 := fun W => sub_both (P := Tryz.prog) Tryz.underlying9 s 2064 2068 (by omega) (by omega) 2064 2068 rfl rfl W
  rw [h.code] at s2
  have HC := Lib.hid (fun W => code_any (bldH lba d) (by omega) W)
  generalize edcB (edc 0 (bldH lba d)) = EB at *
  generalize bldH lba d = BH at *
  generalize str s = S at *
  obtain ⟨E, hE⟩ : ∃ E, E = str EB := ⟨_, rfl⟩
  obtain ⟨H, hH⟩ : ∃ H, H = str BH := ⟨_, rfl⟩
  rw [← hE] at s2 HC
  rw [← hH] at s1 HC
  clear hE hH h h15 hl1 hbl
  go_enter Tryz.func97, Tryz.ntmps97
  go_wp2_with fail
  refine (HK.out w).mono ?_
  rintro e w' ⟨rfl, rfl⟩
  go_wp2_with fail
  refine (HL.out w).mono ?_
  rintro e w1 ⟨rfl, hb1⟩
  obtain ⟨b, hb⟩ : ∃ b, b = w1.heap.size := ⟨_, rfl⟩
  obtain ⟨w2, hw2⟩ : ∃ w2, w2 = w1.alloc (.cells #[.int .u8 1, .int .i64 16, .int .i64 2048, .int .i64 0] 187) := ⟨_, rfl⟩
  have hA := (Below.refl w1.heap.size w1).alloc (Nat.le_refl _) (.cells #[.int .u8 1, .int .i64 16, .int .i64 2048, .int .i64 0] 187)
  rw [← hw2] at hA
  have hx : Bx w2 b 187 [.int .u8 1, .int .i64 16, .int .i64 2048, .int .i64 0] := by rw [hw2, hb]; exact Bx.new w1 _ _
  have HA := Lib.hid (hb1.trans (hA.mono hb1.size))
  have HBX := Lib.hid (fun W (hW : Below w2.heap.size w2 W) => hx.call hW)
  have HW2 : Hid (w1.alloc (.cells #[.int .u8 1, .int .i64 16, .int .i64 2048, .int .i64 0] 187) = w2) := Lib.hid hw2.symm
  have HB := Lib.hid hb
  clear hb1 hA hx hw2 hb
  go_upto_region 5 with (fail)
  rw [HW2.out, ← HB.out]
  refine wp_region_inr (by kernel_rfl) (fun w W => Below w.heap.size w W) (fun W => Below w2.heap.size w2 W) (chkV b S E H) (fun _ => false) (by kernel_rfl) (fun _ _ hR hc => hc.trans (hR.mono hc.size)) (chkV_keep b S E H) ((Below.refl _ _).drew) ⟨?_, ?_, ?_, ?_, ?_, ?_, ?_, ?_, ?_, ?_, ?_, ?_, ?_, ?_, ?_, ?_, trivial⟩ ?_
  · intro a W hc hsz hold hdep
    have o0 : a.tmps.getD 0 undef = .string S := hold 0 (by kernel_rfl)
    clear hsz hold hdep
    refine stepR_do rfl (wanted_none rfl) ?_
    refine stepR_val (v := .string S) (Below.refl _ _) rfl fun K hK => ?_
    go_simp
    exact hK
  · intro a W hc hsz hold hdep
    have o5 : a.tmps.getD 5 undef = .pointer (some ⟨b, 0, none⟩) := hold 5 (by kernel_rfl)
    have q0 := (HBX.out W hc).cell (i := 0) rfl
    have q1 := (HBX.out W hc).cell (i := 1) rfl
    have q2 := (HBX.out W hc).cell (i := 2) rfl
    have q3 := (HBX.out W hc).cell (i := 3) rfl
    clear hsz hold hdep
    refine stepR_do rfl (wanted_none rfl) ?_
    refine stepR_val (v := .agg #[.int .u8 1, .int .i64 16, .int .i64 2048, .int .i64 0]) (Below.refl _ _) rfl fun K hK => ?_
    go_simp
    exact hK
  · intro a W hc hsz hold hdep
    have d1 : a.tmps.getD 20 undef = .agg #[.int .u8 1, .int .i64 16, .int .i64 2048, .int .i64 0] := hdep 1 (by kernel_rfl) rfl _ rfl
    have e1 : a.tmps[20]?.getD undef = .agg #[.int .u8 1, .int .i64 16, .int .i64 2048, .int .i64 0] := by rw [← Array.getD_eq_getD_getElem?]; exact d1
    clear hsz hold hdep
    refine stepR_do rfl (wanted_none rfl) ?_
    refine stepR_call (v := .int .i64 2064) (fun W' hb => hb) (fun _ => rfl) fun K hK => ?_
    go_simp
    refine (HE.out W).mono ?_
    rintro e w' ⟨rfl, hb'⟩
    exact hK _ hb'
  · intro a W hc hsz hold hdep
    have d0 : a.tmps.getD 19 undef = .string S := hdep 0 (by kernel_rfl) rfl _ rfl
    have d2 : a.tmps.getD 21 undef = .int .i64 2064 := hdep 2 (by kernel_rfl) rfl _ rfl
    have q := s1
    clear hsz hold hdep
    refine stepR_do rfl (wanted_none rfl) ?_
    refine stepR_val (v := .string H) (Below.refl _ _) rfl fun K hK => ?_
    go_simp
    exact hK
  · intro a W hc hsz hold hdep
    have o5 : a.tmps.getD 5 undef = .pointer (some ⟨b, 0, none⟩) := hold 5 (by kernel_rfl)
    clear hsz hold hdep
    refine stepR_do rfl (wanted_none rfl) ?_
    refine stepR_val (v := .pointer (some ⟨b, 3, none⟩)) (Below.refl _ _) rfl fun K hK => ?_
    go_simp
    exact hK
  · intro a W hc hsz hold hdep
    have d4 : a.tmps.getD 23 undef = .pointer (some ⟨b, 3, none⟩) := hdep 4 (by kernel_rfl) rfl _ rfl
    have q3 := (HBX.out W hc).cell (i := 3) rfl
    clear hsz hold hdep
    refine stepR_do rfl (wanted_none rfl) ?_
    refine stepR_val (v := .int .i64 0) (Below.refl _ _) rfl fun K hK => ?_
    go_simp
    exact hK
  · intro a W hc hsz hold hdep
    have d3 : a.tmps.getD 22 undef = .string H := hdep 3 (by kernel_rfl) rfl _ rfl
    have e3 : a.tmps[22]?.getD undef = .string H := by rw [← Array.getD_eq_getD_getElem?]; exact d3
    have d5 : a.tmps.getD 24 undef = .int .i64 0 := hdep 5 (by kernel_rfl) rfl _ rfl
    have e5 : a.tmps[24]?.getD undef = .int .i64 0 := by rw [← Array.getD_eq_getD_getElem?]; exact d5
    clear hsz hold hdep
    refine stepR_do rfl (wanted_none rfl) ?_
    refine stepR_call (v := .string E) (fun W' hb => hb) (fun _ => rfl) fun K hK => ?_
    go_simp
    refine (HC.out W).mono ?_
    rintro e w' ⟨rfl, hb'⟩
    exact hK _ hb'
  · intro a W hc hsz hold hdep
    have o0 : a.tmps.getD 0 undef = .string S := hold 0 (by kernel_rfl)
    clear hsz hold hdep
    refine stepR_do rfl (wanted_none rfl) ?_
    refine stepR_val (v := .string S) (Below.refl _ _) rfl fun K hK => ?_
    go_simp
    exact hK
  · intro a W hc hsz hold hdep
    have o5 : a.tmps.getD 5 undef = .pointer (some ⟨b, 0, none⟩) := hold 5 (by kernel_rfl)
    have q0 := (HBX.out W hc).cell (i := 0) rfl
    have q1 := (HBX.out W hc).cell (i := 1) rfl
    have q2 := (HBX.out W hc).cell (i := 2) rfl
    have q3 := (HBX.out W hc).cell (i := 3) rfl
    clear hsz hold hdep
    refine stepR_do rfl (wanted_none rfl) ?_
    refine stepR_val (v := .agg #[.int .u8 1, .int .i64 16, .int .i64 2048, .int .i64 0]) (Below.refl _ _) rfl fun K hK => ?_
    go_simp
    exact hK
  · intro a W hc hsz hold hdep
    have d8 : a.tmps.getD 27 undef = .agg #[.int .u8 1, .int .i64 16, .int .i64 2048, .int .i64 0] := hdep 8 (by kernel_rfl) rfl _ rfl
    have e8 : a.tmps[27]?.getD undef = .agg #[.int .u8 1, .int .i64 16, .int .i64 2048, .int .i64 0] := by rw [← Array.getD_eq_getD_getElem?]; exact d8
    clear hsz hold hdep
    refine stepR_do rfl (wanted_none rfl) ?_
    refine stepR_call (v := .int .i64 2064) (fun W' hb => hb) (fun _ => rfl) fun K hK => ?_
    go_simp
    refine (HE.out W).mono ?_
    rintro e w' ⟨rfl, hb'⟩
    exact hK _ hb'
  · intro a W hc hsz hold hdep
    have o5 : a.tmps.getD 5 undef = .pointer (some ⟨b, 0, none⟩) := hold 5 (by kernel_rfl)
    have q0 := (HBX.out W hc).cell (i := 0) rfl
    have q1 := (HBX.out W hc).cell (i := 1) rfl
    have q2 := (HBX.out W hc).cell (i := 2) rfl
    have q3 := (HBX.out W hc).cell (i := 3) rfl
    clear hsz hold hdep
    refine stepR_do rfl (wanted_none rfl) ?_
    refine stepR_val (v := .agg #[.int .u8 1, .int .i64 16, .int .i64 2048, .int .i64 0]) (Below.refl _ _) rfl fun K hK => ?_
    go_simp
    exact hK
  · intro a W hc hsz hold hdep
    have d10 : a.tmps.getD 29 undef = .agg #[.int .u8 1, .int .i64 16, .int .i64 2048, .int .i64 0] := hdep 10 (by kernel_rfl) rfl _ rfl
    have e10 : a.tmps[29]?.getD undef = .agg #[.int .u8 1, .int .i64 16, .int .i64 2048, .int .i64 0] := by rw [← Array.getD_eq_getD_getElem?]; exact d10
    clear hsz hold hdep
    refine stepR_do rfl (wanted_none rfl) ?_
    refine stepR_call (v := .int .i64 2064) (fun W' hb => hb) (fun _ => rfl) fun K hK => ?_
    go_simp
    refine (HE.out W).mono ?_
    rintro e w' ⟨rfl, hb'⟩
    exact hK _ hb'
  · intro a W hc hsz hold hdep
    have d11 : a.tmps.getD 30 undef = .int .i64 2064 := hdep 11 (by kernel_rfl) rfl _ rfl
    clear hsz hold hdep
    refine stepR_do rfl (wanted_none rfl) ?_
    refine stepR_val (v := .int .i64 2068) (Below.refl _ _) rfl fun K hK => ?_
    go_simp
    exact hK
  · intro a W hc hsz hold hdep
    have d7 : a.tmps.getD 26 undef = .string S := hdep 7 (by kernel_rfl) rfl _ rfl
    have d9 : a.tmps.getD 28 undef = .int .i64 2064 := hdep 9 (by kernel_rfl) rfl _ rfl
    have d12 : a.tmps.getD 31 undef = .int .i64 2068 := hdep 12 (by kernel_rfl) rfl _ rfl
    have q := s2
    clear hsz hold hdep
    refine stepR_do rfl (wanted_none rfl) ?_
    refine stepR_val (v := .string E) (Below.refl _ _) rfl fun K hK => ?_
    go_simp
    exact hK
  · intro a W hc hsz hold hdep
    have d6 : a.tmps.getD 25 undef = .string E := hdep 6 (by kernel_rfl) rfl _ rfl
    have d13 : a.tmps.getD 32 undef = .string E := hdep 13 (by kernel_rfl) rfl _ rfl
    clear hsz hold hdep
    refine stepR_do rfl (wanted_none rfl) ?_
    refine stepR_val (v := .bool true) (Below.refl _ _) rfl fun K hK => ?_
    go_simp
    exact hK
  · intro a W hc hsz hold hdep
    have d14 : a.tmps.getD 33 undef = .bool true := hdep 14 (by kernel_rfl) rfl _ rfl
    clear hsz hold hdep
    refine stepR_do rfl (wanted_none rfl) ?_
    refine stepR_val (v := .bool true) (Below.refl _ _) rfl fun K hK => ?_
    go_simp
    exact hK
  · intro a W hC hd hsz hold hval
    have d2 : a.tmps.getD 2 undef = .bool true := hval 15 _ rfl rfl
    clear hold
    obtain ⟨tm, df⟩ := a
    replace hd : df = [] := hd
    replace hsz : tm.size = 34 := hsz
    replace d2 : tm.getD 2 undef = .bool true := d2
    subst hd
    have e : tm = List.toArray (tm.getD 0 undef :: tm.getD 1 undef :: tm.getD 2 undef :: tm.getD 3 undef :: tm.getD 4 undef :: tm.getD 5 undef :: tm.getD 6 undef :: tm.getD 7 undef :: tm.getD 8 undef :: tm.getD 9 undef :: tm.getD 10 undef :: tm.getD 11 undef :: tm.getD 12 undef :: tm.getD 13 undef :: tm.getD 14 undef :: tm.getD 15 undef :: tm.getD 16 undef :: tm.getD 17 undef :: tm.getD 18 undef :: tm.getD 19 undef :: tm.getD 20 undef :: tm.getD 21 undef :: tm.getD 22 undef :: tm.getD 23 undef :: tm.getD 24 undef :: tm.getD 25 undef :: tm.getD 26 undef :: tm.getD 27 undef :: tm.getD 28 undef :: tm.getD 29 undef :: tm.getD 30 undef :: tm.getD 31 undef :: tm.getD 32 undef :: tm.getD 33 undef :: []) := arr_eq tm 34 hsz
    rw [d2] at e
    clear d2 hsz
    generalize tm.getD 0 undef = v0 at e
    generalize tm.getD 1 undef = v1 at e
    generalize tm.getD 3 undef = v3 at e
    generalize tm.getD 4 undef = v4 at e
    generalize tm.getD 5 undef = v5 at e
    generalize tm.getD 6 undef = v6 at e
    generalize tm.getD 7 undef = v7 at e
    generalize tm.getD 8 undef = v8 at e
    generalize tm.getD 9 undef = v9 at e
    generalize tm.getD 10 undef = v10 at e
    generalize tm.getD 11 undef = v11 at e
    generalize tm.getD 12 undef = v12 at e
    generalize tm.getD 13 undef = v13 at e
    generalize tm.getD 14 undef = v14 at e
    generalize tm.getD 15 undef = v15 at e
    generalize tm.getD 16 undef = v16 at e
    generalize tm.getD 17 undef = v17 at e
    generalize tm.getD 18 undef = v18 at e
    generalize tm.getD 19 undef = v19 at e
    generalize tm.getD 20 undef = v20 at e
    generalize tm.getD 21 undef = v21 at e
    generalize tm.getD 22 undef = v22 at e
    generalize tm.getD 23 undef = v23 at e
    generalize tm.getD 24 undef = v24 at e
    generalize tm.getD 25 undef = v25 at e
    generalize tm.getD 26 undef = v26 at e
    generalize tm.getD 27 undef = v27 at e
    generalize tm.getD 28 undef = v28 at e
    generalize tm.getD 29 undef = v29 at e
    generalize tm.getD 30 undef = v30 at e
    generalize tm.getD 31 undef = v31 at e
    generalize tm.getD 32 undef = v32 at e
    generalize tm.getD 33 undef = v33 at e
    subst e
    have HC2 := Lib.hid (HA.out.trans (hC.mono HA.out.size))
    clear hval hC
    go_wp2_with fail
    go_ret
    exact ⟨rfl, HC2.out⟩
theorem by8_nat {x : Int} (h0 : 0 ≤ x) (h1 : x ≤ 255) : ((by8 x).toNat : Int) = x := by
  unfold by8
  rw [UInt8.toNat_ofNat']
  omega
theorem bcd_bd {n : Int} (h0 : 0 ≤ n) (h1 : n ≤ 99) : 0 ≤ bcd n ∧ bcd n ≤ 255 := by unfold bcd; omega
theorem bldH_adr (lba : Int) (d : List UInt8) : G.ix (bldH lba d) 12 = by8 (bcd (Q.mM (lba + 150))) ∧ G.ix (bldH lba d) 13 = by8 (bcd (Q.mS (lba + 150))) ∧ G.ix (bldH lba d) 14 = by8 (bcd (Q.mF (lba + 150))) := ⟨rfl, rfl, rfl⟩
theorem Good.adr {s d : List UInt8} {lba : Int} (h : Good s lba d) : bn s 12 = bcd (Q.mM (lba + 150)) ∧ bn s 13 = bcd (Q.mS (lba + 150)) ∧ bn s 14 = bcd (Q.mF (lba + 150)) := by
  obtain ⟨h1, h2, h3, h4, h5, h6⟩ := okA_lba h.h0 h.h1
  obtain ⟨e1, e2, e3⟩ := bldH_adr lba d
  unfold bn
  rw [h.byte (by omega), h.byte (by omega), h.byte (by omega), e1, e2, e3]
  have b1 := bcd_bd h1 h2
  have b2 := bcd_bd h3 (by omega)
  have b3 := bcd_bd h5 (by omega)
  exact ⟨by8_nat b1.1 b1.2, by8_nat b2.1 b2.2, by8_nat b3.1 b3.2⟩
theorem Good.dec {s d : List UInt8} {lba : Int} (h : Good s lba d) (w : World) : Calls Tryz.prog 52 #[.string (str s), .int .i64 12] w fun e w' => e = .returned (.tuple #[msfv (Q.mM (lba + 150)) (Q.mS (lba + 150)) (Q.mF (lba + 150)), .int .i64 0]) ∧ Below w.heap.size w w' := by
  obtain ⟨h1, h2, h3, h4, h5, h6⟩ := okA_lba h.h0 h.h1
  obtain ⟨e1, e2, e3⟩ := h.adr
  have hq := adec12_any s w h.len
  rw [e1, e2, e3] at hq
  have u1 := unbcd_bcd' h1 h2
  have u2 := unbcd_bcd' h3 (show Q.mS (lba + 150) ≤ 99 by omega)
  have u3 := unbcd_bcd' h5 (show Q.mF (lba + 150) ≤ 99 by omega)
  have hok : okD (bcd (Q.mM (lba + 150))) (bcd (Q.mS (lba + 150))) (bcd (Q.mF (lba + 150))) := by
    unfold okD
    rw [u1, u2, u3]
    exact ⟨rfl, rfl, rfl, vB_t ⟨h1, h2, h3, h4, h5, h6⟩⟩
  obtain ⟨d1, d2, d3, d4⟩ := d_yes hok
  unfold DecA at hq
  rw [d1, d2, d3, d4, u1, u2, u3] at hq
  exact hq
def prs5V (b B : Nat) (S D : ByteArray) (i : Nat) (v : Value) (d : Nat → Value) (W : World) : Prop := match i with
  | 0 => v = .int .i64 0
  | 1 => v = .string S
  | 2 => v = .pointer (some ⟨b, 1, none⟩)
  | 3 => v = .int .i64 16
  | 4 => v = .agg #[.int .u8 1, .int .i64 16, .int .i64 2048, .int .i64 0]
  | 5 => v = .int .i64 2064
  | 6 => v = .string D
  | 7 => v = .agg #[.int .i64 0, .int .i64 0, .int .i64 0, .int .i64 0, .int .i64 0, .int .i64 0, .string D]
  | 8 => ∃ g, v = .pointer (some ⟨g, 0, none⟩) ∧ B ≤ g ∧ ∃ cs : List Value, cs.length = 7 ∧ Bx W g 103 cs
  | 9 => ∃ g, d 8 = .pointer (some ⟨g, 0, none⟩) ∧ B ≤ g ∧ Bx W g 103 [.int .i64 0, .int .i64 0, .int .i64 0, .int .i64 0, .int .i64 0, .int .i64 0, .string D]
  | _ => True
theorem prs5V_keep (b B : Nat) (S D : ByteArray) (i : Nat) (v : Value) (d : Nat → Value) (W W' : World) (hR : (RegN B 103 [.int .i64 0, .int .i64 0, .int .i64 0, .int .i64 0, .int .i64 0, .int .i64 0, .string D]) W W') (h : prs5V b B S D i v d W) : prs5V b B S D i v d W' := by
  by_cases h8 : i = 8
  · subst h8
    obtain ⟨g, h1, h2, h3⟩ := h
    exact ⟨g, h1, h2, hR.2.1 g h3⟩
  by_cases h9 : i = 9
  · subst h9
    obtain ⟨g, h1, h2, h3⟩ := h
    exact ⟨g, h1, h2, hR.2.2 g h3⟩
  unfold prs5V at h ⊢
  split at h <;> first | exact h | exact absurd rfl h8 | exact absurd rfl h9
def prs8V (bY : Nat) (S Y : ByteArray) (i : Nat) (v : Value) (W : World) : Prop := match i with
  | 0 => v = .int .i64 0
  | 1 => v = .bool true
  | 2 => v = .bool true
  | 3 => v = .string S
  | 4 => v = .string Y
  | 5 => v = .slice (some ⟨bY, 0, none⟩) 12 12
  | 6 => v = .string Y
  | 7 => v = .bool true
  | 8 => v = .bool true
  | 9 => v = .bool true
  | _ => True
theorem prs8V_keep (bY : Nat) (S Y : ByteArray) (i : Nat) (v : Value) (W W' : World) (hR : (fun w W => Below w.heap.size w W) W W') (h : prs8V bY S Y i v W) : prs8V bY S Y i v W' := by
  unfold prs8V at h ⊢
  split at h <;> first | exact h
def prs10V (b : Nat) (S ZS : ByteArray) (i : Nat) (v : Value) (W : World) : Prop := match i with
  | 0 => v = .bool true
  | 1 => v = .bool true
  | 2 => v = .string S
  | 3 => v = .agg #[.int .u8 1, .int .i64 16, .int .i64 2048, .int .i64 0]
  | 4 => v = .int .i64 2064
  | 5 => v = .int .i64 2068
  | 6 => v = .string ZS
  | 7 => ∃ g, v = .slice (some ⟨g, 0, none⟩) 8 8 ∧ Bx W g 5 (bs (List.replicate 8 0))
  | 8 => v = .string ZS
  | 9 => v = .bool true
  | 10 => v = .bool true
  | 11 => v = .bool true
  | _ => True
theorem prs10V_keep (b : Nat) (S ZS : ByteArray) (i : Nat) (v : Value) (W W' : World) (hR : (fun w W => Below w.heap.size w W) W W') (h : prs10V b S ZS i v W) : prs10V b S ZS i v W' := by
  by_cases h7 : i = 7
  · subst h7
    obtain ⟨g, h1, h2⟩ := h
    exact ⟨g, h1, h2.call hR⟩
  unfold prs10V at h ⊢
  split at h <;> first | exact h | exact absurd rfl h7
set_option maxRecDepth 100000 in
set_option maxHeartbeats 4000000 in
theorem parse_0 {s d : List UInt8} {lba : Int} (h : Good s lba d) (w : World) : Calls Tryz.prog 34 #[.string (str s)] w fun e w' => e = .returned (.tuple #[secV lba d, .int .i64 0]) ∧ Below w.heap.size w w' := by
  have h15 : G.ix s 15 = 1 := by rw [h.byte (by omega), bldH_mode]
  have HK := Lib.hid (fun W => kind_0 s h.len h15 W)
  have HL := Lib.hid layouts_0
  have HE := Lib.hid edcat_any
  have HCK := Lib.hid (fun W => check_0 h W)
  have HAD := Lib.hid (fun W => h.dec W)
  have HSY := Lib.hid sync_any
  have HLB := Lib.hid (fun W => lba_any (Q.mM (lba + 150)) (Q.mS (lba + 150)) (Q.mF (lba + 150)) W (vB_t (okA_lba h.h0 h.h1)))
  have hnm : nmb (Q.mM (lba + 150)) (Q.mS (lba + 150)) (Q.mF (lba + 150)) - 150 = lba := by unfold nmb Q.mM Q.mS Q.mF; omega
  rw [hnm] at HLB
  have hmv : msfv (Q.mM (lba + 150)) (Q.mS (lba + 150)) (Q.mF (lba + 150)) = .agg #[.int .i64 (Q.mM (lba + 150)), .int .i64 (Q.mS (lba + 150)), .int .i64 (Q.mF (lba + 150))] := rfl
  rw [hmv] at HLB HAD
  generalize Q.mM (lba + 150) = qm at *
  generalize Q.mS (lba + 150) = qs at *
  generalize Q.mF (lba + 150) = qf at *
  unfold layV at HL HE
  unfold secV
  have hsv : syV = [.int .u8 0, .int .u8 255, .int .u8 255, .int .u8 255, .int .u8 255, .int .u8 255, .int .u8 255, .int .u8 255, .int .u8 255, .int .u8 255, .int .u8 255, .int .u8 0] := by kernel_rfl
  have HSV := Lib.hid hsv
  rw [hsv] at HSY
  have hl1 := h.len
  have s1 := fun W => sub_both (P := Tryz.prog) Tryz.underlying9 s 16 2064 (by omega) (by omega) 16 2064 rfl rfl W
  rw [h.data] at s1
  have s2 := fun W => sub_upto (P := Tryz.prog) Tryz.underlying9 s 12 (by omega) 12 rfl W
  rw [h.sync] at s2
  have s3 := fun W => sub_both (P := Tryz.prog) Tryz.underlying9 s 2068 2076 (by omega) (by omega) 2068 2076 rfl rfl W
  rw [h.zero] at s3
  obtain ⟨Z, hZ⟩ : ∃ Z : List UInt8, Z = List.replicate 8 0 := ⟨_, rfl⟩
  have HZ := Lib.hid hZ
  rw [← hZ] at s3
  generalize hS : str s = S at *
  obtain ⟨D, hD⟩ : ∃ D, D = str d := ⟨_, rfl⟩
  obtain ⟨Y, hY⟩ : ∃ Y, Y = str syL := ⟨_, rfl⟩
  obtain ⟨ZS, hZS⟩ : ∃ ZS, ZS = str Z := ⟨_, rfl⟩
  have HYS := Lib.hid hY
  have HZS := Lib.hid hZS
  rw [← hD] at s1 ⊢
  rw [← hY] at s2
  rw [← hZS] at s3
  clear hsv hmv hnm hZ hS hD hY hZS h h15 hl1
  go_enter Tryz.func34, Tryz.ntmps34
  go_upto_region 1 with (fail)
  obtain ⟨ob, hob⟩ : ∃ ob, ob = w.heap.size := ⟨_, rfl⟩
  obtain ⟨w1, hw1⟩ : ∃ w1, w1 = w.alloc (.cells #[.int .i64 0, .int .i64 0, .int .i64 0, .int .i64 0, .int .i64 0, .int .i64 0, .string ⟨#[]⟩] 103) := ⟨_, rfl⟩
  have hA1 := (Below.refl w.heap.size w).alloc (Nat.le_refl _) (.cells #[.int .i64 0, .int .i64 0, .int .i64 0, .int .i64 0, .int .i64 0, .int .i64 0, .string ⟨#[]⟩] 103)
  rw [← hw1] at hA1
  have ho1 : Bx w1 ob 103 [.int .i64 0, .int .i64 0, .int .i64 0, .int .i64 0, .int .i64 0, .int .i64 0, .string ⟨#[]⟩] := by rw [hw1, hob]; exact Bx.new w _ _
  have HO1 := Lib.hid ho1
  have HA1 := Lib.hid hA1
  have HOB := Lib.hid hob
  rw [← hw1, ← hob]
  clear hA1 ho1 hob hw1
  go_wp2_with fail
  refine (HK.out w1).mono ?_
  rintro e w' ⟨rfl, rfl⟩
  go_wp2_with fail
  refine (HL.out w1).mono ?_
  rintro e w2 ⟨rfl, hb2⟩
  obtain ⟨b, hb⟩ : ∃ b, b = w2.heap.size := ⟨_, rfl⟩
  obtain ⟨w3, hw3⟩ : ∃ w3, w3 = w2.alloc (.cells #[.int .u8 1, .int .i64 16, .int .i64 2048, .int .i64 0] 187) := ⟨_, rfl⟩
  have hA := (Below.refl w2.heap.size w2).alloc (Nat.le_refl _) (.cells #[.int .u8 1, .int .i64 16, .int .i64 2048, .int .i64 0] 187)
  rw [← hw3] at hA
  have hx : Bx w3 b 187 [.int .u8 1, .int .i64 16, .int .i64 2048, .int .i64 0] := by rw [hw3, hb]; exact Bx.new w2 _ _
  have hb3 := hb2.trans (hA.mono hb2.size)
  have HO3 := Lib.hid (HO1.out.call hb3)
  have HA3 := Lib.hid (HA1.out.trans (hb3.mono HA1.out.size))
  have HB3 := Lib.hid hx
  have HBX := Lib.hid (fun W (hW : Below w3.heap.size w3 W) => hx.call hW)
  have HW3 : Hid (w2.alloc (.cells #[.int .u8 1, .int .i64 16, .int .i64 2048, .int .i64 0] 187) = w3) := Lib.hid hw3.symm
  have HB := Lib.hid hb
  clear hb2 hA hx hw3 hb hb3
  go_upto_region 5 with (fail)
  rw [HW3.out, ← HB.out]
  obtain ⟨B, hBB⟩ : ∃ B, B = w3.heap.size := ⟨_, rfl⟩
  have HBB := Lib.hid hBB
  clear hBB
  refine wp_region_ind (by kernel_rfl) (RegN B 103 [.int .i64 0, .int .i64 0, .int .i64 0, .int .i64 0, .int .i64 0, .int .i64 0, .string D]) (fun W => Below w3.heap.size w3 W) (prs5V b B S D) (fun _ => false) (by kernel_rfl) (fun _ _ hR hc => hc.trans (hR.1.mono (by rw [HBB.out]; exact Nat.le_refl _))) (prs5V_keep b B S D) ((Below.refl _ _).drew) ⟨?_, ?_, ?_, ?_, ?_, ?_, ?_, ?_, ?_, ?_, trivial⟩ ?_
  · intro a W hc hsz hold hdep
    have o4 : a.tmps.getD 4 undef = .int .i64 0 := hold 4 (by kernel_rfl)
    clear hsz hold hdep
    refine stepR_do rfl (wanted_none rfl) ?_
    refine stepD_val (v := .int .i64 0) RegN.refl rfl fun K hK => ?_
    go_simp
    exact hK
  · intro a W hc hsz hold hdep
    have o0 : a.tmps.getD 0 undef = .string S := hold 0 (by kernel_rfl)
    clear hsz hold hdep
    refine stepR_do rfl (wanted_none rfl) ?_
    refine stepD_val (v := .string S) RegN.refl rfl fun K hK => ?_
    go_simp
    exact hK
  · intro a W hc hsz hold hdep
    have o6 : a.tmps.getD 6 undef = .pointer (some ⟨b, 0, none⟩) := hold 6 (by kernel_rfl)
    clear hsz hold hdep
    refine stepR_do rfl (wanted_none rfl) ?_
    refine stepD_val (v := .pointer (some ⟨b, 1, none⟩)) RegN.refl rfl fun K hK => ?_
    go_simp
    exact hK
  · intro a W hc hsz hold hdep
    have d2 : a.tmps.getD 29 undef = .pointer (some ⟨b, 1, none⟩) := hdep 2 (by kernel_rfl) rfl _ rfl
    have q1 := (HBX.out W hc).cell (i := 1) rfl
    clear hsz hold hdep
    refine stepR_do rfl (wanted_none rfl) ?_
    refine stepD_val (v := .int .i64 16) RegN.refl rfl fun K hK => ?_
    go_simp
    exact hK
  · intro a W hc hsz hold hdep
    have o6 : a.tmps.getD 6 undef = .pointer (some ⟨b, 0, none⟩) := hold 6 (by kernel_rfl)
    have q0 := (HBX.out W hc).cell (i := 0) rfl
    have q1 := (HBX.out W hc).cell (i := 1) rfl
    have q2 := (HBX.out W hc).cell (i := 2) rfl
    have q3 := (HBX.out W hc).cell (i := 3) rfl
    clear hsz hold hdep
    refine stepR_do rfl (wanted_none rfl) ?_
    refine stepD_val (v := .agg #[.int .u8 1, .int .i64 16, .int .i64 2048, .int .i64 0]) RegN.refl rfl fun K hK => ?_
    go_simp
    exact hK
  · intro a W hc hsz hold hdep
    have d4 : a.tmps.getD 31 undef = .agg #[.int .u8 1, .int .i64 16, .int .i64 2048, .int .i64 0] := hdep 4 (by kernel_rfl) rfl _ rfl
    have e4 : a.tmps[31]?.getD undef = .agg #[.int .u8 1, .int .i64 16, .int .i64 2048, .int .i64 0] := by rw [← Array.getD_eq_getD_getElem?]; exact d4
    clear hsz hold hdep
    refine stepR_do rfl (wanted_none rfl) ?_
    refine stepD_call (v := .int .i64 2064) (fun W' hb => RegN.call (by rw [HBB.out]; exact hc.size) hb) (fun _ => rfl) fun K hK => ?_
    go_simp
    refine (HE.out W).mono ?_
    rintro e w' ⟨rfl, hb'⟩
    exact hK _ hb'
  · intro a W hc hsz hold hdep
    have d1 : a.tmps.getD 28 undef = .string S := hdep 1 (by kernel_rfl) rfl _ rfl
    have d3 : a.tmps.getD 30 undef = .int .i64 16 := hdep 3 (by kernel_rfl) rfl _ rfl
    have d5 : a.tmps.getD 32 undef = .int .i64 2064 := hdep 5 (by kernel_rfl) rfl _ rfl
    have q := s1
    clear hsz hold hdep
    refine stepR_do rfl (wanted_none rfl) ?_
    refine stepD_val (v := .string D) RegN.refl rfl fun K hK => ?_
    go_simp
    exact hK
  · intro a W hc hsz hold hdep
    have d0 : a.tmps.getD 27 undef = .int .i64 0 := hdep 0 (by kernel_rfl) rfl _ rfl
    have e0 : a.tmps[27]?.getD undef = .int .i64 0 := by rw [← Array.getD_eq_getD_getElem?]; exact d0
    have d6 : a.tmps.getD 33 undef = .string D := hdep 6 (by kernel_rfl) rfl _ rfl
    have e6 : a.tmps[33]?.getD undef = .string D := by rw [← Array.getD_eq_getD_getElem?]; exact d6
    clear hsz hold hdep
    refine stepR_do rfl (wanted_none rfl) ?_
    refine stepD_val (v := .agg #[.int .i64 0, .int .i64 0, .int .i64 0, .int .i64 0, .int .i64 0, .int .i64 0, .string D]) RegN.refl rfl fun K hK => ?_
    go_simp
    exact hK
  · intro a W hc hsz hold hdep
    clear hsz hold hdep
    refine stepR_do rfl (wanted_none rfl) ?_
    refine stepD_new (v := .pointer (some ⟨W.heap.size, 0, none⟩)) (RegN.alloc (by rw [HBB.out]; exact hc.size) (.cells #[.int .i64 0, .int .i64 0, .int .i64 0, .int .i64 0, .int .i64 0, .int .i64 0, .string ⟨#[]⟩] 103)) ⟨W.heap.size, rfl, by rw [HBB.out]; exact hc.size, [.int .i64 0, .int .i64 0, .int .i64 0, .int .i64 0, .int .i64 0, .int .i64 0, .string ⟨#[]⟩], rfl, Bx.new _ _ _⟩ fun K hK => ?_
    go_simp
    exact hK
  · intro a W hc hsz hold hdep
    have x8 := hdep 8 (by kernel_rfl) rfl _ rfl
    have d7 : a.tmps.getD 34 undef = .agg #[.int .i64 0, .int .i64 0, .int .i64 0, .int .i64 0, .int .i64 0, .int .i64 0, .string D] := hdep 7 (by kernel_rfl) rfl _ rfl
    clear hsz hold hdep
    refine stepR_do rfl (wanted_none rfl) ?_
    obtain ⟨g, hg, hgB, cs, hl9, hB9⟩ := x8
    replace hg : a.tmps.getD 8 undef = .pointer (some ⟨g, 0, none⟩) := hg
    have hlt := hB9.lt
    have hf := hB9.free
    obtain ⟨u0, z0⟩ : ∃ v, W.cell? ⟨g, 0, none⟩ = some v := ⟨_, hB9.cell (List.getElem?_eq_getElem (by rw [hl9]; simp))⟩
    obtain ⟨u1, z1⟩ : ∃ v, W.cell? ⟨g, 1, none⟩ = some v := ⟨_, hB9.cell (List.getElem?_eq_getElem (by rw [hl9]; simp))⟩
    obtain ⟨u2, z2⟩ : ∃ v, W.cell? ⟨g, 2, none⟩ = some v := ⟨_, hB9.cell (List.getElem?_eq_getElem (by rw [hl9]; simp))⟩
    obtain ⟨u3, z3⟩ : ∃ v, W.cell? ⟨g, 3, none⟩ = some v := ⟨_, hB9.cell (List.getElem?_eq_getElem (by rw [hl9]; simp))⟩
    obtain ⟨u4, z4⟩ : ∃ v, W.cell? ⟨g, 4, none⟩ = some v := ⟨_, hB9.cell (List.getElem?_eq_getElem (by rw [hl9]; simp))⟩
    obtain ⟨u5, z5⟩ : ∃ v, W.cell? ⟨g, 5, none⟩ = some v := ⟨_, hB9.cell (List.getElem?_eq_getElem (by rw [hl9]; simp))⟩
    obtain ⟨u6, z6⟩ : ∃ v, W.cell? ⟨g, 6, none⟩ = some v := ⟨_, hB9.cell (List.getElem?_eq_getElem (by rw [hl9]; simp))⟩
    refine stepD_new (v := undef) (RegN.store hgB ⟨cs, hl9, hB9⟩) ⟨g, hg, hgB, hB9.full hl9⟩ fun K hK => ?_
    clear hB9 hl9
    go_simp
    exact hK
  · intro a W hC hd hsz hold hval
    obtain ⟨gq, hgq, hqB, hQ⟩ := hval 9 _ rfl rfl
    have d8 : a.tmps.getD 8 undef = .pointer (some ⟨gq, 0, none⟩) := hgq
    clear hgq
    have d0 : a.tmps.getD 0 undef = .string S := hold 0 (by kernel_rfl)
    have d2 : a.tmps.getD 2 undef = .pointer (some ⟨ob, 0, none⟩) := hold 2 (by kernel_rfl)
    have d4 : a.tmps.getD 4 undef = .int .i64 0 := hold 4 (by kernel_rfl)
    have d6 : a.tmps.getD 6 undef = .pointer (some ⟨b, 0, none⟩) := hold 6 (by kernel_rfl)
    clear hold
    obtain ⟨tm, df⟩ := a
    replace hd : df = [] := hd
    replace hsz : tm.size = 108 := hsz
    replace d0 : tm.getD 0 undef = .string S := d0
    replace d2 : tm.getD 2 undef = .pointer (some ⟨ob, 0, none⟩) := d2
    replace d4 : tm.getD 4 undef = .int .i64 0 := d4
    replace d6 : tm.getD 6 undef = .pointer (some ⟨b, 0, none⟩) := d6
    replace d8 : tm.getD 8 undef = .pointer (some ⟨gq, 0, none⟩) := d8
    subst hd
    have e : tm = List.toArray (tm.getD 0 undef :: tm.getD 1 undef :: tm.getD 2 undef :: tm.getD 3 undef :: tm.getD 4 undef :: tm.getD 5 undef :: tm.getD 6 undef :: tm.getD 7 undef :: tm.getD 8 undef :: tm.getD 9 undef :: tm.getD 10 undef :: tm.getD 11 undef :: tm.getD 12 undef :: tm.getD 13 undef :: tm.getD 14 undef :: tm.getD 15 undef :: tm.getD 16 undef :: tm.getD 17 undef :: tm.getD 18 undef :: tm.getD 19 undef :: tm.getD 20 undef :: tm.getD 21 undef :: tm.getD 22 undef :: tm.getD 23 undef :: tm.getD 24 undef :: tm.getD 25 undef :: tm.getD 26 undef :: tm.getD 27 undef :: tm.getD 28 undef :: tm.getD 29 undef :: tm.getD 30 undef :: tm.getD 31 undef :: tm.getD 32 undef :: tm.getD 33 undef :: tm.getD 34 undef :: tm.getD 35 undef :: tm.getD 36 undef :: tm.getD 37 undef :: tm.getD 38 undef :: tm.getD 39 undef :: tm.getD 40 undef :: tm.getD 41 undef :: tm.getD 42 undef :: tm.getD 43 undef :: tm.getD 44 undef :: tm.getD 45 undef :: tm.getD 46 undef :: tm.getD 47 undef :: tm.getD 48 undef :: tm.getD 49 undef :: tm.getD 50 undef :: tm.getD 51 undef :: tm.getD 52 undef :: tm.getD 53 undef :: tm.getD 54 undef :: tm.getD 55 undef :: tm.getD 56 undef :: tm.getD 57 undef :: tm.getD 58 undef :: tm.getD 59 undef :: tm.getD 60 undef :: tm.getD 61 undef :: tm.getD 62 undef :: tm.getD 63 undef :: tm.getD 64 undef :: tm.getD 65 undef :: tm.getD 66 undef :: tm.getD 67 undef :: tm.getD 68 undef :: tm.getD 69 undef :: tm.getD 70 undef :: tm.getD 71 undef :: tm.getD 72 undef :: tm.getD 73 undef :: tm.getD 74 undef :: tm.getD 75 undef :: tm.getD 76 undef :: tm.getD 77 undef :: tm.getD 78 undef :: tm.getD 79 undef :: tm.getD 80 undef :: tm.getD 81 undef :: tm.getD 82 undef :: tm.getD 83 undef :: tm.getD 84 undef :: tm.getD 85 undef :: tm.getD 86 undef :: tm.getD 87 undef :: tm.getD 88 undef :: tm.getD 89 undef :: tm.getD 90 undef :: tm.getD 91 undef :: tm.getD 92 undef :: tm.getD 93 undef :: tm.getD 94 undef :: tm.getD 95 undef :: tm.getD 96 undef :: tm.getD 97 undef :: tm.getD 98 undef :: tm.getD 99 undef :: tm.getD 100 undef :: tm.getD 101 undef :: tm.getD 102 undef :: tm.getD 103 undef :: tm.getD 104 undef :: tm.getD 105 undef :: tm.getD 106 undef :: tm.getD 107 undef :: []) := arr_eq tm 108 hsz
    rw [d0, d2, d4, d6, d8] at e
    clear d0 d2 d4 d6 d8 hsz
    generalize tm.getD 1 undef = v1 at e
    generalize tm.getD 3 undef = v3 at e
    generalize tm.getD 5 undef = v5 at e
    generalize tm.getD 7 undef = v7 at e
    generalize tm.getD 9 undef = v9 at e
    generalize tm.getD 10 undef = v10 at e
    generalize tm.getD 11 undef = v11 at e
    generalize tm.getD 12 undef = v12 at e
    generalize tm.getD 13 undef = v13 at e
    generalize tm.getD 14 undef = v14 at e
    generalize tm.getD 15 undef = v15 at e
    generalize tm.getD 16 undef = v16 at e
    generalize tm.getD 17 undef = v17 at e
    generalize tm.getD 18 undef = v18 at e
    generalize tm.getD 19 undef = v19 at e
    generalize tm.getD 20 undef = v20 at e
    generalize tm.getD 21 undef = v21 at e
    generalize tm.getD 22 undef = v22 at e
    generalize tm.getD 23 undef = v23 at e
    generalize tm.getD 24 undef = v24 at e
    generalize tm.getD 25 undef = v25 at e
    generalize tm.getD 26 undef = v26 at e
    generalize tm.getD 27 undef = v27 at e
    generalize tm.getD 28 undef = v28 at e
    generalize tm.getD 29 undef = v29 at e
    generalize tm.getD 30 undef = v30 at e
    generalize tm.getD 31 undef = v31 at e
    generalize tm.getD 32 undef = v32 at e
    generalize tm.getD 33 undef = v33 at e
    generalize tm.getD 34 undef = v34 at e
    generalize tm.getD 35 undef = v35 at e
    generalize tm.getD 36 undef = v36 at e
    generalize tm.getD 37 undef = v37 at e
    generalize tm.getD 38 undef = v38 at e
    generalize tm.getD 39 undef = v39 at e
    generalize tm.getD 40 undef = v40 at e
    generalize tm.getD 41 undef = v41 at e
    generalize tm.getD 42 undef = v42 at e
    generalize tm.getD 43 undef = v43 at e
    generalize tm.getD 44 undef = v44 at e
    generalize tm.getD 45 undef = v45 at e
    generalize tm.getD 46 undef = v46 at e
    generalize tm.getD 47 undef = v47 at e
    generalize tm.getD 48 undef = v48 at e
    generalize tm.getD 49 undef = v49 at e
    generalize tm.getD 50 undef = v50 at e
    generalize tm.getD 51 undef = v51 at e
    generalize tm.getD 52 undef = v52 at e
    generalize tm.getD 53 undef = v53 at e
    generalize tm.getD 54 undef = v54 at e
    generalize tm.getD 55 undef = v55 at e
    generalize tm.getD 56 undef = v56 at e
    generalize tm.getD 57 undef = v57 at e
    generalize tm.getD 58 undef = v58 at e
    generalize tm.getD 59 undef = v59 at e
    generalize tm.getD 60 undef = v60 at e
    generalize tm.getD 61 undef = v61 at e
    generalize tm.getD 62 undef = v62 at e
    generalize tm.getD 63 undef = v63 at e
    generalize tm.getD 64 undef = v64 at e
    generalize tm.getD 65 undef = v65 at e
    generalize tm.getD 66 undef = v66 at e
    generalize tm.getD 67 undef = v67 at e
    generalize tm.getD 68 undef = v68 at e
    generalize tm.getD 69 undef = v69 at e
    generalize tm.getD 70 undef = v70 at e
    generalize tm.getD 71 undef = v71 at e
    generalize tm.getD 72 undef = v72 at e
    generalize tm.getD 73 undef = v73 at e
    generalize tm.getD 74 undef = v74 at e
    generalize tm.getD 75 undef = v75 at e
    generalize tm.getD 76 undef = v76 at e
    generalize tm.getD 77 undef = v77 at e
    generalize tm.getD 78 undef = v78 at e
    generalize tm.getD 79 undef = v79 at e
    generalize tm.getD 80 undef = v80 at e
    generalize tm.getD 81 undef = v81 at e
    generalize tm.getD 82 undef = v82 at e
    generalize tm.getD 83 undef = v83 at e
    generalize tm.getD 84 undef = v84 at e
    generalize tm.getD 85 undef = v85 at e
    generalize tm.getD 86 undef = v86 at e
    generalize tm.getD 87 undef = v87 at e
    generalize tm.getD 88 undef = v88 at e
    generalize tm.getD 89 undef = v89 at e
    generalize tm.getD 90 undef = v90 at e
    generalize tm.getD 91 undef = v91 at e
    generalize tm.getD 92 undef = v92 at e
    generalize tm.getD 93 undef = v93 at e
    generalize tm.getD 94 undef = v94 at e
    generalize tm.getD 95 undef = v95 at e
    generalize tm.getD 96 undef = v96 at e
    generalize tm.getD 97 undef = v97 at e
    generalize tm.getD 98 undef = v98 at e
    generalize tm.getD 99 undef = v99 at e
    generalize tm.getD 100 undef = v100 at e
    generalize tm.getD 101 undef = v101 at e
    generalize tm.getD 102 undef = v102 at e
    generalize tm.getD 103 undef = v103 at e
    generalize tm.getD 104 undef = v104 at e
    generalize tm.getD 105 undef = v105 at e
    generalize tm.getD 106 undef = v106 at e
    generalize tm.getD 107 undef = v107 at e
    subst e
    have HO5 := Lib.hid (HO3.out.call hC)
    have HL5 := Lib.hid (HB3.out.call hC)
    have HA5 := Lib.hid (HA3.out.trans (hC.mono HA3.out.size))
    have HQ5 := Lib.hid hQ
    have hog : ob < gq := by have h1 := HO3.out.lt; have h2 := HBB.out; omega
    have HOG := Lib.hid hog
    clear hval hC hQ hqB hog
    go_wp2_with fail
    refine (HAD.out W).mono ?_
    rintro e w4 ⟨rfl, hb4⟩
    obtain ⟨bm, hbm⟩ : ∃ bm, bm = w4.heap.size := ⟨_, rfl⟩
    obtain ⟨w5, hw5⟩ : ∃ w5, w5 = w4.alloc (.cells #[.int .i64 qm, .int .i64 qs, .int .i64 qf] 36) := ⟨_, rfl⟩
    have hA := (Below.refl w4.heap.size w4).alloc (Nat.le_refl _) (.cells #[.int .i64 qm, .int .i64 qs, .int .i64 qf] 36)
    rw [← hw5] at hA
    have hm : Bx w5 bm 36 [.int .i64 qm, .int .i64 qs, .int .i64 qf] := by rw [hw5, hbm]; exact Bx.new w4 _ _
    have hb5 := hb4.trans (hA.mono hb4.size)
    have HO6 := Lib.hid (HO5.out.call hb5)
    have HL6 := Lib.hid (HL5.out.call hb5)
    have HQ6 := Lib.hid (HQ5.out.call hb5)
    have HA6 := Lib.hid (HA5.out.trans (hb5.mono HA5.out.size))
    have HM6 := Lib.hid hm
    have HW5 : Hid (w4.alloc (.cells #[.int .i64 qm, .int .i64 qs, .int .i64 qf] 36) = w5) := Lib.hid hw5.symm
    have HBM := Lib.hid hbm
    clear hb4 hA hm hw5 hbm hb5
    go_upto_region 7 with (fail)
    rw [HW5.out, ← HBM.out]
    go_wp2_with fail
    refine (HSY.out w5).mono ?_
    rintro e w6 ⟨rfl, hb6⟩
    obtain ⟨bY, hbY⟩ : ∃ bY, bY = w6.heap.size := ⟨_, rfl⟩
    obtain ⟨w7, hw7⟩ : ∃ w7, w7 = w6.alloc (.cells #[.int .u8 0, .int .u8 255, .int .u8 255, .int .u8 255, .int .u8 255, .int .u8 255, .int .u8 255, .int .u8 255, .int .u8 255, .int .u8 255, .int .u8 255, .int .u8 0] 190) := ⟨_, rfl⟩
    have hA := (Below.refl w6.heap.size w6).alloc (Nat.le_refl _) (.cells #[.int .u8 0, .int .u8 255, .int .u8 255, .int .u8 255, .int .u8 255, .int .u8 255, .int .u8 255, .int .u8 255, .int .u8 255, .int .u8 255, .int .u8 255, .int .u8 0] 190)
    rw [← hw7] at hA
    have hm : Bx w7 bY 190 [.int .u8 0, .int .u8 255, .int .u8 255, .int .u8 255, .int .u8 255, .int .u8 255, .int .u8 255, .int .u8 255, .int .u8 255, .int .u8 255, .int .u8 255, .int .u8 0] := by rw [hw7, hbY]; exact Bx.new w6 _ _
    have hb7 := hb6.trans (hA.mono hb6.size)
    have HO7 := Lib.hid (HO6.out.call hb7)
    have HL7 := Lib.hid (HL6.out.call hb7)
    have HQ7 := Lib.hid (HQ6.out.call hb7)
    have HM7 := Lib.hid (HM6.out.call hb7)
    have HA7 := Lib.hid (HA6.out.trans (hb7.mono HA6.out.size))
    have HY7 := Lib.hid hm
    have HW7 : Hid (w6.alloc (.cells #[.int .u8 0, .int .u8 255, .int .u8 255, .int .u8 255, .int .u8 255, .int .u8 255, .int .u8 255, .int .u8 255, .int .u8 255, .int .u8 255, .int .u8 255, .int .u8 0] 190) = w7) := Lib.hid hw7.symm
    have HBY := Lib.hid hbY
    clear hb6 hA hm hw7 hbY hb7
    go_upto_region 8 with (fail)
    rw [HW7.out, ← HBY.out]
    refine wp_region_inr (by kernel_rfl) (fun w W => Below w.heap.size w W) (fun W => Below w7.heap.size w7 W) (prs8V bY S Y) (fun _ => false) (by kernel_rfl) (fun _ _ hR hc => hc.trans (hR.mono hc.size)) (prs8V_keep bY S Y) ((Below.refl _ _).drew) ⟨?_, ?_, ?_, ?_, ?_, ?_, ?_, ?_, ?_, ?_, trivial⟩ ?_
    · intro a W hc hsz hold hdep
      have o5 : a.tmps.getD 5 undef = .int .i64 0 := hold 5 (by kernel_rfl)
      clear hsz hold hdep
      refine stepR_do rfl (wanted_none rfl) ?_
      refine stepR_val (v := .int .i64 0) (Below.refl _ _) rfl fun K hK => ?_
      go_simp
      exact hK
    · intro a W hc hsz hold hdep
      have d0 : a.tmps.getD 41 undef = .int .i64 0 := hdep 0 (by kernel_rfl) rfl _ rfl
      clear hsz hold hdep
      refine stepR_do rfl (wanted_none rfl) ?_
      refine stepR_val (v := .bool true) (Below.refl _ _) rfl fun K hK => ?_
      go_simp
      exact hK
    · intro a W hc hsz hold hdep
      have d1 : a.tmps.getD 42 undef = .bool true := hdep 1 (by kernel_rfl) rfl _ rfl
      clear hsz hold hdep
      refine stepR_do rfl (wanted_none rfl) ?_
      refine stepR_val (v := .bool true) (Below.refl _ _) rfl fun K hK => ?_
      go_simp
      exact hK
    · intro a W hc hsz hold hdep
      have o0 : a.tmps.getD 0 undef = .string S := hold 0 (by kernel_rfl)
      have g3 : a.tmps.getD 43 undef = .bool true := hdep 2 (by kernel_rfl) rfl _ rfl
      clear hsz hold hdep
      refine stepR_do rfl ((wanted_of (want := true) rfl rfl g3).trans rfl) ?_
      clear g3
      refine stepR_val (v := .string S) (Below.refl _ _) rfl fun K hK => ?_
      go_simp
      exact hK
    · intro a W hc hsz hold hdep
      have d3 : a.tmps.getD 44 undef = .string S := hdep 3 (by kernel_rfl) rfl _ rfl
      have g4 : a.tmps.getD 43 undef = .bool true := hdep 2 (by kernel_rfl) rfl _ rfl
      have q := s2
      clear hsz hold hdep
      refine stepR_do rfl ((wanted_of (want := true) rfl rfl g4).trans rfl) ?_
      clear g4
      refine stepR_val (v := .string Y) (Below.refl _ _) rfl fun K hK => ?_
      go_simp
      exact hK
    · intro a W hc hsz hold hdep
      have o10 : a.tmps.getD 10 undef = .pointer (some ⟨bY, 0, none⟩) := hold 10 (by kernel_rfl)
      have g5 : a.tmps.getD 43 undef = .bool true := hdep 2 (by kernel_rfl) rfl _ rfl
      clear hsz hold hdep
      refine stepR_do rfl ((wanted_of (want := true) rfl rfl g5).trans rfl) ?_
      clear g5
      refine stepR_val (v := .slice (some ⟨bY, 0, none⟩) 12 12) (Below.refl _ _) rfl fun K hK => ?_
      go_simp
      exact hK
    · intro a W hc hsz hold hdep
      have d5 : a.tmps.getD 46 undef = .slice (some ⟨bY, 0, none⟩) 12 12 := hdep 5 (by kernel_rfl) rfl _ rfl
      have g6 : a.tmps.getD 43 undef = .bool true := hdep 2 (by kernel_rfl) rfl _ rfl
      have hN := (HY7.out.call hc)
      have ebs : [.int .u8 0, .int .u8 255, .int .u8 255, .int .u8 255, .int .u8 255, .int .u8 255, .int .u8 255, .int .u8 255, .int .u8 255, .int .u8 255, .int .u8 255, .int .u8 0] = bs syL := by kernel_rfl
      rw [ebs] at hN
      have hst := run_str (dst := 9) Tryz.underlying123 Tryz.underlying5 Tryz.underlying9 (Rd.ofBx hN (by simp [syL]))
      replace hst : (convert 123 9 (.slice (some ⟨bY, 0, none⟩) 12 12)).run Tryz.prog W = .ok (.string (str syL)) W := hst
      rw [← HYS.out] at hst
      clear hN ebs
      clear hsz hold hdep
      refine stepR_do rfl ((wanted_of (want := true) rfl rfl g6).trans rfl) ?_
      clear g6
      refine stepR_val (v := .string Y) (Below.refl _ _) rfl fun K hK => ?_
      go_simp
      exact hK
    · intro a W hc hsz hold hdep
      have d4 : a.tmps.getD 45 undef = .string Y := hdep 4 (by kernel_rfl) rfl _ rfl
      have d6 : a.tmps.getD 47 undef = .string Y := hdep 6 (by kernel_rfl) rfl _ rfl
      have g7 : a.tmps.getD 43 undef = .bool true := hdep 2 (by kernel_rfl) rfl _ rfl
      clear hsz hold hdep
      refine stepR_do rfl ((wanted_of (want := true) rfl rfl g7).trans rfl) ?_
      clear g7
      refine stepR_val (v := .bool true) (Below.refl _ _) rfl fun K hK => ?_
      go_simp
      exact hK
    · intro a W hc hsz hold hdep
      have d2 : a.tmps.getD 43 undef = .bool true := hdep 2 (by kernel_rfl) rfl _ rfl
      have d7 : a.tmps.getD 48 undef = .bool true := hdep 7 (by kernel_rfl) rfl _ rfl
      clear hsz hold hdep
      refine stepR_do rfl (wanted_none rfl) ?_
      refine stepR_val (v := .bool true) (Below.refl _ _) rfl fun K hK => ?_
      go_simp
      exact hK
    · intro a W hc hsz hold hdep
      have d8 : a.tmps.getD 49 undef = .bool true := hdep 8 (by kernel_rfl) rfl _ rfl
      clear hsz hold hdep
      refine stepR_do rfl (wanted_none rfl) ?_
      refine stepR_val (v := .bool true) (Below.refl _ _) rfl fun K hK => ?_
      go_simp
      exact hK
    · intro a W hC hd hsz hold hval
      have d0 : a.tmps.getD 0 undef = .string S := hold 0 (by kernel_rfl)
      have d2 : a.tmps.getD 2 undef = .pointer (some ⟨ob, 0, none⟩) := hold 2 (by kernel_rfl)
      have d4 : a.tmps.getD 4 undef = .int .i64 0 := hold 4 (by kernel_rfl)
      have d6 : a.tmps.getD 6 undef = .pointer (some ⟨b, 0, none⟩) := hold 6 (by kernel_rfl)
      have d8 : a.tmps.getD 8 undef = .pointer (some ⟨gq, 0, none⟩) := hold 8 (by kernel_rfl)
      have d9 : a.tmps.getD 9 undef = .pointer (some ⟨bm, 0, none⟩) := hold 9 (by kernel_rfl)
      have d11 : a.tmps.getD 11 undef = .bool true := hval 9 _ rfl rfl
      clear hold
      obtain ⟨tm, df⟩ := a
      replace hd : df = [] := hd
      replace hsz : tm.size = 108 := hsz
      replace d0 : tm.getD 0 undef = .string S := d0
      replace d2 : tm.getD 2 undef = .pointer (some ⟨ob, 0, none⟩) := d2
      replace d4 : tm.getD 4 undef = .int .i64 0 := d4
      replace d6 : tm.getD 6 undef = .pointer (some ⟨b, 0, none⟩) := d6
      replace d8 : tm.getD 8 undef = .pointer (some ⟨gq, 0, none⟩) := d8
      replace d9 : tm.getD 9 undef = .pointer (some ⟨bm, 0, none⟩) := d9
      replace d11 : tm.getD 11 undef = .bool true := d11
      subst hd
      have e : tm = List.toArray (tm.getD 0 undef :: tm.getD 1 undef :: tm.getD 2 undef :: tm.getD 3 undef :: tm.getD 4 undef :: tm.getD 5 undef :: tm.getD 6 undef :: tm.getD 7 undef :: tm.getD 8 undef :: tm.getD 9 undef :: tm.getD 10 undef :: tm.getD 11 undef :: tm.getD 12 undef :: tm.getD 13 undef :: tm.getD 14 undef :: tm.getD 15 undef :: tm.getD 16 undef :: tm.getD 17 undef :: tm.getD 18 undef :: tm.getD 19 undef :: tm.getD 20 undef :: tm.getD 21 undef :: tm.getD 22 undef :: tm.getD 23 undef :: tm.getD 24 undef :: tm.getD 25 undef :: tm.getD 26 undef :: tm.getD 27 undef :: tm.getD 28 undef :: tm.getD 29 undef :: tm.getD 30 undef :: tm.getD 31 undef :: tm.getD 32 undef :: tm.getD 33 undef :: tm.getD 34 undef :: tm.getD 35 undef :: tm.getD 36 undef :: tm.getD 37 undef :: tm.getD 38 undef :: tm.getD 39 undef :: tm.getD 40 undef :: tm.getD 41 undef :: tm.getD 42 undef :: tm.getD 43 undef :: tm.getD 44 undef :: tm.getD 45 undef :: tm.getD 46 undef :: tm.getD 47 undef :: tm.getD 48 undef :: tm.getD 49 undef :: tm.getD 50 undef :: tm.getD 51 undef :: tm.getD 52 undef :: tm.getD 53 undef :: tm.getD 54 undef :: tm.getD 55 undef :: tm.getD 56 undef :: tm.getD 57 undef :: tm.getD 58 undef :: tm.getD 59 undef :: tm.getD 60 undef :: tm.getD 61 undef :: tm.getD 62 undef :: tm.getD 63 undef :: tm.getD 64 undef :: tm.getD 65 undef :: tm.getD 66 undef :: tm.getD 67 undef :: tm.getD 68 undef :: tm.getD 69 undef :: tm.getD 70 undef :: tm.getD 71 undef :: tm.getD 72 undef :: tm.getD 73 undef :: tm.getD 74 undef :: tm.getD 75 undef :: tm.getD 76 undef :: tm.getD 77 undef :: tm.getD 78 undef :: tm.getD 79 undef :: tm.getD 80 undef :: tm.getD 81 undef :: tm.getD 82 undef :: tm.getD 83 undef :: tm.getD 84 undef :: tm.getD 85 undef :: tm.getD 86 undef :: tm.getD 87 undef :: tm.getD 88 undef :: tm.getD 89 undef :: tm.getD 90 undef :: tm.getD 91 undef :: tm.getD 92 undef :: tm.getD 93 undef :: tm.getD 94 undef :: tm.getD 95 undef :: tm.getD 96 undef :: tm.getD 97 undef :: tm.getD 98 undef :: tm.getD 99 undef :: tm.getD 100 undef :: tm.getD 101 undef :: tm.getD 102 undef :: tm.getD 103 undef :: tm.getD 104 undef :: tm.getD 105 undef :: tm.getD 106 undef :: tm.getD 107 undef :: []) := arr_eq tm 108 hsz
      rw [d0, d2, d4, d6, d8, d9, d11] at e
      clear d0 d2 d4 d6 d8 d9 d11 hsz
      generalize tm.getD 1 undef = v1 at e
      generalize tm.getD 3 undef = v3 at e
      generalize tm.getD 5 undef = v5 at e
      generalize tm.getD 7 undef = v7 at e
      generalize tm.getD 10 undef = v10 at e
      generalize tm.getD 12 undef = v12 at e
      generalize tm.getD 13 undef = v13 at e
      generalize tm.getD 14 undef = v14 at e
      generalize tm.getD 15 undef = v15 at e
      generalize tm.getD 16 undef = v16 at e
      generalize tm.getD 17 undef = v17 at e
      generalize tm.getD 18 undef = v18 at e
      generalize tm.getD 19 undef = v19 at e
      generalize tm.getD 20 undef = v20 at e
      generalize tm.getD 21 undef = v21 at e
      generalize tm.getD 22 undef = v22 at e
      generalize tm.getD 23 undef = v23 at e
      generalize tm.getD 24 undef = v24 at e
      generalize tm.getD 25 undef = v25 at e
      generalize tm.getD 26 undef = v26 at e
      generalize tm.getD 27 undef = v27 at e
      generalize tm.getD 28 undef = v28 at e
      generalize tm.getD 29 undef = v29 at e
      generalize tm.getD 30 undef = v30 at e
      generalize tm.getD 31 undef = v31 at e
      generalize tm.getD 32 undef = v32 at e
      generalize tm.getD 33 undef = v33 at e
      generalize tm.getD 34 undef = v34 at e
      generalize tm.getD 35 undef = v35 at e
      generalize tm.getD 36 undef = v36 at e
      generalize tm.getD 37 undef = v37 at e
      generalize tm.getD 38 undef = v38 at e
      generalize tm.getD 39 undef = v39 at e
      generalize tm.getD 40 undef = v40 at e
      generalize tm.getD 41 undef = v41 at e
      generalize tm.getD 42 undef = v42 at e
      generalize tm.getD 43 undef = v43 at e
      generalize tm.getD 44 undef = v44 at e
      generalize tm.getD 45 undef = v45 at e
      generalize tm.getD 46 undef = v46 at e
      generalize tm.getD 47 undef = v47 at e
      generalize tm.getD 48 undef = v48 at e
      generalize tm.getD 49 undef = v49 at e
      generalize tm.getD 50 undef = v50 at e
      generalize tm.getD 51 undef = v51 at e
      generalize tm.getD 52 undef = v52 at e
      generalize tm.getD 53 undef = v53 at e
      generalize tm.getD 54 undef = v54 at e
      generalize tm.getD 55 undef = v55 at e
      generalize tm.getD 56 undef = v56 at e
      generalize tm.getD 57 undef = v57 at e
      generalize tm.getD 58 undef = v58 at e
      generalize tm.getD 59 undef = v59 at e
      generalize tm.getD 60 undef = v60 at e
      generalize tm.getD 61 undef = v61 at e
      generalize tm.getD 62 undef = v62 at e
      generalize tm.getD 63 undef = v63 at e
      generalize tm.getD 64 undef = v64 at e
      generalize tm.getD 65 undef = v65 at e
      generalize tm.getD 66 undef = v66 at e
      generalize tm.getD 67 undef = v67 at e
      generalize tm.getD 68 undef = v68 at e
      generalize tm.getD 69 undef = v69 at e
      generalize tm.getD 70 undef = v70 at e
      generalize tm.getD 71 undef = v71 at e
      generalize tm.getD 72 undef = v72 at e
      generalize tm.getD 73 undef = v73 at e
      generalize tm.getD 74 undef = v74 at e
      generalize tm.getD 75 undef = v75 at e
      generalize tm.getD 76 undef = v76 at e
      generalize tm.getD 77 undef = v77 at e
      generalize tm.getD 78 undef = v78 at e
      generalize tm.getD 79 undef = v79 at e
      generalize tm.getD 80 undef = v80 at e
      generalize tm.getD 81 undef = v81 at e
      generalize tm.getD 82 undef = v82 at e
      generalize tm.getD 83 undef = v83 at e
      generalize tm.getD 84 undef = v84 at e
      generalize tm.getD 85 undef = v85 at e
      generalize tm.getD 86 undef = v86 at e
      generalize tm.getD 87 undef = v87 at e
      generalize tm.getD 88 undef = v88 at e
      generalize tm.getD 89 undef = v89 at e
      generalize tm.getD 90 undef = v90 at e
      generalize tm.getD 91 undef = v91 at e
      generalize tm.getD 92 undef = v92 at e
      generalize tm.getD 93 undef = v93 at e
      generalize tm.getD 94 undef = v94 at e
      generalize tm.getD 95 undef = v95 at e
      generalize tm.getD 96 undef = v96 at e
      generalize tm.getD 97 undef = v97 at e
      generalize tm.getD 98 undef = v98 at e
      generalize tm.getD 99 undef = v99 at e
      generalize tm.getD 100 undef = v100 at e
      generalize tm.getD 101 undef = v101 at e
      generalize tm.getD 102 undef = v102 at e
      generalize tm.getD 103 undef = v103 at e
      generalize tm.getD 104 undef = v104 at e
      generalize tm.getD 105 undef = v105 at e
      generalize tm.getD 106 undef = v106 at e
      generalize tm.getD 107 undef = v107 at e
      subst e
      have HO8 := Lib.hid (HO7.out.call hC)
      have HL8 := Lib.hid (HL7.out.call hC)
      have HQ8 := Lib.hid (HQ7.out.call hC)
      have HM8 := Lib.hid (HM7.out.call hC)
      have HA8 := Lib.hid (HA7.out.trans (hC.mono HA7.out.size))
      clear hval hC
      go_upto_region 10 with (fail)
      refine wp_region_in2 (by kernel_rfl) (fun w W => Below w.heap.size w W) (fun W1 => Below W.heap.size W W1) (prs10V b S ZS) (fun _ => false) (by kernel_rfl) (fun _ _ hR hc => hc.trans (hR.mono hc.size)) (prs10V_keep b S ZS) ((Below.refl _ _).drew) ⟨?_, ?_, ?_, ?_, ?_, ?_, ?_, ?_, ?_, ?_, ?_, ?_, trivial⟩ ?_
      · intro a W hc hsz hold hdep hnot
        have o11 : a.tmps.getD 11 undef = .bool true := hnot 11 _ 11 rfl rfl (by kernel_rfl)
        clear hsz hold hdep hnot
        refine stepR_do rfl (wanted_none rfl) ?_
        refine stepR_val (v := .bool true) (Below.refl _ _) rfl fun K hK => ?_
        go_simp
        exact hK
      · intro a W hc hsz hold hdep hnot
        have d0 : a.tmps.getD 52 undef = .bool true := hdep 0 (by kernel_rfl) rfl _ rfl
        clear hsz hold hdep hnot
        refine stepR_do rfl (wanted_none rfl) ?_
        refine stepR_val (v := .bool true) (Below.refl _ _) rfl fun K hK => ?_
        go_simp
        exact hK
      · intro a W hc hsz hold hdep hnot
        have o0 : a.tmps.getD 0 undef = .string S := hold 0 (by kernel_rfl)
        have g2 : a.tmps.getD 53 undef = .bool true := hdep 1 (by kernel_rfl) rfl _ rfl
        clear hsz hold hdep hnot
        refine stepR_do rfl ((wanted_of (want := true) rfl rfl g2).trans rfl) ?_
        clear g2
        refine stepR_val (v := .string S) (Below.refl _ _) rfl fun K hK => ?_
        go_simp
        exact hK
      · intro a W hc hsz hold hdep hnot
        have o6 : a.tmps.getD 6 undef = .pointer (some ⟨b, 0, none⟩) := hold 6 (by kernel_rfl)
        have g3 : a.tmps.getD 53 undef = .bool true := hdep 1 (by kernel_rfl) rfl _ rfl
        have q0 := (HL8.out.call hc).cell (i := 0) rfl
        have q1 := (HL8.out.call hc).cell (i := 1) rfl
        have q2 := (HL8.out.call hc).cell (i := 2) rfl
        have q3 := (HL8.out.call hc).cell (i := 3) rfl
        clear hsz hold hdep hnot
        refine stepR_do rfl ((wanted_of (want := true) rfl rfl g3).trans rfl) ?_
        clear g3
        refine stepR_val (v := .agg #[.int .u8 1, .int .i64 16, .int .i64 2048, .int .i64 0]) (Below.refl _ _) rfl fun K hK => ?_
        go_simp
        exact hK
      · intro a W hc hsz hold hdep hnot
        have d3 : a.tmps.getD 55 undef = .agg #[.int .u8 1, .int .i64 16, .int .i64 2048, .int .i64 0] := hdep 3 (by kernel_rfl) rfl _ rfl
        have e3 : a.tmps[55]?.getD undef = .agg #[.int .u8 1, .int .i64 16, .int .i64 2048, .int .i64 0] := by rw [← Array.getD_eq_getD_getElem?]; exact d3
        have g4 : a.tmps.getD 53 undef = .bool true := hdep 1 (by kernel_rfl) rfl _ rfl
        clear hsz hold hdep hnot
        refine stepR_do rfl ((wanted_of (want := true) rfl rfl g4).trans rfl) ?_
        clear g4
        refine stepR_call (v := .int .i64 2064) (fun W' hb => hb) (fun _ => rfl) fun K hK => ?_
        go_simp
        refine (HE.out W).mono ?_
        rintro e w' ⟨rfl, hb'⟩
        exact hK _ hb'
      · intro a W hc hsz hold hdep hnot
        have d4 : a.tmps.getD 56 undef = .int .i64 2064 := hdep 4 (by kernel_rfl) rfl _ rfl
        have g5 : a.tmps.getD 53 undef = .bool true := hdep 1 (by kernel_rfl) rfl _ rfl
        clear hsz hold hdep hnot
        refine stepR_do rfl ((wanted_of (want := true) rfl rfl g5).trans rfl) ?_
        clear g5
        refine stepR_val (v := .int .i64 2068) (Below.refl _ _) rfl fun K hK => ?_
        go_simp
        exact hK
      · intro a W hc hsz hold hdep hnot
        have d2 : a.tmps.getD 54 undef = .string S := hdep 2 (by kernel_rfl) rfl _ rfl
        have d5 : a.tmps.getD 57 undef = .int .i64 2068 := hdep 5 (by kernel_rfl) rfl _ rfl
        have g6 : a.tmps.getD 53 undef = .bool true := hdep 1 (by kernel_rfl) rfl _ rfl
        have q := s3
        clear hsz hold hdep hnot
        refine stepR_do rfl ((wanted_of (want := true) rfl rfl g6).trans rfl) ?_
        clear g6
        refine stepR_val (v := .string ZS) (Below.refl _ _) rfl fun K hK => ?_
        go_simp
        exact hK
      · intro a W hc hsz hold hdep hnot
        have g7 : a.tmps.getD 53 undef = .bool true := hdep 1 (by kernel_rfl) rfl _ rfl
        clear hsz hold hdep hnot
        refine stepR_do rfl ((wanted_of (want := true) rfl rfl g7).trans rfl) ?_
        obtain ⟨i0, hi, hz0, hz1, hz2⟩ := info_parts Tryz.infoU8s
        obtain ⟨W', hrun, r1, r2⟩ := run_make_full (P := Tryz.prog) (w := W) W.heap.size 123 5 i0 _ 1 Tryz.underlying123 hi hz0 hz1 .i64 .i64 8 (by rw [hz2]; omega) (by unfold maxLen; omega) (Nat.le_refl _)
        have hbW : Below W.heap.size W W' := (Below.refl _ _).grown r2 (Nat.le_refl _) (fun k hk => by cases hk)
        refine stepR_new (v := .slice (some ⟨W.heap.size, 0, none⟩) 8 8) hbW ⟨_, rfl, Bx.ofOwn (own_zeros r1)⟩ fun K hK => ?_
        clear hc r1 r2
        unfold Oper.wp
        rw [show ((8 : Nat) : Int) = 8 from rfl] at hrun
        simp [execOp, Act.eval, hrun, Result.andThen]
        exact hK
      · intro a W hc hsz hold hdep hnot
        have x7 := hdep 7 (by kernel_rfl) rfl _ rfl
        have g8 : a.tmps.getD 53 undef = .bool true := hdep 1 (by kernel_rfl) rfl _ rfl
        clear hsz hold hdep hnot
        refine stepR_do rfl ((wanted_of (want := true) rfl rfl g8).trans rfl) ?_
        obtain ⟨g, d7, hN⟩ := x7
        replace d7 : a.tmps.getD 59 undef = .slice (some ⟨g, 0, none⟩) 8 8 := d7
        have hst := run_str (dst := 9) Tryz.underlying123 Tryz.underlying5 Tryz.underlying9 (Rd.ofBx hN (by simp))
        replace hst : (convert 123 9 (.slice (some ⟨g, 0, none⟩) 8 8)).run Tryz.prog W = .ok (.string (str (List.replicate 8 0))) W := hst
        rw [← HZ.out, ← HZS.out] at hst
        clear hN
        refine stepR_val (v := .string ZS) (Below.refl _ _) rfl fun K hK => ?_
        go_simp
        exact hK
      · intro a W hc hsz hold hdep hnot
        have d6 : a.tmps.getD 58 undef = .string ZS := hdep 6 (by kernel_rfl) rfl _ rfl
        have d8 : a.tmps.getD 60 undef = .string ZS := hdep 8 (by kernel_rfl) rfl _ rfl
        have g9 : a.tmps.getD 53 undef = .bool true := hdep 1 (by kernel_rfl) rfl _ rfl
        clear hsz hold hdep hnot
        refine stepR_do rfl ((wanted_of (want := true) rfl rfl g9).trans rfl) ?_
        clear g9
        refine stepR_val (v := .bool true) (Below.refl _ _) rfl fun K hK => ?_
        go_simp
        exact hK
      · intro a W hc hsz hold hdep hnot
        have d1 : a.tmps.getD 53 undef = .bool true := hdep 1 (by kernel_rfl) rfl _ rfl
        have d9 : a.tmps.getD 61 undef = .bool true := hdep 9 (by kernel_rfl) rfl _ rfl
        clear hsz hold hdep hnot
        refine stepR_do rfl (wanted_none rfl) ?_
        refine stepR_val (v := .bool true) (Below.refl _ _) rfl fun K hK => ?_
        go_simp
        exact hK
      · intro a W hc hsz hold hdep hnot
        have d10 : a.tmps.getD 62 undef = .bool true := hdep 10 (by kernel_rfl) rfl _ rfl
        clear hsz hold hdep hnot
        refine stepR_do rfl (wanted_none rfl) ?_
        refine stepR_val (v := .bool true) (Below.refl _ _) rfl fun K hK => ?_
        go_simp
        exact hK
      · intro a W hC hd hsz hold hval
        have d0 : a.tmps.getD 0 undef = .string S := hold 0 (by kernel_rfl)
        have d2 : a.tmps.getD 2 undef = .pointer (some ⟨ob, 0, none⟩) := hold 2 (by kernel_rfl)
        have d8 : a.tmps.getD 8 undef = .pointer (some ⟨gq, 0, none⟩) := hold 8 (by kernel_rfl)
        have d9 : a.tmps.getD 9 undef = .pointer (some ⟨bm, 0, none⟩) := hold 9 (by kernel_rfl)
        have d11 : a.tmps.getD 11 undef = .bool true := hval 11 _ rfl rfl
        clear hold
        obtain ⟨tm, df⟩ := a
        replace hd : df = [] := hd
        replace hsz : tm.size = 108 := hsz
        replace d0 : tm.getD 0 undef = .string S := d0
        replace d2 : tm.getD 2 undef = .pointer (some ⟨ob, 0, none⟩) := d2
        replace d8 : tm.getD 8 undef = .pointer (some ⟨gq, 0, none⟩) := d8
        replace d9 : tm.getD 9 undef = .pointer (some ⟨bm, 0, none⟩) := d9
        replace d11 : tm.getD 11 undef = .bool true := d11
        subst hd
        have e : tm = List.toArray (tm.getD 0 undef :: tm.getD 1 undef :: tm.getD 2 undef :: tm.getD 3 undef :: tm.getD 4 undef :: tm.getD 5 undef :: tm.getD 6 undef :: tm.getD 7 undef :: tm.getD 8 undef :: tm.getD 9 undef :: tm.getD 10 undef :: tm.getD 11 undef :: tm.getD 12 undef :: tm.getD 13 undef :: tm.getD 14 undef :: tm.getD 15 undef :: tm.getD 16 undef :: tm.getD 17 undef :: tm.getD 18 undef :: tm.getD 19 undef :: tm.getD 20 undef :: tm.getD 21 undef :: tm.getD 22 undef :: tm.getD 23 undef :: tm.getD 24 undef :: tm.getD 25 undef :: tm.getD 26 undef :: tm.getD 27 undef :: tm.getD 28 undef :: tm.getD 29 undef :: tm.getD 30 undef :: tm.getD 31 undef :: tm.getD 32 undef :: tm.getD 33 undef :: tm.getD 34 undef :: tm.getD 35 undef :: tm.getD 36 undef :: tm.getD 37 undef :: tm.getD 38 undef :: tm.getD 39 undef :: tm.getD 40 undef :: tm.getD 41 undef :: tm.getD 42 undef :: tm.getD 43 undef :: tm.getD 44 undef :: tm.getD 45 undef :: tm.getD 46 undef :: tm.getD 47 undef :: tm.getD 48 undef :: tm.getD 49 undef :: tm.getD 50 undef :: tm.getD 51 undef :: tm.getD 52 undef :: tm.getD 53 undef :: tm.getD 54 undef :: tm.getD 55 undef :: tm.getD 56 undef :: tm.getD 57 undef :: tm.getD 58 undef :: tm.getD 59 undef :: tm.getD 60 undef :: tm.getD 61 undef :: tm.getD 62 undef :: tm.getD 63 undef :: tm.getD 64 undef :: tm.getD 65 undef :: tm.getD 66 undef :: tm.getD 67 undef :: tm.getD 68 undef :: tm.getD 69 undef :: tm.getD 70 undef :: tm.getD 71 undef :: tm.getD 72 undef :: tm.getD 73 undef :: tm.getD 74 undef :: tm.getD 75 undef :: tm.getD 76 undef :: tm.getD 77 undef :: tm.getD 78 undef :: tm.getD 79 undef :: tm.getD 80 undef :: tm.getD 81 undef :: tm.getD 82 undef :: tm.getD 83 undef :: tm.getD 84 undef :: tm.getD 85 undef :: tm.getD 86 undef :: tm.getD 87 undef :: tm.getD 88 undef :: tm.getD 89 undef :: tm.getD 90 undef :: tm.getD 91 undef :: tm.getD 92 undef :: tm.getD 93 undef :: tm.getD 94 undef :: tm.getD 95 undef :: tm.getD 96 undef :: tm.getD 97 undef :: tm.getD 98 undef :: tm.getD 99 undef :: tm.getD 100 undef :: tm.getD 101 undef :: tm.getD 102 undef :: tm.getD 103 undef :: tm.getD 104 undef :: tm.getD 105 undef :: tm.getD 106 undef :: tm.getD 107 undef :: []) := arr_eq tm 108 hsz
        rw [d0, d2, d8, d9, d11] at e
        clear d0 d2 d8 d9 d11 hsz
        generalize tm.getD 1 undef = v1 at e
        generalize tm.getD 3 undef = v3 at e
        generalize tm.getD 4 undef = v4 at e
        generalize tm.getD 5 undef = v5 at e
        generalize tm.getD 6 undef = v6 at e
        generalize tm.getD 7 undef = v7 at e
        generalize tm.getD 10 undef = v10 at e
        generalize tm.getD 12 undef = v12 at e
        generalize tm.getD 13 undef = v13 at e
        generalize tm.getD 14 undef = v14 at e
        generalize tm.getD 15 undef = v15 at e
        generalize tm.getD 16 undef = v16 at e
        generalize tm.getD 17 undef = v17 at e
        generalize tm.getD 18 undef = v18 at e
        generalize tm.getD 19 undef = v19 at e
        generalize tm.getD 20 undef = v20 at e
        generalize tm.getD 21 undef = v21 at e
        generalize tm.getD 22 undef = v22 at e
        generalize tm.getD 23 undef = v23 at e
        generalize tm.getD 24 undef = v24 at e
        generalize tm.getD 25 undef = v25 at e
        generalize tm.getD 26 undef = v26 at e
        generalize tm.getD 27 undef = v27 at e
        generalize tm.getD 28 undef = v28 at e
        generalize tm.getD 29 undef = v29 at e
        generalize tm.getD 30 undef = v30 at e
        generalize tm.getD 31 undef = v31 at e
        generalize tm.getD 32 undef = v32 at e
        generalize tm.getD 33 undef = v33 at e
        generalize tm.getD 34 undef = v34 at e
        generalize tm.getD 35 undef = v35 at e
        generalize tm.getD 36 undef = v36 at e
        generalize tm.getD 37 undef = v37 at e
        generalize tm.getD 38 undef = v38 at e
        generalize tm.getD 39 undef = v39 at e
        generalize tm.getD 40 undef = v40 at e
        generalize tm.getD 41 undef = v41 at e
        generalize tm.getD 42 undef = v42 at e
        generalize tm.getD 43 undef = v43 at e
        generalize tm.getD 44 undef = v44 at e
        generalize tm.getD 45 undef = v45 at e
        generalize tm.getD 46 undef = v46 at e
        generalize tm.getD 47 undef = v47 at e
        generalize tm.getD 48 undef = v48 at e
        generalize tm.getD 49 undef = v49 at e
        generalize tm.getD 50 undef = v50 at e
        generalize tm.getD 51 undef = v51 at e
        generalize tm.getD 52 undef = v52 at e
        generalize tm.getD 53 undef = v53 at e
        generalize tm.getD 54 undef = v54 at e
        generalize tm.getD 55 undef = v55 at e
        generalize tm.getD 56 undef = v56 at e
        generalize tm.getD 57 undef = v57 at e
        generalize tm.getD 58 undef = v58 at e
        generalize tm.getD 59 undef = v59 at e
        generalize tm.getD 60 undef = v60 at e
        generalize tm.getD 61 undef = v61 at e
        generalize tm.getD 62 undef = v62 at e
        generalize tm.getD 63 undef = v63 at e
        generalize tm.getD 64 undef = v64 at e
        generalize tm.getD 65 undef = v65 at e
        generalize tm.getD 66 undef = v66 at e
        generalize tm.getD 67 undef = v67 at e
        generalize tm.getD 68 undef = v68 at e
        generalize tm.getD 69 undef = v69 at e
        generalize tm.getD 70 undef = v70 at e
        generalize tm.getD 71 undef = v71 at e
        generalize tm.getD 72 undef = v72 at e
        generalize tm.getD 73 undef = v73 at e
        generalize tm.getD 74 undef = v74 at e
        generalize tm.getD 75 undef = v75 at e
        generalize tm.getD 76 undef = v76 at e
        generalize tm.getD 77 undef = v77 at e
        generalize tm.getD 78 undef = v78 at e
        generalize tm.getD 79 undef = v79 at e
        generalize tm.getD 80 undef = v80 at e
        generalize tm.getD 81 undef = v81 at e
        generalize tm.getD 82 undef = v82 at e
        generalize tm.getD 83 undef = v83 at e
        generalize tm.getD 84 undef = v84 at e
        generalize tm.getD 85 undef = v85 at e
        generalize tm.getD 86 undef = v86 at e
        generalize tm.getD 87 undef = v87 at e
        generalize tm.getD 88 undef = v88 at e
        generalize tm.getD 89 undef = v89 at e
        generalize tm.getD 90 undef = v90 at e
        generalize tm.getD 91 undef = v91 at e
        generalize tm.getD 92 undef = v92 at e
        generalize tm.getD 93 undef = v93 at e
        generalize tm.getD 94 undef = v94 at e
        generalize tm.getD 95 undef = v95 at e
        generalize tm.getD 96 undef = v96 at e
        generalize tm.getD 97 undef = v97 at e
        generalize tm.getD 98 undef = v98 at e
        generalize tm.getD 99 undef = v99 at e
        generalize tm.getD 100 undef = v100 at e
        generalize tm.getD 101 undef = v101 at e
        generalize tm.getD 102 undef = v102 at e
        generalize tm.getD 103 undef = v103 at e
        generalize tm.getD 104 undef = v104 at e
        generalize tm.getD 105 undef = v105 at e
        generalize tm.getD 106 undef = v106 at e
        generalize tm.getD 107 undef = v107 at e
        subst e
        have HOa := Lib.hid (HO8.out.call hC)
        have HQa := Lib.hid (HQ8.out.call hC)
        have HMa := Lib.hid (HM8.out.call hC)
        have HAa := Lib.hid (HA8.out.trans (hC.mono HA8.out.size))
        clear hval hC
        go_wp2_with fail
        refine (HCK.out _).mono ?_
        rintro e wb ⟨rfl, hbb⟩
        have HOb := Lib.hid (HOa.out.call hbb)
        have HQb := Lib.hid (HQa.out.call hbb)
        have HMb := Lib.hid (HMa.out.call hbb)
        have HAb := Lib.hid (HAa.out.trans (hbb.mono HAa.out.size))
        clear hbb
        have m0 := HMb.out.cell (i := 0) rfl
        have m1 := HMb.out.cell (i := 1) rfl
        have m2 := HMb.out.cell (i := 2) rfl
        go_upto_region 18 with (fail)
        go_wp2_with fail
        refine (HLB.out _).mono ?_
        rintro e wc ⟨rfl, hbc⟩
        have hQ := HQb.out.call hbc
        have hO := HOb.out.call hbc
        have hle := HAb.out.trans (hbc.mono HAb.out.size)
        clear hbc m0 m1 m2
        have p0 := hQ.cell (i := 0) rfl
        have hf := hQ.free
        have hlt := hQ.lt
        have hgw : w.heap.size ≤ gq := by have h1 := HOG.out; have h2 := HOB.out; omega
        have HQc : Hid (Bx (setN wc gq 0 [.int .i64 lba]) gq 103 [.int .i64 lba, .int .i64 0, .int .i64 0, .int .i64 0, .int .i64 0, .int .i64 0, .string D]) := Lib.hid (hQ.setN [.int .i64 lba] 0)
        have HOc : Hid (Bx (setN wc gq 0 [.int .i64 lba]) ob 103 [.int .i64 0, .int .i64 0, .int .i64 0, .int .i64 0, .int .i64 0, .int .i64 0, .string ⟨#[]⟩]) := Lib.hid (hO.setOther (Nat.ne_of_lt HOG.out))
        have HAc := Lib.hid (Below.setN hgw [.int .i64 lba] 0 hle)
        clear hQ hO hle hgw
        go_upto_region 19 with (fail)
        change Code.wp _ _ _ _ (setN wc gq 0 [.int .i64 lba])
        clear p0 hf hlt
        generalize setN wc gq 0 [.int .i64 lba] = wd at HQc HOc HAc ⊢
        have p0 := HQc.out.cell (i := 0) rfl
        have o0 := HOc.out.cell (i := 0) rfl
        have p1 := HQc.out.cell (i := 1) rfl
        have o1 := HOc.out.cell (i := 1) rfl
        have p2 := HQc.out.cell (i := 2) rfl
        have o2 := HOc.out.cell (i := 2) rfl
        have p3 := HQc.out.cell (i := 3) rfl
        have o3 := HOc.out.cell (i := 3) rfl
        have p4 := HQc.out.cell (i := 4) rfl
        have o4 := HOc.out.cell (i := 4) rfl
        have p5 := HQc.out.cell (i := 5) rfl
        have o5 := HOc.out.cell (i := 5) rfl
        have p6 := HQc.out.cell (i := 6) rfl
        have o6 := HOc.out.cell (i := 6) rfl
        have hf := HOc.out.free
        have hlt := HOc.out.lt
        have how : w.heap.size ≤ ob := Nat.le_of_eq HOB.out.symm
        have hF := HOc.out.setN [.int .i64 lba, .int .i64 0, .int .i64 0, .int .i64 0, .int .i64 0, .int .i64 0, .string D] 0
        have HF := Lib.hid hF
        have HLF := Lib.hid (Below.setN how [.int .i64 lba, .int .i64 0, .int .i64 0, .int .i64 0, .int .i64 0, .int .i64 0, .string D] 0 HAc.out)
        clear hF how
        go_wp2_with fail
        have r0 := HF.out.cell (i := 0) rfl
        have r1 := HF.out.cell (i := 1) rfl
        have r2 := HF.out.cell (i := 2) rfl
        have r3 := HF.out.cell (i := 3) rfl
        have r4 := HF.out.cell (i := 4) rfl
        have r5 := HF.out.cell (i := 5) rfl
        have r6 := HF.out.cell (i := 6) rfl
        simp only [setN, Nat.zero_add, Nat.reduceAdd] at r0 r1 r2 r3 r4 r5 r6
        exact bodyPost_ret (v := .tuple #[.agg #[.int .i64 lba, .int .i64 0, .int .i64 0, .int .i64 0, .int .i64 0, .int .i64 0, .string D], .int .i64 0]) (by simp [results, Tryz.results34, go_sem, r0, r1, r2, r3, r4, r5, r6]) rfl ⟨rfl, HLF.out⟩
end Go.Proofs.YtflmjdjkfognjaaGreat.T7
