/- Chapter 14: Encode of both. -/
import Derived.Test.YtiioojlihapdaaaEnP2
import Derived.Test.YtiioojlihapdaaaIn2
import Derived.Deep.CutBlock
import Derived.Deep.DeepCutAuto
/- Chapter 14: Encode of the reference walked. -/
namespace Go.Proofs.Ytiioojlihapdaaa.E1
open Go.RowKit W10
set_option linter.unusedVariables false

/-- what Encode gives -/
def encodeR (cap q cl : Int) (fin : Bool) (l : List T.Trk) : List UInt8 × Int :=
  if T.validB cap cl fin l = false then ([], 1) else if 0 ≤ q ∧ q ≤ 2147483647 then (encE q cl fin l, 0) else ([], 2)
def EncP (r : List UInt8 × Int) (w : World) (e : Ending) (w' : World) : Prop := e = .returned (.tuple #[.string (str r.1), .int .i64 r.2]) ∧ Below w.heap.size w w'
theorem big14_any (n : Int) (size : Nat) (x : Int) (w : World) (hx : x = size) (h1 : 1 ≤ size) (hs : size ≤ 8) (hn : n ≤ 9223372036854775807) : Calls Try.prog 44 #[.int .i64 n, .int .i64 x] w fun e w' => e = .returned (.string (str (bigR n size).1)) ∧ Below w.heap.size w w' := by
  have HB := Lib.hid (fun W => rbig_any n size x W hx h1 hs hn)
  clear hx
  go_enter Try.func44, Try.ntmps44
  go_wp2_with fail
  refine (HB.out _).mono ?_
  rintro e w1 ⟨rfl, hb⟩
  go_wp2_with fail
  go_ret
  exact ⟨rfl, hb⟩
theorem big14_2 (n : Int) (w : World) (hn : n ≤ 9223372036854775807) : Calls Try.prog 44 #[.int .i64 n, .int .i64 2] w fun e w' => e = .returned (.string (str (b2 n))) ∧ Below w.heap.size w w' := big14_any n 2 2 w rfl (by omega) (by omega) hn
theorem big14_4 (n : Int) (w : World) (hn : n ≤ 9223372036854775807) : Calls Try.prog 44 #[.int .i64 n, .int .i64 4] w fun e w' => e = .returned (.string (str (b4 n))) ∧ Below w.heap.size w w' := big14_any n 4 4 w rfl (by omega) (by omega) hn
def magic : List UInt8 := [80, 77, 65, 49]
theorem magic_len : magic.length = 4 := rfl
def hE1 (q : Int) : List UInt8 := magic ++ b4 q
def hE2 (q cl : Int) : List UInt8 := hE1 q ++ b2 cl
def hE3 (q cl z : Int) : List UInt8 := hE2 q cl ++ b2 z
def hE4 (q cl z n : Int) : List UInt8 := hE3 q cl z ++ b2 n
theorem b2_le (n : Int) : (b2 n).length ≤ 2 := big_le n 2
theorem b4_le (n : Int) : (b4 n).length ≤ 4 := big_le n 4
theorem hE1_le (q : Int) : (hE1 q).length ≤ 8 := by
  have := b4_le q
  unfold hE1 magic
  simp only [List.length_append, List.length_cons, List.length_nil]
  omega
theorem app_le {a b : List UInt8} {m k : Nat} (h1 : a.length ≤ m) (h2 : b.length ≤ k) : (a ++ b).length ≤ m + k := by rw [List.length_append]; omega
theorem hE2_le (q cl : Int) : (hE2 q cl).length ≤ 10 := app_le (hE1_le q) (b2_le cl)
theorem hE3_le (q cl z : Int) : (hE3 q cl z).length ≤ 12 := app_le (hE2_le q cl) (b2_le z)
theorem hE4_le (q cl z n : Int) : (hE4 q cl z n).length ≤ 14 := app_le (hE3_le q cl z) (b2_le n)
def tE1 (S : List UInt8) (x : T.Trk) := S ++ b2 x.num
def tE2 (S : List UInt8) (x : T.Trk) := tE1 S x ++ b2 x.ses
def tE3 (S : List UInt8) (x : T.Trk) := tE2 S x ++ b4 x.st
def tE4 (S : List UInt8) (x : T.Trk) := tE3 S x ++ b4 x.len
def tE5 (S : List UInt8) (x : T.Trk) := tE4 S x ++ b4 x.nx
def tE6 (S : List UInt8) (x : T.Trk) := tE5 S x ++ b2 x.sta
def tE7 (S : List UInt8) (x : T.Trk) := tE6 S x ++ b2 x.pk
theorem tE1_le (S : List UInt8) (x : T.Trk) : (tE1 S x).length ≤ S.length + 2 := app_le (Nat.le_refl _) (b2_le _)
theorem tE2_le (S : List UInt8) (x : T.Trk) : (tE2 S x).length ≤ S.length + 4 := Nat.le_trans (app_le (tE1_le S x) (b2_le _)) (by omega)
theorem tE3_le (S : List UInt8) (x : T.Trk) : (tE3 S x).length ≤ S.length + 8 := Nat.le_trans (app_le (tE2_le S x) (b4_le _)) (by omega)
theorem tE4_le (S : List UInt8) (x : T.Trk) : (tE4 S x).length ≤ S.length + 12 := Nat.le_trans (app_le (tE3_le S x) (b4_le _)) (by omega)
theorem tE5_le (S : List UInt8) (x : T.Trk) : (tE5 S x).length ≤ S.length + 16 := Nat.le_trans (app_le (tE4_le S x) (b4_le _)) (by omega)
theorem tE6_le (S : List UInt8) (x : T.Trk) : (tE6 S x).length ≤ S.length + 18 := Nat.le_trans (app_le (tE5_le S x) (b2_le _)) (by omega)
theorem tE7_eq (S : List UInt8) (x : T.Trk) : tE7 S x = S ++ trkE x := by simp [tE7, tE6, tE5, tE4, tE3, tE2, tE1, trkE]
theorem hE4_eq (q cl : Int) (fin : Bool) (l : List T.Trk) : hE4 q cl (fn fin) l.length = part q cl fin l 0 := by simp [hE4, hE3, hE2, hE1, magic, part, headE]
def rEnc8 (gB : Nat) (q cl z : Int) (a : Option Addr) (n c : Nat) (i : Nat) (v : Value) (W : World) : Prop := match i with
  | 0 => v = .int .i64 q
  | 1 => v = .string (str (b4 q))
  | 2 => v = .string (str (hE1 q))
  | 3 => v = .pointer (some ⟨gB, 0, none⟩)
  | 4 => v = .int .i64 cl
  | 5 => v = .string (str (b2 cl))
  | 6 => v = .string (str (hE2 q cl))
  | 7 => v = .int .i64 z
  | 8 => v = .string (str (b2 z))
  | 9 => v = .string (str (hE3 q cl z))
  | 10 => v = .pointer (some ⟨gB, 2, none⟩)
  | 11 => v = .slice a n c
  | 12 => v = .int .i64 n
  | 13 => v = .string (str (b2 n))
  | 14 => v = .string (str (hE4 q cl z n))
  | 15 => v = .string (str (hE4 q cl z n))
  | _ => True
theorem rEnc8_keep (gB : Nat) (q cl z : Int) (a : Option Addr) (n c : Nat) (i : Nat) (v : Value) (W W' : World) (hR : (fun w W => Below w.heap.size w W) W W') (h : rEnc8 gB q cl z a n c i v W) : rEnc8 gB q cl z a n c i v W' := by
  unfold rEnc8 at h ⊢
  split at h <;> first | exact h
def rEnc13 (gX : Nat) (S : List UInt8) (x : T.Trk) (i : Nat) (v : Value) (W : World) : Prop := match i with
  | 0 => v = .string (str (S))
  | 1 => v = .pointer (some ⟨gX, 0, none⟩)
  | 2 => v = .int .i64 x.num
  | 3 => v = .string (str (b2 x.num))
  | 4 => v = .string (str (tE1 S x))
  | 5 => v = .pointer (some ⟨gX, 1, none⟩)
  | 6 => v = .int .i64 x.ses
  | 7 => v = .string (str (b2 x.ses))
  | 8 => v = .string (str (tE2 S x))
  | 9 => v = .pointer (some ⟨gX, 2, none⟩)
  | 10 => v = .int .i64 x.st
  | 11 => v = .string (str (b4 x.st))
  | 12 => v = .string (str (tE3 S x))
  | 13 => v = .pointer (some ⟨gX, 3, none⟩)
  | 14 => v = .int .i64 x.len
  | 15 => v = .string (str (b4 x.len))
  | 16 => v = .string (str (tE4 S x))
  | 17 => v = .pointer (some ⟨gX, 4, none⟩)
  | 18 => v = .int .i64 x.nx
  | 19 => v = .string (str (b4 x.nx))
  | 20 => v = .string (str (tE5 S x))
  | 21 => v = .pointer (some ⟨gX, 5, none⟩)
  | 22 => v = .int .i64 x.sta
  | 23 => v = .string (str (b2 x.sta))
  | 24 => v = .string (str (tE6 S x))
  | 25 => v = .pointer (some ⟨gX, 6, none⟩)
  | 26 => v = .int .i64 x.pk
  | 27 => v = .string (str (b2 x.pk))
  | 28 => v = .string (str (tE7 S x))
  | 29 => v = .string (str (tE7 S x))
  | _ => True
theorem rEnc13_keep (gX : Nat) (S : List UInt8) (x : T.Trk) (i : Nat) (v : Value) (W W' : World) (hR : (fun w W => Below w.heap.size w W) W W') (h : rEnc13 gX S x i v W) : rEnc13 gX S x i v W' := by
  unfold rEnc13 at h ⊢
  split at h <;> first | exact h
/-- the values of a track are int64s -/
def mxT (x : T.Trk) : Prop := x.num ≤ 9223372036854775807 ∧ x.ses ≤ 9223372036854775807 ∧ x.st ≤ 9223372036854775807 ∧ x.len ≤ 9223372036854775807 ∧ x.nx ≤ 9223372036854775807 ∧ x.sta ≤ 9223372036854775807 ∧ x.pk ≤ 9223372036854775807
theorem mxT_of {x : T.Trk} (h : smT x) : mxT x := by
  unfold smT sm at h
  unfold mxT
  refine ⟨?_, ?_, ?_, ?_, ?_, ?_, ?_⟩ <;> omega
set_option maxRecDepth 100000 in
set_option maxHeartbeats 1000000 in
theorem renc_bad (cap q cl : Int) (fin : Bool) (sv : Value) (l : List T.Trk) (w : World) (hv : Hid (∀ W, RdK W sv l → Calls Try.prog 14 #[.int .i64 cap, tval cl fin sv] W (RB false W))) (hr : RdK w sv l) :
    Calls Try.prog 22 #[.int .i64 cap, tval cl fin sv, .int .i64 q] w (EncP ([], 1) w) := by
  have hbe := (Below.refl w.heap.size w).alloc (Nat.le_refl _) (.cells #[.int .i64 cl, .bool fin, sv] 24)
  have HV := Lib.hid (hv.out _ (hr.keep hbe))
  obtain ⟨a, c, rfl, hac⟩ := RdS.form hr
  go_enter Try.func22, Try.ntmps22
  go_wp2_with fail
  refine HV.out.mono ?_
  rintro e w1 ⟨rfl, hb⟩
  go_wp2_with fail
  go_ret2
  exact ⟨rfl, hbe.trans (hb.mono hbe.size)⟩
set_option maxRecDepth 100000 in
set_option maxHeartbeats 1000000 in
theorem renc_range (cap q cl : Int) (fin : Bool) (sv : Value) (l : List T.Trk) (w : World) (hv : Hid (∀ W, RdK W sv l → Calls Try.prog 14 #[.int .i64 cap, tval cl fin sv] W (RB true W))) (hr : RdK w sv l) (hq : ¬ (0 ≤ q ∧ q ≤ 2147483647)) :
    Calls Try.prog 22 #[.int .i64 cap, tval cl fin sv, .int .i64 q] w (EncP ([], 2) w) := by
  have hbe := (Below.refl w.heap.size w).alloc (Nat.le_refl _) (.cells #[.int .i64 cl, .bool fin, sv] 24)
  have HV := Lib.hid (hv.out _ (hr.keep hbe))
  obtain ⟨a, c, rfl, hac⟩ := RdS.form hr
  by_cases h0 : q < 0
  · clear hq
    go_enter Try.func22, Try.ntmps22
    go_wp2_with fail
    refine HV.out.mono ?_
    rintro e w1 ⟨rfl, hb⟩
    go_wp2_with fail
    go_ret2
    exact ⟨rfl, hbe.trans (hb.mono hbe.size)⟩
  · have h1 : 2147483647 < q := by omega
    clear hq
    go_enter Try.func22, Try.ntmps22
    go_wp2_with fail
    refine HV.out.mono ?_
    rintro e w1 ⟨rfl, hb⟩
    go_wp2_with fail
    go_ret2
    exact ⟨rfl, hbe.trans (hb.mono hbe.size)⟩
set_option maxRecDepth 100000 in
set_option maxHeartbeats 4000000 in
theorem renc_true (cap q cl : Int) (sv : Value) (l : List T.Trk) (w : World) (hv : Hid (∀ W, RdK W sv l → Calls Try.prog 14 #[.int .i64 cap, tval cl true sv] W (RB true W))) (hr : RdK w sv l) (hf : Few l) (hq : 0 ≤ q ∧ q ≤ 2147483647) (hcl : cl ≤ 9223372036854775807) :
    Calls Try.prog 22 #[.int .i64 cap, tval cl true sv, .int .i64 q] w (EncP (encE q cl true l, 0) w) := by
  have hbe := (Below.refl w.heap.size w).alloc (Nat.le_refl _) (.cells #[.int .i64 cl, .bool true, sv] 24)
  have hT := Bx.new w 24 [.int .i64 cl, .bool true, sv]
  have HV := Lib.hid (hv.out _ (hr.keep hbe))
  obtain ⟨sa, c, b, off, rfl, hac, hcell⟩ := hr
  have HC := Lib.hid hcell; clear hcell
  have hln := hf.1
  have HF := Lib.hid hf.2
  have hq0 := hq.1
  have hq1 := hq.2
  have hq2 : ¬ q < 0 := by omega
  have hq3 : ¬ 2147483647 < q := by omega
  have HQ : Hid (q ≤ 9223372036854775807 ∧ cl ≤ 9223372036854775807 ∧ (1 : Int) ≤ 9223372036854775807 ∧ (l.length : Int) ≤ 9223372036854775807) := Lib.hid ⟨by omega, hcl, by omega, by omega⟩
  have HP0 := Lib.hid (hE4_eq q cl true l)
  clear hf hq
  go_enter Try.func22, Try.ntmps22
  go_wp2_with fail
  refine HV.out.mono ?_
  rintro e w1 ⟨rfl, hb⟩
  have hle := hbe.trans (hb.mono hbe.size)
  have hT1 : Bx w1 w.heap.size 24 [.int .i64 cl, .bool true, .slice sa l.length c] := hT.call hb
  clear hb hbe hT HV
  obtain ⟨gB, hgB⟩ : ∃ gB, gB = w.heap.size := ⟨_, rfl⟩
  rw [← hgB] at hT1
  simp only [← hgB]
  have HgB := Lib.hid hgB
  clear hgB
  have c1 := hT1.cell (i := 1) rfl
  go_upto_region 8 with (fail)
  clear c1
  refine wp_region_inr (by kernel_rfl) (fun w W => Below w.heap.size w W) (fun W => Below w.heap.size w W ∧ Bx W gB 24 [.int .i64 cl, .bool true, .slice sa l.length c] ∧ True) (rEnc8 gB q cl 1 sa l.length c) (fun _ => false) (by kernel_rfl) (fun W W' hb h => ⟨h.1.trans (hb.mono h.1.size), h.2.1.call hb, trivial⟩) (rEnc8_keep gB q cl 1 sa l.length c) (⟨hle.drew, hT1, trivial⟩) ⟨?_, ?_, ?_, ?_, ?_, ?_, ?_, ?_, ?_, ?_, ?_, ?_, ?_, ?_, ?_, ?_, trivial⟩ ?_
  · intro a W hc hsz hold hdep
    have o2 : a.tmps.getD 2 undef = .int .i64 q := hold 2 (by kernel_rfl)
    clear hsz hold hdep
    refine stepR_do rfl (wanted_none rfl) ?_
    refine stepR_val (v := .int .i64 q) (Below.refl _ _) rfl fun K hK => ?_
    go_simp
    exact hK
  · intro a W hc hsz hold hdep
    have d0 : a.tmps.getD 24 undef = .int .i64 q := hdep 0 (by kernel_rfl) rfl _ rfl
    have e0 : a.tmps[24]?.getD undef = .int .i64 q := by rw [← Array.getD_eq_getD_getElem?]; exact d0
    clear hsz hold hdep
    refine stepR_do rfl (wanted_none rfl) ?_
    refine stepR_call (v := .string (str (b4 q))) (fun W' hb => hb) (fun _ => rfl) fun K hK => ?_
    go_simp
    refine (big14_4 _ _ HQ.out.1).mono ?_
    rintro e w' ⟨rfl, hb'⟩
    exact hK _ hb'
  · intro a W hc hsz hold hdep
    have d1 : a.tmps.getD 25 undef = .string (str (b4 q)) := hdep 1 (by kernel_rfl) rfl _ rfl
    have s1 := str_size (magic)
    have s2 := str_size (b4 q)
    have hnl : ¬ 9223372036854775807 < (magic).length + (b4 q).length := by
      have q1 := magic_len
      have q2 := b4_le q
      omega
    have ap : str (magic) ++ str (b4 q) = str (hE1 q) := str_app _ _
    have em : (⟨#[80, 77, 65, 49]⟩ : ByteArray) = str magic := rfl
    clear hsz hold hdep
    refine stepR_do rfl (wanted_none rfl) ?_
    refine stepR_val (v := .string (str (hE1 q))) (Below.refl _ _) rfl fun K hK => ?_
    go_simp
    exact hK
  · intro a W hc hsz hold hdep
    have o4 : a.tmps.getD 4 undef = .pointer (some ⟨gB, 0, none⟩) := hold 4 (by kernel_rfl)
    clear hsz hold hdep
    refine stepR_do rfl (wanted_none rfl) ?_
    refine stepR_val (v := .pointer (some ⟨gB, 0, none⟩)) (Below.refl _ _) rfl fun K hK => ?_
    go_simp
    exact hK
  · intro a W hc hsz hold hdep
    have d3 : a.tmps.getD 27 undef = .pointer (some ⟨gB, 0, none⟩) := hdep 3 (by kernel_rfl) rfl _ rfl
    have c0 := hc.2.1.cell (i := 0) rfl
    clear hsz hold hdep
    refine stepR_do rfl (wanted_none rfl) ?_
    refine stepR_val (v := .int .i64 cl) (Below.refl _ _) rfl fun K hK => ?_
    go_simp
    exact hK
  · intro a W hc hsz hold hdep
    have d4 : a.tmps.getD 28 undef = .int .i64 cl := hdep 4 (by kernel_rfl) rfl _ rfl
    have e4 : a.tmps[28]?.getD undef = .int .i64 cl := by rw [← Array.getD_eq_getD_getElem?]; exact d4
    clear hsz hold hdep
    refine stepR_do rfl (wanted_none rfl) ?_
    refine stepR_call (v := .string (str (b2 cl))) (fun W' hb => hb) (fun _ => rfl) fun K hK => ?_
    go_simp
    refine (big14_2 _ _ HQ.out.2.1).mono ?_
    rintro e w' ⟨rfl, hb'⟩
    exact hK _ hb'
  · intro a W hc hsz hold hdep
    have d2 : a.tmps.getD 26 undef = .string (str (hE1 q)) := hdep 2 (by kernel_rfl) rfl _ rfl
    have d5 : a.tmps.getD 29 undef = .string (str (b2 cl)) := hdep 5 (by kernel_rfl) rfl _ rfl
    have s1 := str_size (hE1 q)
    have s2 := str_size (b2 cl)
    have hnl : ¬ 9223372036854775807 < (hE1 q).length + (b2 cl).length := by
      have q1 := hE1_le q
      have q2 := b2_le cl
      omega
    have ap : str (hE1 q) ++ str (b2 cl) = str (hE2 q cl) := str_app _ _
    clear hsz hold hdep
    refine stepR_do rfl (wanted_none rfl) ?_
    refine stepR_val (v := .string (str (hE2 q cl))) (Below.refl _ _) rfl fun K hK => ?_
    go_simp
    exact hK
  · intro a W hc hsz hold hdep
    have o8 : a.tmps.getD 8 undef = .int .i64 1 := hold 8 (by kernel_rfl)
    clear hsz hold hdep
    refine stepR_do rfl (wanted_none rfl) ?_
    refine stepR_val (v := .int .i64 1) (Below.refl _ _) rfl fun K hK => ?_
    go_simp
    exact hK
  · intro a W hc hsz hold hdep
    have d7 : a.tmps.getD 31 undef = .int .i64 1 := hdep 7 (by kernel_rfl) rfl _ rfl
    have e7 : a.tmps[31]?.getD undef = .int .i64 1 := by rw [← Array.getD_eq_getD_getElem?]; exact d7
    clear hsz hold hdep
    refine stepR_do rfl (wanted_none rfl) ?_
    refine stepR_call (v := .string (str (b2 1))) (fun W' hb => hb) (fun _ => rfl) fun K hK => ?_
    go_simp
    refine (big14_2 _ _ HQ.out.2.2.1).mono ?_
    rintro e w' ⟨rfl, hb'⟩
    exact hK _ hb'
  · intro a W hc hsz hold hdep
    have d6 : a.tmps.getD 30 undef = .string (str (hE2 q cl)) := hdep 6 (by kernel_rfl) rfl _ rfl
    have d8 : a.tmps.getD 32 undef = .string (str (b2 1)) := hdep 8 (by kernel_rfl) rfl _ rfl
    have s1 := str_size (hE2 q cl)
    have s2 := str_size (b2 1)
    have hnl : ¬ 9223372036854775807 < (hE2 q cl).length + (b2 1).length := by
      have q1 := hE2_le q cl
      have q2 := b2_le 1
      omega
    have ap : str (hE2 q cl) ++ str (b2 1) = str (hE3 q cl 1) := str_app _ _
    clear hsz hold hdep
    refine stepR_do rfl (wanted_none rfl) ?_
    refine stepR_val (v := .string (str (hE3 q cl 1))) (Below.refl _ _) rfl fun K hK => ?_
    go_simp
    exact hK
  · intro a W hc hsz hold hdep
    have o4 : a.tmps.getD 4 undef = .pointer (some ⟨gB, 0, none⟩) := hold 4 (by kernel_rfl)
    clear hsz hold hdep
    refine stepR_do rfl (wanted_none rfl) ?_
    refine stepR_val (v := .pointer (some ⟨gB, 2, none⟩)) (Below.refl _ _) rfl fun K hK => ?_
    go_simp
    exact hK
  · intro a W hc hsz hold hdep
    have d10 : a.tmps.getD 34 undef = .pointer (some ⟨gB, 2, none⟩) := hdep 10 (by kernel_rfl) rfl _ rfl
    have c2 := hc.2.1.cell (i := 2) rfl
    clear hsz hold hdep
    refine stepR_do rfl (wanted_none rfl) ?_
    refine stepR_val (v := .slice sa l.length c) (Below.refl _ _) rfl fun K hK => ?_
    go_simp
    exact hK
  · intro a W hc hsz hold hdep
    have d11 : a.tmps.getD 35 undef = .slice sa l.length c := hdep 11 (by kernel_rfl) rfl _ rfl
    have e11 : a.tmps[35]?.getD undef = .slice sa l.length c := by rw [← Array.getD_eq_getD_getElem?]; exact d11
    clear hsz hold hdep
    refine stepR_do rfl (wanted_none rfl) ?_
    refine stepR_val (v := .int .i64 l.length) (Below.refl _ _) rfl fun K hK => ?_
    go_simp
    exact hK
  · intro a W hc hsz hold hdep
    have d12 : a.tmps.getD 36 undef = .int .i64 l.length := hdep 12 (by kernel_rfl) rfl _ rfl
    have e12 : a.tmps[36]?.getD undef = .int .i64 l.length := by rw [← Array.getD_eq_getD_getElem?]; exact d12
    clear hsz hold hdep
    refine stepR_do rfl (wanted_none rfl) ?_
    refine stepR_call (v := .string (str (b2 l.length))) (fun W' hb => hb) (fun _ => rfl) fun K hK => ?_
    go_simp
    refine (big14_2 _ _ HQ.out.2.2.2).mono ?_
    rintro e w' ⟨rfl, hb'⟩
    exact hK _ hb'
  · intro a W hc hsz hold hdep
    have d9 : a.tmps.getD 33 undef = .string (str (hE3 q cl 1)) := hdep 9 (by kernel_rfl) rfl _ rfl
    have d13 : a.tmps.getD 37 undef = .string (str (b2 l.length)) := hdep 13 (by kernel_rfl) rfl _ rfl
    have s1 := str_size (hE3 q cl 1)
    have s2 := str_size (b2 l.length)
    have hnl : ¬ 9223372036854775807 < (hE3 q cl 1).length + (b2 l.length).length := by
      have q1 := hE3_le q cl 1
      have q2 := b2_le l.length
      omega
    have ap : str (hE3 q cl 1) ++ str (b2 l.length) = str (hE4 q cl 1 l.length) := str_app _ _
    clear hsz hold hdep
    refine stepR_do rfl (wanted_none rfl) ?_
    refine stepR_val (v := .string (str (hE4 q cl 1 l.length))) (Below.refl _ _) rfl fun K hK => ?_
    go_simp
    exact hK
  · intro a W hc hsz hold hdep
    have d14 : a.tmps.getD 38 undef = .string (str (hE4 q cl 1 l.length)) := hdep 14 (by kernel_rfl) rfl _ rfl
    clear hsz hold hdep
    refine stepR_do rfl (wanted_none rfl) ?_
    refine stepR_val (v := .string (str (hE4 q cl 1 l.length))) (Below.refl _ _) rfl fun K hK => ?_
    go_simp
    exact hK
  · intro a W hC hd hsz hold hval
    have d9 : a.tmps.getD 9 undef = .string (str (hE4 q cl 1 l.length)) := hval 15 _ rfl rfl
    have d4 : a.tmps.getD 4 undef = .pointer (some ⟨gB, 0, none⟩) := hold 4 (by kernel_rfl)
    clear hold
    obtain ⟨tm, df⟩ := a
    replace hd : df = [] := hd
    replace hsz : tm.size = 85 := hsz
    replace d9 : tm.getD 9 undef = .string (str (hE4 q cl 1 l.length)) := d9
    replace d4 : tm.getD 4 undef = .pointer (some ⟨gB, 0, none⟩) := d4
    subst hd
    have e : tm = List.toArray (tm.getD 0 undef :: tm.getD 1 undef :: tm.getD 2 undef :: tm.getD 3 undef :: tm.getD 4 undef :: tm.getD 5 undef :: tm.getD 6 undef :: tm.getD 7 undef :: tm.getD 8 undef :: tm.getD 9 undef :: tm.getD 10 undef :: tm.getD 11 undef :: tm.getD 12 undef :: tm.getD 13 undef :: tm.getD 14 undef :: tm.getD 15 undef :: tm.getD 16 undef :: tm.getD 17 undef :: tm.getD 18 undef :: tm.getD 19 undef :: tm.getD 20 undef :: tm.getD 21 undef :: tm.getD 22 undef :: tm.getD 23 undef :: tm.getD 24 undef :: tm.getD 25 undef :: tm.getD 26 undef :: tm.getD 27 undef :: tm.getD 28 undef :: tm.getD 29 undef :: tm.getD 30 undef :: tm.getD 31 undef :: tm.getD 32 undef :: tm.getD 33 undef :: tm.getD 34 undef :: tm.getD 35 undef :: tm.getD 36 undef :: tm.getD 37 undef :: tm.getD 38 undef :: tm.getD 39 undef :: tm.getD 40 undef :: tm.getD 41 undef :: tm.getD 42 undef :: tm.getD 43 undef :: tm.getD 44 undef :: tm.getD 45 undef :: tm.getD 46 undef :: tm.getD 47 undef :: tm.getD 48 undef :: tm.getD 49 undef :: tm.getD 50 undef :: tm.getD 51 undef :: tm.getD 52 undef :: tm.getD 53 undef :: tm.getD 54 undef :: tm.getD 55 undef :: tm.getD 56 undef :: tm.getD 57 undef :: tm.getD 58 undef :: tm.getD 59 undef :: tm.getD 60 undef :: tm.getD 61 undef :: tm.getD 62 undef :: tm.getD 63 undef :: tm.getD 64 undef :: tm.getD 65 undef :: tm.getD 66 undef :: tm.getD 67 undef :: tm.getD 68 undef :: tm.getD 69 undef :: tm.getD 70 undef :: tm.getD 71 undef :: tm.getD 72 undef :: tm.getD 73 undef :: tm.getD 74 undef :: tm.getD 75 undef :: tm.getD 76 undef :: tm.getD 77 undef :: tm.getD 78 undef :: tm.getD 79 undef :: tm.getD 80 undef :: tm.getD 81 undef :: tm.getD 82 undef :: tm.getD 83 undef :: tm.getD 84 undef :: []) := arr_eq tm 85 hsz
    rw [d9, d4] at e
    clear d9 d4 hsz
    generalize tm.getD 0 undef = v0 at e
    generalize tm.getD 1 undef = v1 at e
    generalize tm.getD 2 undef = v2 at e
    generalize tm.getD 3 undef = v3 at e
    generalize tm.getD 5 undef = v5 at e
    generalize tm.getD 6 undef = v6 at e
    generalize tm.getD 7 undef = v7 at e
    generalize tm.getD 8 undef = v8 at e
    generalize tm.getD 10 undef = v10 at e
    generalize tm.getD 11 undef = v11 at e
    generalize tm.getD 12 undef = v12 at e
    generalize tm.getD 13 undef = v13 at e
    generalize tm.getD 14 undef = v14 at e
    generalize tm.getD 15 undef = v15 at e
    generalize tm.getD 16 undef = v16 at e
    generalize tm.getD 17 undef = v17 at e
    generalize tm.getD 18 undef = v18 at e
    generalize tm.getD 19 undef = v19 at e
    generalize tm.getD 20 undef = v20 at e
    generalize tm.getD 21 undef = v21 at e
    generalize tm.getD 22 undef = v22 at e
    generalize tm.getD 23 undef = v23 at e
    generalize tm.getD 24 undef = v24 at e
    generalize tm.getD 25 undef = v25 at e
    generalize tm.getD 26 undef = v26 at e
    generalize tm.getD 27 undef = v27 at e
    generalize tm.getD 28 undef = v28 at e
    generalize tm.getD 29 undef = v29 at e
    generalize tm.getD 30 undef = v30 at e
    generalize tm.getD 31 undef = v31 at e
    generalize tm.getD 32 undef = v32 at e
    generalize tm.getD 33 undef = v33 at e
    generalize tm.getD 34 undef = v34 at e
    generalize tm.getD 35 undef = v35 at e
    generalize tm.getD 36 undef = v36 at e
    generalize tm.getD 37 undef = v37 at e
    generalize tm.getD 38 undef = v38 at e
    generalize tm.getD 39 undef = v39 at e
    generalize tm.getD 40 undef = v40 at e
    generalize tm.getD 41 undef = v41 at e
    generalize tm.getD 42 undef = v42 at e
    generalize tm.getD 43 undef = v43 at e
    generalize tm.getD 44 undef = v44 at e
    generalize tm.getD 45 undef = v45 at e
    generalize tm.getD 46 undef = v46 at e
    generalize tm.getD 47 undef = v47 at e
    generalize tm.getD 48 undef = v48 at e
    generalize tm.getD 49 undef = v49 at e
    generalize tm.getD 50 undef = v50 at e
    generalize tm.getD 51 undef = v51 at e
    generalize tm.getD 52 undef = v52 at e
    generalize tm.getD 53 undef = v53 at e
    generalize tm.getD 54 undef = v54 at e
    generalize tm.getD 55 undef = v55 at e
    generalize tm.getD 56 undef = v56 at e
    generalize tm.getD 57 undef = v57 at e
    generalize tm.getD 58 undef = v58 at e
    generalize tm.getD 59 undef = v59 at e
    generalize tm.getD 60 undef = v60 at e
    generalize tm.getD 61 undef = v61 at e
    generalize tm.getD 62 undef = v62 at e
    generalize tm.getD 63 undef = v63 at e
    generalize tm.getD 64 undef = v64 at e
    generalize tm.getD 65 undef = v65 at e
    generalize tm.getD 66 undef = v66 at e
    generalize tm.getD 67 undef = v67 at e
    generalize tm.getD 68 undef = v68 at e
    generalize tm.getD 69 undef = v69 at e
    generalize tm.getD 70 undef = v70 at e
    generalize tm.getD 71 undef = v71 at e
    generalize tm.getD 72 undef = v72 at e
    generalize tm.getD 73 undef = v73 at e
    generalize tm.getD 74 undef = v74 at e
    generalize tm.getD 75 undef = v75 at e
    generalize tm.getD 76 undef = v76 at e
    generalize tm.getD 77 undef = v77 at e
    generalize tm.getD 78 undef = v78 at e
    generalize tm.getD 79 undef = v79 at e
    generalize tm.getD 80 undef = v80 at e
    generalize tm.getD 81 undef = v81 at e
    generalize tm.getD 82 undef = v82 at e
    generalize tm.getD 83 undef = v83 at e
    generalize tm.getD 84 undef = v84 at e
    subst e
    obtain ⟨hle, hT, _⟩ := hC
    have hE0 : hE4 q cl 1 l.length = part q cl true l 0 := HP0.out
    rw [hE0]
    clear hval HP0 hE0
    go_wp2_with fail
    go_loopw [9, 10] (fun vs vi wr => ∃ i : Nat, i ≤ l.length ∧ vi = .int .i64 i ∧ vs = .string (str (part q cl true l i)) ∧ Below w.heap.size w wr ∧ Bx wr gB 24 [.int .i64 cl, .bool true, .slice sa l.length c]) (fun _ vi _ => l.length - (intOf vi).toNat)
    case atStart => exact ⟨0, by omega, rfl, rfl, hle, hT⟩
    case round =>
      clear hle hT
      obtain ⟨i, hi, rfl, rfl, hle, hT⟩ := hrel
      have c2 := hT.cell (i := 2) rfl
      by_cases hlt : i < l.length
      · obtain ⟨ha, hrange⟩ := HC.out i hlt
        have HP := Lib.hid ((tE7_eq (part q cl true l i) (T.tr l i)).trans (part_succ (q := q) (cl := cl) (fin := true) hlt).symm)
        have hpl := part_le q cl true l i
        obtain ⟨S2, hS2⟩ : ∃ S2, S2 = part q cl true l (i + 1) := ⟨_, rfl⟩
        rw [← hS2] at HP
        have HS2 := Lib.hid hS2; clear hS2
        have HL : Hid ((part q cl true l i).length ≤ 3000) := Lib.hid (by omega)
        generalize part q cl true l i = S at HP HL ⊢
        have HX := Lib.hid (mxT_of (HF.out i hlt))
        generalize T.tr l i = x at *
        have hix := fun w' => run_idxS Try.underlying22 Try.sizeTrack (cap := c) ha hlt _ rfl w'
        have hrg : wr.rangeAt b (off + i * 7) (tcs x) := fun j u hu => (hle.cell (p := ⟨b, off + i * 7 + j, none⟩) (World.block_lt_of_cell? w _ (hrange j u hu))).trans (hrange j u hu)
        clear hrange hpl
        obtain ⟨hc0, hc1, hc2, hc3, hc4, hc5, hc6⟩ := rd7 hrg
        have Ha := Lib.hid ha; clear ha hrg
        have hXn : Bx (wr.alloc (.cells #[.int .i64 x.num, .int .i64 x.ses, .int .i64 x.st, .int .i64 x.len, .int .i64 x.nx, .int .i64 x.sta, .int .i64 x.pk] 40)) wr.heap.size 40 (tcs x) := Bx.new _ _ (tcs x)
        have hTn := hT.alloc (.cells #[.int .i64 x.num, .int .i64 x.ses, .int .i64 x.st, .int .i64 x.len, .int .i64 x.nx, .int .i64 x.sta, .int .i64 x.pk] 40)
        have hln2 := hle.alloc hle.size (.cells #[.int .i64 x.num, .int .i64 x.ses, .int .i64 x.st, .int .i64 x.len, .int .i64 x.nx, .int .i64 x.sta, .int .i64 x.pk] 40)
        obtain ⟨gX, hgX⟩ : ∃ gX, gX = wr.heap.size := ⟨_, rfl⟩
        rw [← hgX] at hXn
        go_upto_region 13 with (fail)
        simp only [← hgX]
        clear hc0 hc1 hc2 hc3 hc4 hc5 hc6 hix c2 hgX hT hle
        generalize wr.alloc (.cells #[.int .i64 x.num, .int .i64 x.ses, .int .i64 x.st, .int .i64 x.len, .int .i64 x.nx, .int .i64 x.sta, .int .i64 x.pk] 40) = w5 at hXn hTn hln2 ⊢
        refine wp_region_in2 (by kernel_rfl) (fun w W => Below w.heap.size w W) (fun W => Below w.heap.size w W ∧ Bx W gB 24 [.int .i64 cl, .bool true, .slice sa l.length c] ∧ Bx W gX 40 (tcs x)) (rEnc13 gX S x) (fun _ => false) (by kernel_rfl) (fun W W' hb h => ⟨h.1.trans (hb.mono h.1.size), h.2.1.call hb, h.2.2.call hb⟩) (rEnc13_keep gX S x) (⟨hln2.drew, hTn, hXn⟩) ⟨?_, ?_, ?_, ?_, ?_, ?_, ?_, ?_, ?_, ?_, ?_, ?_, ?_, ?_, ?_, ?_, ?_, ?_, ?_, ?_, ?_, ?_, ?_, ?_, ?_, ?_, ?_, ?_, ?_, ?_, trivial⟩ ?_
        · intro a W hc hsz hold hdep hnot
          have o9 : a.tmps.getD 9 undef = .string (str (S)) := hnot 29 _ 9 rfl rfl (by kernel_rfl)
          clear hsz hold hdep hnot
          refine stepR_do rfl (wanted_none rfl) ?_
          refine stepR_val (v := .string (str (S))) (Below.refl _ _) rfl fun K hK => ?_
          go_simp
          exact hK
        · intro a W hc hsz hold hdep hnot
          have o11 : a.tmps.getD 11 undef = .pointer (some ⟨gX, 0, none⟩) := hold 11 (by kernel_rfl)
          clear hsz hold hdep hnot
          refine stepR_do rfl (wanted_none rfl) ?_
          refine stepR_val (v := .pointer (some ⟨gX, 0, none⟩)) (Below.refl _ _) rfl fun K hK => ?_
          go_simp
          exact hK
        · intro a W hc hsz hold hdep hnot
          have d1 : a.tmps.getD 52 undef = .pointer (some ⟨gX, 0, none⟩) := hdep 1 (by kernel_rfl) rfl _ rfl
          have c0 := hc.2.2.cell (i := 0) rfl
          clear hsz hold hdep hnot
          refine stepR_do rfl (wanted_none rfl) ?_
          refine stepR_val (v := .int .i64 x.num) (Below.refl _ _) rfl fun K hK => ?_
          go_simp
          exact hK
        · intro a W hc hsz hold hdep hnot
          have d2 : a.tmps.getD 53 undef = .int .i64 x.num := hdep 2 (by kernel_rfl) rfl _ rfl
          have e2 : a.tmps[53]?.getD undef = .int .i64 x.num := by rw [← Array.getD_eq_getD_getElem?]; exact d2
          clear hsz hold hdep hnot
          refine stepR_do rfl (wanted_none rfl) ?_
          refine stepR_call (v := .string (str (b2 x.num))) (fun W' hb => hb) (fun _ => rfl) fun K hK => ?_
          go_simp
          refine (big14_2 _ _ HX.out.1).mono ?_
          rintro e w' ⟨rfl, hb'⟩
          exact hK _ hb'
        · intro a W hc hsz hold hdep hnot
          have d0 : a.tmps.getD 51 undef = .string (str (S)) := hdep 0 (by kernel_rfl) rfl _ rfl
          have d3 : a.tmps.getD 54 undef = .string (str (b2 x.num)) := hdep 3 (by kernel_rfl) rfl _ rfl
          have s1 := str_size (S)
          have s2 := str_size (b2 x.num)
          have hnl : ¬ 9223372036854775807 < (S).length + (b2 x.num).length := by
            have q1 := HL.out
            have q2 := b2_le x.num
            omega
          have ap : str (S) ++ str (b2 x.num) = str (tE1 S x) := str_app _ _
          clear hsz hold hdep hnot
          refine stepR_do rfl (wanted_none rfl) ?_
          refine stepR_val (v := .string (str (tE1 S x))) (Below.refl _ _) rfl fun K hK => ?_
          go_simp
          exact hK
        · intro a W hc hsz hold hdep hnot
          have o11 : a.tmps.getD 11 undef = .pointer (some ⟨gX, 0, none⟩) := hold 11 (by kernel_rfl)
          clear hsz hold hdep hnot
          refine stepR_do rfl (wanted_none rfl) ?_
          refine stepR_val (v := .pointer (some ⟨gX, 1, none⟩)) (Below.refl _ _) rfl fun K hK => ?_
          go_simp
          exact hK
        · intro a W hc hsz hold hdep hnot
          have d5 : a.tmps.getD 56 undef = .pointer (some ⟨gX, 1, none⟩) := hdep 5 (by kernel_rfl) rfl _ rfl
          have c0 := hc.2.2.cell (i := 1) rfl
          clear hsz hold hdep hnot
          refine stepR_do rfl (wanted_none rfl) ?_
          refine stepR_val (v := .int .i64 x.ses) (Below.refl _ _) rfl fun K hK => ?_
          go_simp
          exact hK
        · intro a W hc hsz hold hdep hnot
          have d6 : a.tmps.getD 57 undef = .int .i64 x.ses := hdep 6 (by kernel_rfl) rfl _ rfl
          have e6 : a.tmps[57]?.getD undef = .int .i64 x.ses := by rw [← Array.getD_eq_getD_getElem?]; exact d6
          clear hsz hold hdep hnot
          refine stepR_do rfl (wanted_none rfl) ?_
          refine stepR_call (v := .string (str (b2 x.ses))) (fun W' hb => hb) (fun _ => rfl) fun K hK => ?_
          go_simp
          refine (big14_2 _ _ HX.out.2.1).mono ?_
          rintro e w' ⟨rfl, hb'⟩
          exact hK _ hb'
        · intro a W hc hsz hold hdep hnot
          have d4 : a.tmps.getD 55 undef = .string (str (tE1 S x)) := hdep 4 (by kernel_rfl) rfl _ rfl
          have d7 : a.tmps.getD 58 undef = .string (str (b2 x.ses)) := hdep 7 (by kernel_rfl) rfl _ rfl
          have s1 := str_size (tE1 S x)
          have s2 := str_size (b2 x.ses)
          have hnl : ¬ 9223372036854775807 < (tE1 S x).length + (b2 x.ses).length := by
            have q1 := Nat.le_trans (tE1_le S x) (Nat.add_le_add_right HL.out _)
            have q2 := b2_le x.ses
            omega
          have ap : str (tE1 S x) ++ str (b2 x.ses) = str (tE2 S x) := str_app _ _
          clear hsz hold hdep hnot
          refine stepR_do rfl (wanted_none rfl) ?_
          refine stepR_val (v := .string (str (tE2 S x))) (Below.refl _ _) rfl fun K hK => ?_
          go_simp
          exact hK
        · intro a W hc hsz hold hdep hnot
          have o11 : a.tmps.getD 11 undef = .pointer (some ⟨gX, 0, none⟩) := hold 11 (by kernel_rfl)
          clear hsz hold hdep hnot
          refine stepR_do rfl (wanted_none rfl) ?_
          refine stepR_val (v := .pointer (some ⟨gX, 2, none⟩)) (Below.refl _ _) rfl fun K hK => ?_
          go_simp
          exact hK
        · intro a W hc hsz hold hdep hnot
          have d9 : a.tmps.getD 60 undef = .pointer (some ⟨gX, 2, none⟩) := hdep 9 (by kernel_rfl) rfl _ rfl
          have c0 := hc.2.2.cell (i := 2) rfl
          clear hsz hold hdep hnot
          refine stepR_do rfl (wanted_none rfl) ?_
          refine stepR_val (v := .int .i64 x.st) (Below.refl _ _) rfl fun K hK => ?_
          go_simp
          exact hK
        · intro a W hc hsz hold hdep hnot
          have d10 : a.tmps.getD 61 undef = .int .i64 x.st := hdep 10 (by kernel_rfl) rfl _ rfl
          have e10 : a.tmps[61]?.getD undef = .int .i64 x.st := by rw [← Array.getD_eq_getD_getElem?]; exact d10
          clear hsz hold hdep hnot
          refine stepR_do rfl (wanted_none rfl) ?_
          refine stepR_call (v := .string (str (b4 x.st))) (fun W' hb => hb) (fun _ => rfl) fun K hK => ?_
          go_simp
          refine (big14_4 _ _ HX.out.2.2.1).mono ?_
          rintro e w' ⟨rfl, hb'⟩
          exact hK _ hb'
        · intro a W hc hsz hold hdep hnot
          have d8 : a.tmps.getD 59 undef = .string (str (tE2 S x)) := hdep 8 (by kernel_rfl) rfl _ rfl
          have d11 : a.tmps.getD 62 undef = .string (str (b4 x.st)) := hdep 11 (by kernel_rfl) rfl _ rfl
          have s1 := str_size (tE2 S x)
          have s2 := str_size (b4 x.st)
          have hnl : ¬ 9223372036854775807 < (tE2 S x).length + (b4 x.st).length := by
            have q1 := Nat.le_trans (tE2_le S x) (Nat.add_le_add_right HL.out _)
            have q2 := b4_le x.st
            omega
          have ap : str (tE2 S x) ++ str (b4 x.st) = str (tE3 S x) := str_app _ _
          clear hsz hold hdep hnot
          refine stepR_do rfl (wanted_none rfl) ?_
          refine stepR_val (v := .string (str (tE3 S x))) (Below.refl _ _) rfl fun K hK => ?_
          go_simp
          exact hK
        · intro a W hc hsz hold hdep hnot
          have o11 : a.tmps.getD 11 undef = .pointer (some ⟨gX, 0, none⟩) := hold 11 (by kernel_rfl)
          clear hsz hold hdep hnot
          refine stepR_do rfl (wanted_none rfl) ?_
          refine stepR_val (v := .pointer (some ⟨gX, 3, none⟩)) (Below.refl _ _) rfl fun K hK => ?_
          go_simp
          exact hK
        · intro a W hc hsz hold hdep hnot
          have d13 : a.tmps.getD 64 undef = .pointer (some ⟨gX, 3, none⟩) := hdep 13 (by kernel_rfl) rfl _ rfl
          have c0 := hc.2.2.cell (i := 3) rfl
          clear hsz hold hdep hnot
          refine stepR_do rfl (wanted_none rfl) ?_
          refine stepR_val (v := .int .i64 x.len) (Below.refl _ _) rfl fun K hK => ?_
          go_simp
          exact hK
        · intro a W hc hsz hold hdep hnot
          have d14 : a.tmps.getD 65 undef = .int .i64 x.len := hdep 14 (by kernel_rfl) rfl _ rfl
          have e14 : a.tmps[65]?.getD undef = .int .i64 x.len := by rw [← Array.getD_eq_getD_getElem?]; exact d14
          clear hsz hold hdep hnot
          refine stepR_do rfl (wanted_none rfl) ?_
          refine stepR_call (v := .string (str (b4 x.len))) (fun W' hb => hb) (fun _ => rfl) fun K hK => ?_
          go_simp
          refine (big14_4 _ _ HX.out.2.2.2.1).mono ?_
          rintro e w' ⟨rfl, hb'⟩
          exact hK _ hb'
        · intro a W hc hsz hold hdep hnot
          have d12 : a.tmps.getD 63 undef = .string (str (tE3 S x)) := hdep 12 (by kernel_rfl) rfl _ rfl
          have d15 : a.tmps.getD 66 undef = .string (str (b4 x.len)) := hdep 15 (by kernel_rfl) rfl _ rfl
          have s1 := str_size (tE3 S x)
          have s2 := str_size (b4 x.len)
          have hnl : ¬ 9223372036854775807 < (tE3 S x).length + (b4 x.len).length := by
            have q1 := Nat.le_trans (tE3_le S x) (Nat.add_le_add_right HL.out _)
            have q2 := b4_le x.len
            omega
          have ap : str (tE3 S x) ++ str (b4 x.len) = str (tE4 S x) := str_app _ _
          clear hsz hold hdep hnot
          refine stepR_do rfl (wanted_none rfl) ?_
          refine stepR_val (v := .string (str (tE4 S x))) (Below.refl _ _) rfl fun K hK => ?_
          go_simp
          exact hK
        · intro a W hc hsz hold hdep hnot
          have o11 : a.tmps.getD 11 undef = .pointer (some ⟨gX, 0, none⟩) := hold 11 (by kernel_rfl)
          clear hsz hold hdep hnot
          refine stepR_do rfl (wanted_none rfl) ?_
          refine stepR_val (v := .pointer (some ⟨gX, 4, none⟩)) (Below.refl _ _) rfl fun K hK => ?_
          go_simp
          exact hK
        · intro a W hc hsz hold hdep hnot
          have d17 : a.tmps.getD 68 undef = .pointer (some ⟨gX, 4, none⟩) := hdep 17 (by kernel_rfl) rfl _ rfl
          have c0 := hc.2.2.cell (i := 4) rfl
          clear hsz hold hdep hnot
          refine stepR_do rfl (wanted_none rfl) ?_
          refine stepR_val (v := .int .i64 x.nx) (Below.refl _ _) rfl fun K hK => ?_
          go_simp
          exact hK
        · intro a W hc hsz hold hdep hnot
          have d18 : a.tmps.getD 69 undef = .int .i64 x.nx := hdep 18 (by kernel_rfl) rfl _ rfl
          have e18 : a.tmps[69]?.getD undef = .int .i64 x.nx := by rw [← Array.getD_eq_getD_getElem?]; exact d18
          clear hsz hold hdep hnot
          refine stepR_do rfl (wanted_none rfl) ?_
          refine stepR_call (v := .string (str (b4 x.nx))) (fun W' hb => hb) (fun _ => rfl) fun K hK => ?_
          go_simp
          refine (big14_4 _ _ HX.out.2.2.2.2.1).mono ?_
          rintro e w' ⟨rfl, hb'⟩
          exact hK _ hb'
        · intro a W hc hsz hold hdep hnot
          have d16 : a.tmps.getD 67 undef = .string (str (tE4 S x)) := hdep 16 (by kernel_rfl) rfl _ rfl
          have d19 : a.tmps.getD 70 undef = .string (str (b4 x.nx)) := hdep 19 (by kernel_rfl) rfl _ rfl
          have s1 := str_size (tE4 S x)
          have s2 := str_size (b4 x.nx)
          have hnl : ¬ 9223372036854775807 < (tE4 S x).length + (b4 x.nx).length := by
            have q1 := Nat.le_trans (tE4_le S x) (Nat.add_le_add_right HL.out _)
            have q2 := b4_le x.nx
            omega
          have ap : str (tE4 S x) ++ str (b4 x.nx) = str (tE5 S x) := str_app _ _
          clear hsz hold hdep hnot
          refine stepR_do rfl (wanted_none rfl) ?_
          refine stepR_val (v := .string (str (tE5 S x))) (Below.refl _ _) rfl fun K hK => ?_
          go_simp
          exact hK
        · intro a W hc hsz hold hdep hnot
          have o11 : a.tmps.getD 11 undef = .pointer (some ⟨gX, 0, none⟩) := hold 11 (by kernel_rfl)
          clear hsz hold hdep hnot
          refine stepR_do rfl (wanted_none rfl) ?_
          refine stepR_val (v := .pointer (some ⟨gX, 5, none⟩)) (Below.refl _ _) rfl fun K hK => ?_
          go_simp
          exact hK
        · intro a W hc hsz hold hdep hnot
          have d21 : a.tmps.getD 72 undef = .pointer (some ⟨gX, 5, none⟩) := hdep 21 (by kernel_rfl) rfl _ rfl
          have c0 := hc.2.2.cell (i := 5) rfl
          clear hsz hold hdep hnot
          refine stepR_do rfl (wanted_none rfl) ?_
          refine stepR_val (v := .int .i64 x.sta) (Below.refl _ _) rfl fun K hK => ?_
          go_simp
          exact hK
        · intro a W hc hsz hold hdep hnot
          have d22 : a.tmps.getD 73 undef = .int .i64 x.sta := hdep 22 (by kernel_rfl) rfl _ rfl
          have e22 : a.tmps[73]?.getD undef = .int .i64 x.sta := by rw [← Array.getD_eq_getD_getElem?]; exact d22
          clear hsz hold hdep hnot
          refine stepR_do rfl (wanted_none rfl) ?_
          refine stepR_call (v := .string (str (b2 x.sta))) (fun W' hb => hb) (fun _ => rfl) fun K hK => ?_
          go_simp
          refine (big14_2 _ _ HX.out.2.2.2.2.2.1).mono ?_
          rintro e w' ⟨rfl, hb'⟩
          exact hK _ hb'
        · intro a W hc hsz hold hdep hnot
          have d20 : a.tmps.getD 71 undef = .string (str (tE5 S x)) := hdep 20 (by kernel_rfl) rfl _ rfl
          have d23 : a.tmps.getD 74 undef = .string (str (b2 x.sta)) := hdep 23 (by kernel_rfl) rfl _ rfl
          have s1 := str_size (tE5 S x)
          have s2 := str_size (b2 x.sta)
          have hnl : ¬ 9223372036854775807 < (tE5 S x).length + (b2 x.sta).length := by
            have q1 := Nat.le_trans (tE5_le S x) (Nat.add_le_add_right HL.out _)
            have q2 := b2_le x.sta
            omega
          have ap : str (tE5 S x) ++ str (b2 x.sta) = str (tE6 S x) := str_app _ _
          clear hsz hold hdep hnot
          refine stepR_do rfl (wanted_none rfl) ?_
          refine stepR_val (v := .string (str (tE6 S x))) (Below.refl _ _) rfl fun K hK => ?_
          go_simp
          exact hK
        · intro a W hc hsz hold hdep hnot
          have o11 : a.tmps.getD 11 undef = .pointer (some ⟨gX, 0, none⟩) := hold 11 (by kernel_rfl)
          clear hsz hold hdep hnot
          refine stepR_do rfl (wanted_none rfl) ?_
          refine stepR_val (v := .pointer (some ⟨gX, 6, none⟩)) (Below.refl _ _) rfl fun K hK => ?_
          go_simp
          exact hK
        · intro a W hc hsz hold hdep hnot
          have d25 : a.tmps.getD 76 undef = .pointer (some ⟨gX, 6, none⟩) := hdep 25 (by kernel_rfl) rfl _ rfl
          have c0 := hc.2.2.cell (i := 6) rfl
          clear hsz hold hdep hnot
          refine stepR_do rfl (wanted_none rfl) ?_
          refine stepR_val (v := .int .i64 x.pk) (Below.refl _ _) rfl fun K hK => ?_
          go_simp
          exact hK
        · intro a W hc hsz hold hdep hnot
          have d26 : a.tmps.getD 77 undef = .int .i64 x.pk := hdep 26 (by kernel_rfl) rfl _ rfl
          have e26 : a.tmps[77]?.getD undef = .int .i64 x.pk := by rw [← Array.getD_eq_getD_getElem?]; exact d26
          clear hsz hold hdep hnot
          refine stepR_do rfl (wanted_none rfl) ?_
          refine stepR_call (v := .string (str (b2 x.pk))) (fun W' hb => hb) (fun _ => rfl) fun K hK => ?_
          go_simp
          refine (big14_2 _ _ HX.out.2.2.2.2.2.2).mono ?_
          rintro e w' ⟨rfl, hb'⟩
          exact hK _ hb'
        · intro a W hc hsz hold hdep hnot
          have d24 : a.tmps.getD 75 undef = .string (str (tE6 S x)) := hdep 24 (by kernel_rfl) rfl _ rfl
          have d27 : a.tmps.getD 78 undef = .string (str (b2 x.pk)) := hdep 27 (by kernel_rfl) rfl _ rfl
          have s1 := str_size (tE6 S x)
          have s2 := str_size (b2 x.pk)
          have hnl : ¬ 9223372036854775807 < (tE6 S x).length + (b2 x.pk).length := by
            have q1 := Nat.le_trans (tE6_le S x) (Nat.add_le_add_right HL.out _)
            have q2 := b2_le x.pk
            omega
          have ap : str (tE6 S x) ++ str (b2 x.pk) = str (tE7 S x) := str_app _ _
          clear hsz hold hdep hnot
          refine stepR_do rfl (wanted_none rfl) ?_
          refine stepR_val (v := .string (str (tE7 S x))) (Below.refl _ _) rfl fun K hK => ?_
          go_simp
          exact hK
        · intro a W hc hsz hold hdep hnot
          have d28 : a.tmps.getD 79 undef = .string (str (tE7 S x)) := hdep 28 (by kernel_rfl) rfl _ rfl
          clear hsz hold hdep hnot
          refine stepR_do rfl (wanted_none rfl) ?_
          refine stepR_val (v := .string (str (tE7 S x))) (Below.refl _ _) rfl fun K hK => ?_
          go_simp
          exact hK
        · intro a W hC hd hsz hold hval
          have d0 : a.tmps.getD 0 undef = v0 := hold 0 (by kernel_rfl)
          have d1 : a.tmps.getD 1 undef = v1 := hold 1 (by kernel_rfl)
          have d2 : a.tmps.getD 2 undef = v2 := hold 2 (by kernel_rfl)
          have d3 : a.tmps.getD 3 undef = v3 := hold 3 (by kernel_rfl)
          have d4 : a.tmps.getD 4 undef = .pointer (some ⟨gB, 0, none⟩) := hold 4 (by kernel_rfl)
          have d5 : a.tmps.getD 5 undef = v5 := hold 5 (by kernel_rfl)
          have d6 : a.tmps.getD 6 undef = v6 := hold 6 (by kernel_rfl)
          have d7 : a.tmps.getD 7 undef = v7 := hold 7 (by kernel_rfl)
          have d8 : a.tmps.getD 8 undef = v8 := hold 8 (by kernel_rfl)
          have d12 : a.tmps.getD 12 undef = v12 := hold 12 (by kernel_rfl)
          have d13 : a.tmps.getD 13 undef = v13 := hold 13 (by kernel_rfl)
          have d14 : a.tmps.getD 14 undef = v14 := hold 14 (by kernel_rfl)
          have d15 : a.tmps.getD 15 undef = v15 := hold 15 (by kernel_rfl)
          have d16 : a.tmps.getD 16 undef = v16 := hold 16 (by kernel_rfl)
          have d17 : a.tmps.getD 17 undef = v17 := hold 17 (by kernel_rfl)
          have d18 : a.tmps.getD 18 undef = v18 := hold 18 (by kernel_rfl)
          have d19 : a.tmps.getD 19 undef = v19 := hold 19 (by kernel_rfl)
          have d20 : a.tmps.getD 20 undef = v20 := hold 20 (by kernel_rfl)
          have d21 : a.tmps.getD 21 undef = v21 := hold 21 (by kernel_rfl)
          have d22 : a.tmps.getD 22 undef = v22 := hold 22 (by kernel_rfl)
          have d23 : a.tmps.getD 23 undef = v23 := hold 23 (by kernel_rfl)
          have d24 : a.tmps.getD 24 undef = v24 := hold 24 (by kernel_rfl)
          have d25 : a.tmps.getD 25 undef = v25 := hold 25 (by kernel_rfl)
          have d26 : a.tmps.getD 26 undef = v26 := hold 26 (by kernel_rfl)
          have d27 : a.tmps.getD 27 undef = v27 := hold 27 (by kernel_rfl)
          have d28 : a.tmps.getD 28 undef = v28 := hold 28 (by kernel_rfl)
          have d29 : a.tmps.getD 29 undef = v29 := hold 29 (by kernel_rfl)
          have d30 : a.tmps.getD 30 undef = v30 := hold 30 (by kernel_rfl)
          have d31 : a.tmps.getD 31 undef = v31 := hold 31 (by kernel_rfl)
          have d32 : a.tmps.getD 32 undef = v32 := hold 32 (by kernel_rfl)
          have d33 : a.tmps.getD 33 undef = v33 := hold 33 (by kernel_rfl)
          have d34 : a.tmps.getD 34 undef = v34 := hold 34 (by kernel_rfl)
          have d35 : a.tmps.getD 35 undef = v35 := hold 35 (by kernel_rfl)
          have d36 : a.tmps.getD 36 undef = v36 := hold 36 (by kernel_rfl)
          have d37 : a.tmps.getD 37 undef = v37 := hold 37 (by kernel_rfl)
          have d38 : a.tmps.getD 38 undef = v38 := hold 38 (by kernel_rfl)
          have d80 : a.tmps.getD 80 undef = v80 := hold 80 (by kernel_rfl)
          have d81 : a.tmps.getD 81 undef = v81 := hold 81 (by kernel_rfl)
          have d82 : a.tmps.getD 82 undef = v82 := hold 82 (by kernel_rfl)
          have d83 : a.tmps.getD 83 undef = v83 := hold 83 (by kernel_rfl)
          have d84 : a.tmps.getD 84 undef = v84 := hold 84 (by kernel_rfl)
          have d10 : a.tmps.getD 10 undef = .int .i64 i := hold 10 (by kernel_rfl)
          have d9 : a.tmps.getD 9 undef = .string (str (tE7 S x)) := hval 29 _ rfl rfl
          clear hold
          obtain ⟨tm, df⟩ := a
          replace hd : df = [] := hd
          replace hsz : tm.size = 85 := hsz
          replace d0 : tm.getD 0 undef = v0 := d0
          replace d1 : tm.getD 1 undef = v1 := d1
          replace d2 : tm.getD 2 undef = v2 := d2
          replace d3 : tm.getD 3 undef = v3 := d3
          replace d4 : tm.getD 4 undef = .pointer (some ⟨gB, 0, none⟩) := d4
          replace d5 : tm.getD 5 undef = v5 := d5
          replace d6 : tm.getD 6 undef = v6 := d6
          replace d7 : tm.getD 7 undef = v7 := d7
          replace d8 : tm.getD 8 undef = v8 := d8
          replace d12 : tm.getD 12 undef = v12 := d12
          replace d13 : tm.getD 13 undef = v13 := d13
          replace d14 : tm.getD 14 undef = v14 := d14
          replace d15 : tm.getD 15 undef = v15 := d15
          replace d16 : tm.getD 16 undef = v16 := d16
          replace d17 : tm.getD 17 undef = v17 := d17
          replace d18 : tm.getD 18 undef = v18 := d18
          replace d19 : tm.getD 19 undef = v19 := d19
          replace d20 : tm.getD 20 undef = v20 := d20
          replace d21 : tm.getD 21 undef = v21 := d21
          replace d22 : tm.getD 22 undef = v22 := d22
          replace d23 : tm.getD 23 undef = v23 := d23
          replace d24 : tm.getD 24 undef = v24 := d24
          replace d25 : tm.getD 25 undef = v25 := d25
          replace d26 : tm.getD 26 undef = v26 := d26
          replace d27 : tm.getD 27 undef = v27 := d27
          replace d28 : tm.getD 28 undef = v28 := d28
          replace d29 : tm.getD 29 undef = v29 := d29
          replace d30 : tm.getD 30 undef = v30 := d30
          replace d31 : tm.getD 31 undef = v31 := d31
          replace d32 : tm.getD 32 undef = v32 := d32
          replace d33 : tm.getD 33 undef = v33 := d33
          replace d34 : tm.getD 34 undef = v34 := d34
          replace d35 : tm.getD 35 undef = v35 := d35
          replace d36 : tm.getD 36 undef = v36 := d36
          replace d37 : tm.getD 37 undef = v37 := d37
          replace d38 : tm.getD 38 undef = v38 := d38
          replace d80 : tm.getD 80 undef = v80 := d80
          replace d81 : tm.getD 81 undef = v81 := d81
          replace d82 : tm.getD 82 undef = v82 := d82
          replace d83 : tm.getD 83 undef = v83 := d83
          replace d84 : tm.getD 84 undef = v84 := d84
          replace d10 : tm.getD 10 undef = .int .i64 i := d10
          replace d9 : tm.getD 9 undef = .string (str (tE7 S x)) := d9
          subst hd
          have e : tm = List.toArray (tm.getD 0 undef :: tm.getD 1 undef :: tm.getD 2 undef :: tm.getD 3 undef :: tm.getD 4 undef :: tm.getD 5 undef :: tm.getD 6 undef :: tm.getD 7 undef :: tm.getD 8 undef :: tm.getD 9 undef :: tm.getD 10 undef :: tm.getD 11 undef :: tm.getD 12 undef :: tm.getD 13 undef :: tm.getD 14 undef :: tm.getD 15 undef :: tm.getD 16 undef :: tm.getD 17 undef :: tm.getD 18 undef :: tm.getD 19 undef :: tm.getD 20 undef :: tm.getD 21 undef :: tm.getD 22 undef :: tm.getD 23 undef :: tm.getD 24 undef :: tm.getD 25 undef :: tm.getD 26 undef :: tm.getD 27 undef :: tm.getD 28 undef :: tm.getD 29 undef :: tm.getD 30 undef :: tm.getD 31 undef :: tm.getD 32 undef :: tm.getD 33 undef :: tm.getD 34 undef :: tm.getD 35 undef :: tm.getD 36 undef :: tm.getD 37 undef :: tm.getD 38 undef :: tm.getD 39 undef :: tm.getD 40 undef :: tm.getD 41 undef :: tm.getD 42 undef :: tm.getD 43 undef :: tm.getD 44 undef :: tm.getD 45 undef :: tm.getD 46 undef :: tm.getD 47 undef :: tm.getD 48 undef :: tm.getD 49 undef :: tm.getD 50 undef :: tm.getD 51 undef :: tm.getD 52 undef :: tm.getD 53 undef :: tm.getD 54 undef :: tm.getD 55 undef :: tm.getD 56 undef :: tm.getD 57 undef :: tm.getD 58 undef :: tm.getD 59 undef :: tm.getD 60 undef :: tm.getD 61 undef :: tm.getD 62 undef :: tm.getD 63 undef :: tm.getD 64 undef :: tm.getD 65 undef :: tm.getD 66 undef :: tm.getD 67 undef :: tm.getD 68 undef :: tm.getD 69 undef :: tm.getD 70 undef :: tm.getD 71 undef :: tm.getD 72 undef :: tm.getD 73 undef :: tm.getD 74 undef :: tm.getD 75 undef :: tm.getD 76 undef :: tm.getD 77 undef :: tm.getD 78 undef :: tm.getD 79 undef :: tm.getD 80 undef :: tm.getD 81 undef :: tm.getD 82 undef :: tm.getD 83 undef :: tm.getD 84 undef :: []) := arr_eq tm 85 hsz
          rw [d0, d1, d2, d3, d4, d5, d6, d7, d8, d12, d13, d14, d15, d16, d17, d18, d19, d20, d21, d22, d23, d24, d25, d26, d27, d28, d29, d30, d31, d32, d33, d34, d35, d36, d37, d38, d80, d81, d82, d83, d84, d10, d9] at e
          clear d0 d1 d2 d3 d4 d5 d6 d7 d8 d12 d13 d14 d15 d16 d17 d18 d19 d20 d21 d22 d23 d24 d25 d26 d27 d28 d29 d30 d31 d32 d33 d34 d35 d36 d37 d38 d80 d81 d82 d83 d84 d10 d9 hsz
          generalize tm.getD 11 undef = v11 at e
          generalize tm.getD 39 undef = v39 at e
          generalize tm.getD 40 undef = v40 at e
          generalize tm.getD 41 undef = v41 at e
          generalize tm.getD 42 undef = v42 at e
          generalize tm.getD 43 undef = v43 at e
          generalize tm.getD 44 undef = v44 at e
          generalize tm.getD 45 undef = v45 at e
          generalize tm.getD 46 undef = v46 at e
          generalize tm.getD 47 undef = v47 at e
          generalize tm.getD 48 undef = v48 at e
          generalize tm.getD 49 undef = v49 at e
          generalize tm.getD 50 undef = v50 at e
          generalize tm.getD 51 undef = v51 at e
          generalize tm.getD 52 undef = v52 at e
          generalize tm.getD 53 undef = v53 at e
          generalize tm.getD 54 undef = v54 at e
          generalize tm.getD 55 undef = v55 at e
          generalize tm.getD 56 undef = v56 at e
          generalize tm.getD 57 undef = v57 at e
          generalize tm.getD 58 undef = v58 at e
          generalize tm.getD 59 undef = v59 at e
          generalize tm.getD 60 undef = v60 at e
          generalize tm.getD 61 undef = v61 at e
          generalize tm.getD 62 undef = v62 at e
          generalize tm.getD 63 undef = v63 at e
          generalize tm.getD 64 undef = v64 at e
          generalize tm.getD 65 undef = v65 at e
          generalize tm.getD 66 undef = v66 at e
          generalize tm.getD 67 undef = v67 at e
          generalize tm.getD 68 undef = v68 at e
          generalize tm.getD 69 undef = v69 at e
          generalize tm.getD 70 undef = v70 at e
          generalize tm.getD 71 undef = v71 at e
          generalize tm.getD 72 undef = v72 at e
          generalize tm.getD 73 undef = v73 at e
          generalize tm.getD 74 undef = v74 at e
          generalize tm.getD 75 undef = v75 at e
          generalize tm.getD 76 undef = v76 at e
          generalize tm.getD 77 undef = v77 at e
          generalize tm.getD 78 undef = v78 at e
          generalize tm.getD 79 undef = v79 at e
          subst e
          obtain ⟨hle, hT, _⟩ := hC
          rw [HP.out]
          clear hval
          go_wp2_with fail
          go_roundw
          case rel =>
            exact ⟨i + 1, by omega, by go_num, by rw [← HS2.out], hle, hT⟩
          case measure => simp [intOf]; omega
      · obtain rfl : i = l.length := by omega
        rw [part_all]
        have hbl := body_le q cl true l
        have HE : Hid (encE q cl true l = bodyE q cl true l ++ crcB (C.crc 0 (bodyE q cl true l))) := Lib.hid rfl
        generalize bodyE q cl true l = S at HE hbl ⊢
        have hcr := C.crc_lt (c := 0) (by omega) S
        have hsz1 := str_size S
        have HCR : Hid (∀ W, Calls Try.prog 46 #[.string (str S)] W fun e w' => e = .returned (.int .u16 (C.crc 0 S : Nat)) ∧ W = w') := Lib.hid fun W => by
          have := rcrc_any (str S) W (by omega)
          have e : (str S).data.toList = S := by simp [str]
          rw [e] at this
          exact this
        generalize C.crc 0 S = z at HCR HE hcr
        have HCB := Lib.hid (fun W => rcrcbytes_any z W hcr)
        have hsz2 := str_size (crcB z)
        have hz2 : (crcB z).length = 2 := rfl
        rw [hz2] at hsz2
        generalize crcB z = Z at *
        have hnl : ¬ 9223372036854775807 < S.length + 2 := by omega
        clear hz2
        go_wp2_with fail
        refine (HCR.out _).mono ?_
        rintro e w6 ⟨rfl, rfl⟩
        go_wp2_with fail
        refine (HCB.out _).mono ?_
        rintro e w7 ⟨rfl, hb7⟩
        go_wp2_with fail
        go_ret2
        refine ⟨?_, hle.trans (hb7.mono hle.size)⟩
        rw [HE.out, ← str_app]
        rfl
set_option maxRecDepth 100000 in
set_option maxHeartbeats 4000000 in
theorem renc_false (cap q cl : Int) (sv : Value) (l : List T.Trk) (w : World) (hv : Hid (∀ W, RdK W sv l → Calls Try.prog 14 #[.int .i64 cap, tval cl false sv] W (RB true W))) (hr : RdK w sv l) (hf : Few l) (hq : 0 ≤ q ∧ q ≤ 2147483647) (hcl : cl ≤ 9223372036854775807) :
    Calls Try.prog 22 #[.int .i64 cap, tval cl false sv, .int .i64 q] w (EncP (encE q cl false l, 0) w) := by
  have hbe := (Below.refl w.heap.size w).alloc (Nat.le_refl _) (.cells #[.int .i64 cl, .bool false, sv] 24)
  have hT := Bx.new w 24 [.int .i64 cl, .bool false, sv]
  have HV := Lib.hid (hv.out _ (hr.keep hbe))
  obtain ⟨sa, c, b, off, rfl, hac, hcell⟩ := hr
  have HC := Lib.hid hcell; clear hcell
  have hln := hf.1
  have HF := Lib.hid hf.2
  have hq0 := hq.1
  have hq1 := hq.2
  have hq2 : ¬ q < 0 := by omega
  have hq3 : ¬ 2147483647 < q := by omega
  have HQ : Hid (q ≤ 9223372036854775807 ∧ cl ≤ 9223372036854775807 ∧ (0 : Int) ≤ 9223372036854775807 ∧ (l.length : Int) ≤ 9223372036854775807) := Lib.hid ⟨by omega, hcl, by omega, by omega⟩
  have HP0 := Lib.hid (hE4_eq q cl false l)
  clear hf hq
  go_enter Try.func22, Try.ntmps22
  go_wp2_with fail
  refine HV.out.mono ?_
  rintro e w1 ⟨rfl, hb⟩
  have hle := hbe.trans (hb.mono hbe.size)
  have hT1 : Bx w1 w.heap.size 24 [.int .i64 cl, .bool false, .slice sa l.length c] := hT.call hb
  clear hb hbe hT HV
  obtain ⟨gB, hgB⟩ : ∃ gB, gB = w.heap.size := ⟨_, rfl⟩
  rw [← hgB] at hT1
  simp only [← hgB]
  have HgB := Lib.hid hgB
  clear hgB
  have c1 := hT1.cell (i := 1) rfl
  go_upto_region 8 with (fail)
  clear c1
  refine wp_region_inr (by kernel_rfl) (fun w W => Below w.heap.size w W) (fun W => Below w.heap.size w W ∧ Bx W gB 24 [.int .i64 cl, .bool false, .slice sa l.length c] ∧ True) (rEnc8 gB q cl 0 sa l.length c) (fun _ => false) (by kernel_rfl) (fun W W' hb h => ⟨h.1.trans (hb.mono h.1.size), h.2.1.call hb, trivial⟩) (rEnc8_keep gB q cl 0 sa l.length c) (⟨hle.drew, hT1, trivial⟩) ⟨?_, ?_, ?_, ?_, ?_, ?_, ?_, ?_, ?_, ?_, ?_, ?_, ?_, ?_, ?_, ?_, trivial⟩ ?_
  · intro a W hc hsz hold hdep
    have o2 : a.tmps.getD 2 undef = .int .i64 q := hold 2 (by kernel_rfl)
    clear hsz hold hdep
    refine stepR_do rfl (wanted_none rfl) ?_
    refine stepR_val (v := .int .i64 q) (Below.refl _ _) rfl fun K hK => ?_
    go_simp
    exact hK
  · intro a W hc hsz hold hdep
    have d0 : a.tmps.getD 24 undef = .int .i64 q := hdep 0 (by kernel_rfl) rfl _ rfl
    have e0 : a.tmps[24]?.getD undef = .int .i64 q := by rw [← Array.getD_eq_getD_getElem?]; exact d0
    clear hsz hold hdep
    refine stepR_do rfl (wanted_none rfl) ?_
    refine stepR_call (v := .string (str (b4 q))) (fun W' hb => hb) (fun _ => rfl) fun K hK => ?_
    go_simp
    refine (big14_4 _ _ HQ.out.1).mono ?_
    rintro e w' ⟨rfl, hb'⟩
    exact hK _ hb'
  · intro a W hc hsz hold hdep
    have d1 : a.tmps.getD 25 undef = .string (str (b4 q)) := hdep 1 (by kernel_rfl) rfl _ rfl
    have s1 := str_size (magic)
    have s2 := str_size (b4 q)
    have hnl : ¬ 9223372036854775807 < (magic).length + (b4 q).length := by
      have q1 := magic_len
      have q2 := b4_le q
      omega
    have ap : str (magic) ++ str (b4 q) = str (hE1 q) := str_app _ _
    have em : (⟨#[80, 77, 65, 49]⟩ : ByteArray) = str magic := rfl
    clear hsz hold hdep
    refine stepR_do rfl (wanted_none rfl) ?_
    refine stepR_val (v := .string (str (hE1 q))) (Below.refl _ _) rfl fun K hK => ?_
    go_simp
    exact hK
  · intro a W hc hsz hold hdep
    have o4 : a.tmps.getD 4 undef = .pointer (some ⟨gB, 0, none⟩) := hold 4 (by kernel_rfl)
    clear hsz hold hdep
    refine stepR_do rfl (wanted_none rfl) ?_
    refine stepR_val (v := .pointer (some ⟨gB, 0, none⟩)) (Below.refl _ _) rfl fun K hK => ?_
    go_simp
    exact hK
  · intro a W hc hsz hold hdep
    have d3 : a.tmps.getD 27 undef = .pointer (some ⟨gB, 0, none⟩) := hdep 3 (by kernel_rfl) rfl _ rfl
    have c0 := hc.2.1.cell (i := 0) rfl
    clear hsz hold hdep
    refine stepR_do rfl (wanted_none rfl) ?_
    refine stepR_val (v := .int .i64 cl) (Below.refl _ _) rfl fun K hK => ?_
    go_simp
    exact hK
  · intro a W hc hsz hold hdep
    have d4 : a.tmps.getD 28 undef = .int .i64 cl := hdep 4 (by kernel_rfl) rfl _ rfl
    have e4 : a.tmps[28]?.getD undef = .int .i64 cl := by rw [← Array.getD_eq_getD_getElem?]; exact d4
    clear hsz hold hdep
    refine stepR_do rfl (wanted_none rfl) ?_
    refine stepR_call (v := .string (str (b2 cl))) (fun W' hb => hb) (fun _ => rfl) fun K hK => ?_
    go_simp
    refine (big14_2 _ _ HQ.out.2.1).mono ?_
    rintro e w' ⟨rfl, hb'⟩
    exact hK _ hb'
  · intro a W hc hsz hold hdep
    have d2 : a.tmps.getD 26 undef = .string (str (hE1 q)) := hdep 2 (by kernel_rfl) rfl _ rfl
    have d5 : a.tmps.getD 29 undef = .string (str (b2 cl)) := hdep 5 (by kernel_rfl) rfl _ rfl
    have s1 := str_size (hE1 q)
    have s2 := str_size (b2 cl)
    have hnl : ¬ 9223372036854775807 < (hE1 q).length + (b2 cl).length := by
      have q1 := hE1_le q
      have q2 := b2_le cl
      omega
    have ap : str (hE1 q) ++ str (b2 cl) = str (hE2 q cl) := str_app _ _
    clear hsz hold hdep
    refine stepR_do rfl (wanted_none rfl) ?_
    refine stepR_val (v := .string (str (hE2 q cl))) (Below.refl _ _) rfl fun K hK => ?_
    go_simp
    exact hK
  · intro a W hc hsz hold hdep
    have o8 : a.tmps.getD 8 undef = .int .i64 0 := hold 8 (by kernel_rfl)
    clear hsz hold hdep
    refine stepR_do rfl (wanted_none rfl) ?_
    refine stepR_val (v := .int .i64 0) (Below.refl _ _) rfl fun K hK => ?_
    go_simp
    exact hK
  · intro a W hc hsz hold hdep
    have d7 : a.tmps.getD 31 undef = .int .i64 0 := hdep 7 (by kernel_rfl) rfl _ rfl
    have e7 : a.tmps[31]?.getD undef = .int .i64 0 := by rw [← Array.getD_eq_getD_getElem?]; exact d7
    clear hsz hold hdep
    refine stepR_do rfl (wanted_none rfl) ?_
    refine stepR_call (v := .string (str (b2 0))) (fun W' hb => hb) (fun _ => rfl) fun K hK => ?_
    go_simp
    refine (big14_2 _ _ HQ.out.2.2.1).mono ?_
    rintro e w' ⟨rfl, hb'⟩
    exact hK _ hb'
  · intro a W hc hsz hold hdep
    have d6 : a.tmps.getD 30 undef = .string (str (hE2 q cl)) := hdep 6 (by kernel_rfl) rfl _ rfl
    have d8 : a.tmps.getD 32 undef = .string (str (b2 0)) := hdep 8 (by kernel_rfl) rfl _ rfl
    have s1 := str_size (hE2 q cl)
    have s2 := str_size (b2 0)
    have hnl : ¬ 9223372036854775807 < (hE2 q cl).length + (b2 0).length := by
      have q1 := hE2_le q cl
      have q2 := b2_le 0
      omega
    have ap : str (hE2 q cl) ++ str (b2 0) = str (hE3 q cl 0) := str_app _ _
    clear hsz hold hdep
    refine stepR_do rfl (wanted_none rfl) ?_
    refine stepR_val (v := .string (str (hE3 q cl 0))) (Below.refl _ _) rfl fun K hK => ?_
    go_simp
    exact hK
  · intro a W hc hsz hold hdep
    have o4 : a.tmps.getD 4 undef = .pointer (some ⟨gB, 0, none⟩) := hold 4 (by kernel_rfl)
    clear hsz hold hdep
    refine stepR_do rfl (wanted_none rfl) ?_
    refine stepR_val (v := .pointer (some ⟨gB, 2, none⟩)) (Below.refl _ _) rfl fun K hK => ?_
    go_simp
    exact hK
  · intro a W hc hsz hold hdep
    have d10 : a.tmps.getD 34 undef = .pointer (some ⟨gB, 2, none⟩) := hdep 10 (by kernel_rfl) rfl _ rfl
    have c2 := hc.2.1.cell (i := 2) rfl
    clear hsz hold hdep
    refine stepR_do rfl (wanted_none rfl) ?_
    refine stepR_val (v := .slice sa l.length c) (Below.refl _ _) rfl fun K hK => ?_
    go_simp
    exact hK
  · intro a W hc hsz hold hdep
    have d11 : a.tmps.getD 35 undef = .slice sa l.length c := hdep 11 (by kernel_rfl) rfl _ rfl
    have e11 : a.tmps[35]?.getD undef = .slice sa l.length c := by rw [← Array.getD_eq_getD_getElem?]; exact d11
    clear hsz hold hdep
    refine stepR_do rfl (wanted_none rfl) ?_
    refine stepR_val (v := .int .i64 l.length) (Below.refl _ _) rfl fun K hK => ?_
    go_simp
    exact hK
  · intro a W hc hsz hold hdep
    have d12 : a.tmps.getD 36 undef = .int .i64 l.length := hdep 12 (by kernel_rfl) rfl _ rfl
    have e12 : a.tmps[36]?.getD undef = .int .i64 l.length := by rw [← Array.getD_eq_getD_getElem?]; exact d12
    clear hsz hold hdep
    refine stepR_do rfl (wanted_none rfl) ?_
    refine stepR_call (v := .string (str (b2 l.length))) (fun W' hb => hb) (fun _ => rfl) fun K hK => ?_
    go_simp
    refine (big14_2 _ _ HQ.out.2.2.2).mono ?_
    rintro e w' ⟨rfl, hb'⟩
    exact hK _ hb'
  · intro a W hc hsz hold hdep
    have d9 : a.tmps.getD 33 undef = .string (str (hE3 q cl 0)) := hdep 9 (by kernel_rfl) rfl _ rfl
    have d13 : a.tmps.getD 37 undef = .string (str (b2 l.length)) := hdep 13 (by kernel_rfl) rfl _ rfl
    have s1 := str_size (hE3 q cl 0)
    have s2 := str_size (b2 l.length)
    have hnl : ¬ 9223372036854775807 < (hE3 q cl 0).length + (b2 l.length).length := by
      have q1 := hE3_le q cl 0
      have q2 := b2_le l.length
      omega
    have ap : str (hE3 q cl 0) ++ str (b2 l.length) = str (hE4 q cl 0 l.length) := str_app _ _
    clear hsz hold hdep
    refine stepR_do rfl (wanted_none rfl) ?_
    refine stepR_val (v := .string (str (hE4 q cl 0 l.length))) (Below.refl _ _) rfl fun K hK => ?_
    go_simp
    exact hK
  · intro a W hc hsz hold hdep
    have d14 : a.tmps.getD 38 undef = .string (str (hE4 q cl 0 l.length)) := hdep 14 (by kernel_rfl) rfl _ rfl
    clear hsz hold hdep
    refine stepR_do rfl (wanted_none rfl) ?_
    refine stepR_val (v := .string (str (hE4 q cl 0 l.length))) (Below.refl _ _) rfl fun K hK => ?_
    go_simp
    exact hK
  · intro a W hC hd hsz hold hval
    have d9 : a.tmps.getD 9 undef = .string (str (hE4 q cl 0 l.length)) := hval 15 _ rfl rfl
    have d4 : a.tmps.getD 4 undef = .pointer (some ⟨gB, 0, none⟩) := hold 4 (by kernel_rfl)
    clear hold
    obtain ⟨tm, df⟩ := a
    replace hd : df = [] := hd
    replace hsz : tm.size = 85 := hsz
    replace d9 : tm.getD 9 undef = .string (str (hE4 q cl 0 l.length)) := d9
    replace d4 : tm.getD 4 undef = .pointer (some ⟨gB, 0, none⟩) := d4
    subst hd
    have e : tm = List.toArray (tm.getD 0 undef :: tm.getD 1 undef :: tm.getD 2 undef :: tm.getD 3 undef :: tm.getD 4 undef :: tm.getD 5 undef :: tm.getD 6 undef :: tm.getD 7 undef :: tm.getD 8 undef :: tm.getD 9 undef :: tm.getD 10 undef :: tm.getD 11 undef :: tm.getD 12 undef :: tm.getD 13 undef :: tm.getD 14 undef :: tm.getD 15 undef :: tm.getD 16 undef :: tm.getD 17 undef :: tm.getD 18 undef :: tm.getD 19 undef :: tm.getD 20 undef :: tm.getD 21 undef :: tm.getD 22 undef :: tm.getD 23 undef :: tm.getD 24 undef :: tm.getD 25 undef :: tm.getD 26 undef :: tm.getD 27 undef :: tm.getD 28 undef :: tm.getD 29 undef :: tm.getD 30 undef :: tm.getD 31 undef :: tm.getD 32 undef :: tm.getD 33 undef :: tm.getD 34 undef :: tm.getD 35 undef :: tm.getD 36 undef :: tm.getD 37 undef :: tm.getD 38 undef :: tm.getD 39 undef :: tm.getD 40 undef :: tm.getD 41 undef :: tm.getD 42 undef :: tm.getD 43 undef :: tm.getD 44 undef :: tm.getD 45 undef :: tm.getD 46 undef :: tm.getD 47 undef :: tm.getD 48 undef :: tm.getD 49 undef :: tm.getD 50 undef :: tm.getD 51 undef :: tm.getD 52 undef :: tm.getD 53 undef :: tm.getD 54 undef :: tm.getD 55 undef :: tm.getD 56 undef :: tm.getD 57 undef :: tm.getD 58 undef :: tm.getD 59 undef :: tm.getD 60 undef :: tm.getD 61 undef :: tm.getD 62 undef :: tm.getD 63 undef :: tm.getD 64 undef :: tm.getD 65 undef :: tm.getD 66 undef :: tm.getD 67 undef :: tm.getD 68 undef :: tm.getD 69 undef :: tm.getD 70 undef :: tm.getD 71 undef :: tm.getD 72 undef :: tm.getD 73 undef :: tm.getD 74 undef :: tm.getD 75 undef :: tm.getD 76 undef :: tm.getD 77 undef :: tm.getD 78 undef :: tm.getD 79 undef :: tm.getD 80 undef :: tm.getD 81 undef :: tm.getD 82 undef :: tm.getD 83 undef :: tm.getD 84 undef :: []) := arr_eq tm 85 hsz
    rw [d9, d4] at e
    clear d9 d4 hsz
    generalize tm.getD 0 undef = v0 at e
    generalize tm.getD 1 undef = v1 at e
    generalize tm.getD 2 undef = v2 at e
    generalize tm.getD 3 undef = v3 at e
    generalize tm.getD 5 undef = v5 at e
    generalize tm.getD 6 undef = v6 at e
    generalize tm.getD 7 undef = v7 at e
    generalize tm.getD 8 undef = v8 at e
    generalize tm.getD 10 undef = v10 at e
    generalize tm.getD 11 undef = v11 at e
    generalize tm.getD 12 undef = v12 at e
    generalize tm.getD 13 undef = v13 at e
    generalize tm.getD 14 undef = v14 at e
    generalize tm.getD 15 undef = v15 at e
    generalize tm.getD 16 undef = v16 at e
    generalize tm.getD 17 undef = v17 at e
    generalize tm.getD 18 undef = v18 at e
    generalize tm.getD 19 undef = v19 at e
    generalize tm.getD 20 undef = v20 at e
    generalize tm.getD 21 undef = v21 at e
    generalize tm.getD 22 undef = v22 at e
    generalize tm.getD 23 undef = v23 at e
    generalize tm.getD 24 undef = v24 at e
    generalize tm.getD 25 undef = v25 at e
    generalize tm.getD 26 undef = v26 at e
    generalize tm.getD 27 undef = v27 at e
    generalize tm.getD 28 undef = v28 at e
    generalize tm.getD 29 undef = v29 at e
    generalize tm.getD 30 undef = v30 at e
    generalize tm.getD 31 undef = v31 at e
    generalize tm.getD 32 undef = v32 at e
    generalize tm.getD 33 undef = v33 at e
    generalize tm.getD 34 undef = v34 at e
    generalize tm.getD 35 undef = v35 at e
    generalize tm.getD 36 undef = v36 at e
    generalize tm.getD 37 undef = v37 at e
    generalize tm.getD 38 undef = v38 at e
    generalize tm.getD 39 undef = v39 at e
    generalize tm.getD 40 undef = v40 at e
    generalize tm.getD 41 undef = v41 at e
    generalize tm.getD 42 undef = v42 at e
    generalize tm.getD 43 undef = v43 at e
    generalize tm.getD 44 undef = v44 at e
    generalize tm.getD 45 undef = v45 at e
    generalize tm.getD 46 undef = v46 at e
    generalize tm.getD 47 undef = v47 at e
    generalize tm.getD 48 undef = v48 at e
    generalize tm.getD 49 undef = v49 at e
    generalize tm.getD 50 undef = v50 at e
    generalize tm.getD 51 undef = v51 at e
    generalize tm.getD 52 undef = v52 at e
    generalize tm.getD 53 undef = v53 at e
    generalize tm.getD 54 undef = v54 at e
    generalize tm.getD 55 undef = v55 at e
    generalize tm.getD 56 undef = v56 at e
    generalize tm.getD 57 undef = v57 at e
    generalize tm.getD 58 undef = v58 at e
    generalize tm.getD 59 undef = v59 at e
    generalize tm.getD 60 undef = v60 at e
    generalize tm.getD 61 undef = v61 at e
    generalize tm.getD 62 undef = v62 at e
    generalize tm.getD 63 undef = v63 at e
    generalize tm.getD 64 undef = v64 at e
    generalize tm.getD 65 undef = v65 at e
    generalize tm.getD 66 undef = v66 at e
    generalize tm.getD 67 undef = v67 at e
    generalize tm.getD 68 undef = v68 at e
    generalize tm.getD 69 undef = v69 at e
    generalize tm.getD 70 undef = v70 at e
    generalize tm.getD 71 undef = v71 at e
    generalize tm.getD 72 undef = v72 at e
    generalize tm.getD 73 undef = v73 at e
    generalize tm.getD 74 undef = v74 at e
    generalize tm.getD 75 undef = v75 at e
    generalize tm.getD 76 undef = v76 at e
    generalize tm.getD 77 undef = v77 at e
    generalize tm.getD 78 undef = v78 at e
    generalize tm.getD 79 undef = v79 at e
    generalize tm.getD 80 undef = v80 at e
    generalize tm.getD 81 undef = v81 at e
    generalize tm.getD 82 undef = v82 at e
    generalize tm.getD 83 undef = v83 at e
    generalize tm.getD 84 undef = v84 at e
    subst e
    obtain ⟨hle, hT, _⟩ := hC
    have hE0 : hE4 q cl 0 l.length = part q cl false l 0 := HP0.out
    rw [hE0]
    clear hval HP0 hE0
    go_wp2_with fail
    go_loopw [9, 10] (fun vs vi wr => ∃ i : Nat, i ≤ l.length ∧ vi = .int .i64 i ∧ vs = .string (str (part q cl false l i)) ∧ Below w.heap.size w wr ∧ Bx wr gB 24 [.int .i64 cl, .bool false, .slice sa l.length c]) (fun _ vi _ => l.length - (intOf vi).toNat)
    case atStart => exact ⟨0, by omega, rfl, rfl, hle, hT⟩
    case round =>
      clear hle hT
      obtain ⟨i, hi, rfl, rfl, hle, hT⟩ := hrel
      have c2 := hT.cell (i := 2) rfl
      by_cases hlt : i < l.length
      · obtain ⟨ha, hrange⟩ := HC.out i hlt
        have HP := Lib.hid ((tE7_eq (part q cl false l i) (T.tr l i)).trans (part_succ (q := q) (cl := cl) (fin := false) hlt).symm)
        have hpl := part_le q cl false l i
        obtain ⟨S2, hS2⟩ : ∃ S2, S2 = part q cl false l (i + 1) := ⟨_, rfl⟩
        rw [← hS2] at HP
        have HS2 := Lib.hid hS2; clear hS2
        have HL : Hid ((part q cl false l i).length ≤ 3000) := Lib.hid (by omega)
        generalize part q cl false l i = S at HP HL ⊢
        have HX := Lib.hid (mxT_of (HF.out i hlt))
        generalize T.tr l i = x at *
        have hix := fun w' => run_idxS Try.underlying22 Try.sizeTrack (cap := c) ha hlt _ rfl w'
        have hrg : wr.rangeAt b (off + i * 7) (tcs x) := fun j u hu => (hle.cell (p := ⟨b, off + i * 7 + j, none⟩) (World.block_lt_of_cell? w _ (hrange j u hu))).trans (hrange j u hu)
        clear hrange hpl
        obtain ⟨hc0, hc1, hc2, hc3, hc4, hc5, hc6⟩ := rd7 hrg
        have Ha := Lib.hid ha; clear ha hrg
        have hXn : Bx (wr.alloc (.cells #[.int .i64 x.num, .int .i64 x.ses, .int .i64 x.st, .int .i64 x.len, .int .i64 x.nx, .int .i64 x.sta, .int .i64 x.pk] 40)) wr.heap.size 40 (tcs x) := Bx.new _ _ (tcs x)
        have hTn := hT.alloc (.cells #[.int .i64 x.num, .int .i64 x.ses, .int .i64 x.st, .int .i64 x.len, .int .i64 x.nx, .int .i64 x.sta, .int .i64 x.pk] 40)
        have hln2 := hle.alloc hle.size (.cells #[.int .i64 x.num, .int .i64 x.ses, .int .i64 x.st, .int .i64 x.len, .int .i64 x.nx, .int .i64 x.sta, .int .i64 x.pk] 40)
        obtain ⟨gX, hgX⟩ : ∃ gX, gX = wr.heap.size := ⟨_, rfl⟩
        rw [← hgX] at hXn
        go_upto_region 13 with (fail)
        simp only [← hgX]
        clear hc0 hc1 hc2 hc3 hc4 hc5 hc6 hix c2 hgX hT hle
        generalize wr.alloc (.cells #[.int .i64 x.num, .int .i64 x.ses, .int .i64 x.st, .int .i64 x.len, .int .i64 x.nx, .int .i64 x.sta, .int .i64 x.pk] 40) = w5 at hXn hTn hln2 ⊢
        refine wp_region_in2 (by kernel_rfl) (fun w W => Below w.heap.size w W) (fun W => Below w.heap.size w W ∧ Bx W gB 24 [.int .i64 cl, .bool false, .slice sa l.length c] ∧ Bx W gX 40 (tcs x)) (rEnc13 gX S x) (fun _ => false) (by kernel_rfl) (fun W W' hb h => ⟨h.1.trans (hb.mono h.1.size), h.2.1.call hb, h.2.2.call hb⟩) (rEnc13_keep gX S x) (⟨hln2.drew, hTn, hXn⟩) ⟨?_, ?_, ?_, ?_, ?_, ?_, ?_, ?_, ?_, ?_, ?_, ?_, ?_, ?_, ?_, ?_, ?_, ?_, ?_, ?_, ?_, ?_, ?_, ?_, ?_, ?_, ?_, ?_, ?_, ?_, trivial⟩ ?_
        · intro a W hc hsz hold hdep hnot
          have o9 : a.tmps.getD 9 undef = .string (str (S)) := hnot 29 _ 9 rfl rfl (by kernel_rfl)
          clear hsz hold hdep hnot
          refine stepR_do rfl (wanted_none rfl) ?_
          refine stepR_val (v := .string (str (S))) (Below.refl _ _) rfl fun K hK => ?_
          go_simp
          exact hK
        · intro a W hc hsz hold hdep hnot
          have o11 : a.tmps.getD 11 undef = .pointer (some ⟨gX, 0, none⟩) := hold 11 (by kernel_rfl)
          clear hsz hold hdep hnot
          refine stepR_do rfl (wanted_none rfl) ?_
          refine stepR_val (v := .pointer (some ⟨gX, 0, none⟩)) (Below.refl _ _) rfl fun K hK => ?_
          go_simp
          exact hK
        · intro a W hc hsz hold hdep hnot
          have d1 : a.tmps.getD 52 undef = .pointer (some ⟨gX, 0, none⟩) := hdep 1 (by kernel_rfl) rfl _ rfl
          have c0 := hc.2.2.cell (i := 0) rfl
          clear hsz hold hdep hnot
          refine stepR_do rfl (wanted_none rfl) ?_
          refine stepR_val (v := .int .i64 x.num) (Below.refl _ _) rfl fun K hK => ?_
          go_simp
          exact hK
        · intro a W hc hsz hold hdep hnot
          have d2 : a.tmps.getD 53 undef = .int .i64 x.num := hdep 2 (by kernel_rfl) rfl _ rfl
          have e2 : a.tmps[53]?.getD undef = .int .i64 x.num := by rw [← Array.getD_eq_getD_getElem?]; exact d2
          clear hsz hold hdep hnot
          refine stepR_do rfl (wanted_none rfl) ?_
          refine stepR_call (v := .string (str (b2 x.num))) (fun W' hb => hb) (fun _ => rfl) fun K hK => ?_
          go_simp
          refine (big14_2 _ _ HX.out.1).mono ?_
          rintro e w' ⟨rfl, hb'⟩
          exact hK _ hb'
        · intro a W hc hsz hold hdep hnot
          have d0 : a.tmps.getD 51 undef = .string (str (S)) := hdep 0 (by kernel_rfl) rfl _ rfl
          have d3 : a.tmps.getD 54 undef = .string (str (b2 x.num)) := hdep 3 (by kernel_rfl) rfl _ rfl
          have s1 := str_size (S)
          have s2 := str_size (b2 x.num)
          have hnl : ¬ 9223372036854775807 < (S).length + (b2 x.num).length := by
            have q1 := HL.out
            have q2 := b2_le x.num
            omega
          have ap : str (S) ++ str (b2 x.num) = str (tE1 S x) := str_app _ _
          clear hsz hold hdep hnot
          refine stepR_do rfl (wanted_none rfl) ?_
          refine stepR_val (v := .string (str (tE1 S x))) (Below.refl _ _) rfl fun K hK => ?_
          go_simp
          exact hK
        · intro a W hc hsz hold hdep hnot
          have o11 : a.tmps.getD 11 undef = .pointer (some ⟨gX, 0, none⟩) := hold 11 (by kernel_rfl)
          clear hsz hold hdep hnot
          refine stepR_do rfl (wanted_none rfl) ?_
          refine stepR_val (v := .pointer (some ⟨gX, 1, none⟩)) (Below.refl _ _) rfl fun K hK => ?_
          go_simp
          exact hK
        · intro a W hc hsz hold hdep hnot
          have d5 : a.tmps.getD 56 undef = .pointer (some ⟨gX, 1, none⟩) := hdep 5 (by kernel_rfl) rfl _ rfl
          have c0 := hc.2.2.cell (i := 1) rfl
          clear hsz hold hdep hnot
          refine stepR_do rfl (wanted_none rfl) ?_
          refine stepR_val (v := .int .i64 x.ses) (Below.refl _ _) rfl fun K hK => ?_
          go_simp
          exact hK
        · intro a W hc hsz hold hdep hnot
          have d6 : a.tmps.getD 57 undef = .int .i64 x.ses := hdep 6 (by kernel_rfl) rfl _ rfl
          have e6 : a.tmps[57]?.getD undef = .int .i64 x.ses := by rw [← Array.getD_eq_getD_getElem?]; exact d6
          clear hsz hold hdep hnot
          refine stepR_do rfl (wanted_none rfl) ?_
          refine stepR_call (v := .string (str (b2 x.ses))) (fun W' hb => hb) (fun _ => rfl) fun K hK => ?_
          go_simp
          refine (big14_2 _ _ HX.out.2.1).mono ?_
          rintro e w' ⟨rfl, hb'⟩
          exact hK _ hb'
        · intro a W hc hsz hold hdep hnot
          have d4 : a.tmps.getD 55 undef = .string (str (tE1 S x)) := hdep 4 (by kernel_rfl) rfl _ rfl
          have d7 : a.tmps.getD 58 undef = .string (str (b2 x.ses)) := hdep 7 (by kernel_rfl) rfl _ rfl
          have s1 := str_size (tE1 S x)
          have s2 := str_size (b2 x.ses)
          have hnl : ¬ 9223372036854775807 < (tE1 S x).length + (b2 x.ses).length := by
            have q1 := Nat.le_trans (tE1_le S x) (Nat.add_le_add_right HL.out _)
            have q2 := b2_le x.ses
            omega
          have ap : str (tE1 S x) ++ str (b2 x.ses) = str (tE2 S x) := str_app _ _
          clear hsz hold hdep hnot
          refine stepR_do rfl (wanted_none rfl) ?_
          refine stepR_val (v := .string (str (tE2 S x))) (Below.refl _ _) rfl fun K hK => ?_
          go_simp
          exact hK
        · intro a W hc hsz hold hdep hnot
          have o11 : a.tmps.getD 11 undef = .pointer (some ⟨gX, 0, none⟩) := hold 11 (by kernel_rfl)
          clear hsz hold hdep hnot
          refine stepR_do rfl (wanted_none rfl) ?_
          refine stepR_val (v := .pointer (some ⟨gX, 2, none⟩)) (Below.refl _ _) rfl fun K hK => ?_
          go_simp
          exact hK
        · intro a W hc hsz hold hdep hnot
          have d9 : a.tmps.getD 60 undef = .pointer (some ⟨gX, 2, none⟩) := hdep 9 (by kernel_rfl) rfl _ rfl
          have c0 := hc.2.2.cell (i := 2) rfl
          clear hsz hold hdep hnot
          refine stepR_do rfl (wanted_none rfl) ?_
          refine stepR_val (v := .int .i64 x.st) (Below.refl _ _) rfl fun K hK => ?_
          go_simp
          exact hK
        · intro a W hc hsz hold hdep hnot
          have d10 : a.tmps.getD 61 undef = .int .i64 x.st := hdep 10 (by kernel_rfl) rfl _ rfl
          have e10 : a.tmps[61]?.getD undef = .int .i64 x.st := by rw [← Array.getD_eq_getD_getElem?]; exact d10
          clear hsz hold hdep hnot
          refine stepR_do rfl (wanted_none rfl) ?_
          refine stepR_call (v := .string (str (b4 x.st))) (fun W' hb => hb) (fun _ => rfl) fun K hK => ?_
          go_simp
          refine (big14_4 _ _ HX.out.2.2.1).mono ?_
          rintro e w' ⟨rfl, hb'⟩
          exact hK _ hb'
        · intro a W hc hsz hold hdep hnot
          have d8 : a.tmps.getD 59 undef = .string (str (tE2 S x)) := hdep 8 (by kernel_rfl) rfl _ rfl
          have d11 : a.tmps.getD 62 undef = .string (str (b4 x.st)) := hdep 11 (by kernel_rfl) rfl _ rfl
          have s1 := str_size (tE2 S x)
          have s2 := str_size (b4 x.st)
          have hnl : ¬ 9223372036854775807 < (tE2 S x).length + (b4 x.st).length := by
            have q1 := Nat.le_trans (tE2_le S x) (Nat.add_le_add_right HL.out _)
            have q2 := b4_le x.st
            omega
          have ap : str (tE2 S x) ++ str (b4 x.st) = str (tE3 S x) := str_app _ _
          clear hsz hold hdep hnot
          refine stepR_do rfl (wanted_none rfl) ?_
          refine stepR_val (v := .string (str (tE3 S x))) (Below.refl _ _) rfl fun K hK => ?_
          go_simp
          exact hK
        · intro a W hc hsz hold hdep hnot
          have o11 : a.tmps.getD 11 undef = .pointer (some ⟨gX, 0, none⟩) := hold 11 (by kernel_rfl)
          clear hsz hold hdep hnot
          refine stepR_do rfl (wanted_none rfl) ?_
          refine stepR_val (v := .pointer (some ⟨gX, 3, none⟩)) (Below.refl _ _) rfl fun K hK => ?_
          go_simp
          exact hK
        · intro a W hc hsz hold hdep hnot
          have d13 : a.tmps.getD 64 undef = .pointer (some ⟨gX, 3, none⟩) := hdep 13 (by kernel_rfl) rfl _ rfl
          have c0 := hc.2.2.cell (i := 3) rfl
          clear hsz hold hdep hnot
          refine stepR_do rfl (wanted_none rfl) ?_
          refine stepR_val (v := .int .i64 x.len) (Below.refl _ _) rfl fun K hK => ?_
          go_simp
          exact hK
        · intro a W hc hsz hold hdep hnot
          have d14 : a.tmps.getD 65 undef = .int .i64 x.len := hdep 14 (by kernel_rfl) rfl _ rfl
          have e14 : a.tmps[65]?.getD undef = .int .i64 x.len := by rw [← Array.getD_eq_getD_getElem?]; exact d14
          clear hsz hold hdep hnot
          refine stepR_do rfl (wanted_none rfl) ?_
          refine stepR_call (v := .string (str (b4 x.len))) (fun W' hb => hb) (fun _ => rfl) fun K hK => ?_
          go_simp
          refine (big14_4 _ _ HX.out.2.2.2.1).mono ?_
          rintro e w' ⟨rfl, hb'⟩
          exact hK _ hb'
        · intro a W hc hsz hold hdep hnot
          have d12 : a.tmps.getD 63 undef = .string (str (tE3 S x)) := hdep 12 (by kernel_rfl) rfl _ rfl
          have d15 : a.tmps.getD 66 undef = .string (str (b4 x.len)) := hdep 15 (by kernel_rfl) rfl _ rfl
          have s1 := str_size (tE3 S x)
          have s2 := str_size (b4 x.len)
          have hnl : ¬ 9223372036854775807 < (tE3 S x).length + (b4 x.len).length := by
            have q1 := Nat.le_trans (tE3_le S x) (Nat.add_le_add_right HL.out _)
            have q2 := b4_le x.len
            omega
          have ap : str (tE3 S x) ++ str (b4 x.len) = str (tE4 S x) := str_app _ _
          clear hsz hold hdep hnot
          refine stepR_do rfl (wanted_none rfl) ?_
          refine stepR_val (v := .string (str (tE4 S x))) (Below.refl _ _) rfl fun K hK => ?_
          go_simp
          exact hK
        · intro a W hc hsz hold hdep hnot
          have o11 : a.tmps.getD 11 undef = .pointer (some ⟨gX, 0, none⟩) := hold 11 (by kernel_rfl)
          clear hsz hold hdep hnot
          refine stepR_do rfl (wanted_none rfl) ?_
          refine stepR_val (v := .pointer (some ⟨gX, 4, none⟩)) (Below.refl _ _) rfl fun K hK => ?_
          go_simp
          exact hK
        · intro a W hc hsz hold hdep hnot
          have d17 : a.tmps.getD 68 undef = .pointer (some ⟨gX, 4, none⟩) := hdep 17 (by kernel_rfl) rfl _ rfl
          have c0 := hc.2.2.cell (i := 4) rfl
          clear hsz hold hdep hnot
          refine stepR_do rfl (wanted_none rfl) ?_
          refine stepR_val (v := .int .i64 x.nx) (Below.refl _ _) rfl fun K hK => ?_
          go_simp
          exact hK
        · intro a W hc hsz hold hdep hnot
          have d18 : a.tmps.getD 69 undef = .int .i64 x.nx := hdep 18 (by kernel_rfl) rfl _ rfl
          have e18 : a.tmps[69]?.getD undef = .int .i64 x.nx := by rw [← Array.getD_eq_getD_getElem?]; exact d18
          clear hsz hold hdep hnot
          refine stepR_do rfl (wanted_none rfl) ?_
          refine stepR_call (v := .string (str (b4 x.nx))) (fun W' hb => hb) (fun _ => rfl) fun K hK => ?_
          go_simp
          refine (big14_4 _ _ HX.out.2.2.2.2.1).mono ?_
          rintro e w' ⟨rfl, hb'⟩
          exact hK _ hb'
        · intro a W hc hsz hold hdep hnot
          have d16 : a.tmps.getD 67 undef = .string (str (tE4 S x)) := hdep 16 (by kernel_rfl) rfl _ rfl
          have d19 : a.tmps.getD 70 undef = .string (str (b4 x.nx)) := hdep 19 (by kernel_rfl) rfl _ rfl
          have s1 := str_size (tE4 S x)
          have s2 := str_size (b4 x.nx)
          have hnl : ¬ 9223372036854775807 < (tE4 S x).length + (b4 x.nx).length := by
            have q1 := Nat.le_trans (tE4_le S x) (Nat.add_le_add_right HL.out _)
            have q2 := b4_le x.nx
            omega
          have ap : str (tE4 S x) ++ str (b4 x.nx) = str (tE5 S x) := str_app _ _
          clear hsz hold hdep hnot
          refine stepR_do rfl (wanted_none rfl) ?_
          refine stepR_val (v := .string (str (tE5 S x))) (Below.refl _ _) rfl fun K hK => ?_
          go_simp
          exact hK
        · intro a W hc hsz hold hdep hnot
          have o11 : a.tmps.getD 11 undef = .pointer (some ⟨gX, 0, none⟩) := hold 11 (by kernel_rfl)
          clear hsz hold hdep hnot
          refine stepR_do rfl (wanted_none rfl) ?_
          refine stepR_val (v := .pointer (some ⟨gX, 5, none⟩)) (Below.refl _ _) rfl fun K hK => ?_
          go_simp
          exact hK
        · intro a W hc hsz hold hdep hnot
          have d21 : a.tmps.getD 72 undef = .pointer (some ⟨gX, 5, none⟩) := hdep 21 (by kernel_rfl) rfl _ rfl
          have c0 := hc.2.2.cell (i := 5) rfl
          clear hsz hold hdep hnot
          refine stepR_do rfl (wanted_none rfl) ?_
          refine stepR_val (v := .int .i64 x.sta) (Below.refl _ _) rfl fun K hK => ?_
          go_simp
          exact hK
        · intro a W hc hsz hold hdep hnot
          have d22 : a.tmps.getD 73 undef = .int .i64 x.sta := hdep 22 (by kernel_rfl) rfl _ rfl
          have e22 : a.tmps[73]?.getD undef = .int .i64 x.sta := by rw [← Array.getD_eq_getD_getElem?]; exact d22
          clear hsz hold hdep hnot
          refine stepR_do rfl (wanted_none rfl) ?_
          refine stepR_call (v := .string (str (b2 x.sta))) (fun W' hb => hb) (fun _ => rfl) fun K hK => ?_
          go_simp
          refine (big14_2 _ _ HX.out.2.2.2.2.2.1).mono ?_
          rintro e w' ⟨rfl, hb'⟩
          exact hK _ hb'
        · intro a W hc hsz hold hdep hnot
          have d20 : a.tmps.getD 71 undef = .string (str (tE5 S x)) := hdep 20 (by kernel_rfl) rfl _ rfl
          have d23 : a.tmps.getD 74 undef = .string (str (b2 x.sta)) := hdep 23 (by kernel_rfl) rfl _ rfl
          have s1 := str_size (tE5 S x)
          have s2 := str_size (b2 x.sta)
          have hnl : ¬ 9223372036854775807 < (tE5 S x).length + (b2 x.sta).length := by
            have q1 := Nat.le_trans (tE5_le S x) (Nat.add_le_add_right HL.out _)
            have q2 := b2_le x.sta
            omega
          have ap : str (tE5 S x) ++ str (b2 x.sta) = str (tE6 S x) := str_app _ _
          clear hsz hold hdep hnot
          refine stepR_do rfl (wanted_none rfl) ?_
          refine stepR_val (v := .string (str (tE6 S x))) (Below.refl _ _) rfl fun K hK => ?_
          go_simp
          exact hK
        · intro a W hc hsz hold hdep hnot
          have o11 : a.tmps.getD 11 undef = .pointer (some ⟨gX, 0, none⟩) := hold 11 (by kernel_rfl)
          clear hsz hold hdep hnot
          refine stepR_do rfl (wanted_none rfl) ?_
          refine stepR_val (v := .pointer (some ⟨gX, 6, none⟩)) (Below.refl _ _) rfl fun K hK => ?_
          go_simp
          exact hK
        · intro a W hc hsz hold hdep hnot
          have d25 : a.tmps.getD 76 undef = .pointer (some ⟨gX, 6, none⟩) := hdep 25 (by kernel_rfl) rfl _ rfl
          have c0 := hc.2.2.cell (i := 6) rfl
          clear hsz hold hdep hnot
          refine stepR_do rfl (wanted_none rfl) ?_
          refine stepR_val (v := .int .i64 x.pk) (Below.refl _ _) rfl fun K hK => ?_
          go_simp
          exact hK
        · intro a W hc hsz hold hdep hnot
          have d26 : a.tmps.getD 77 undef = .int .i64 x.pk := hdep 26 (by kernel_rfl) rfl _ rfl
          have e26 : a.tmps[77]?.getD undef = .int .i64 x.pk := by rw [← Array.getD_eq_getD_getElem?]; exact d26
          clear hsz hold hdep hnot
          refine stepR_do rfl (wanted_none rfl) ?_
          refine stepR_call (v := .string (str (b2 x.pk))) (fun W' hb => hb) (fun _ => rfl) fun K hK => ?_
          go_simp
          refine (big14_2 _ _ HX.out.2.2.2.2.2.2).mono ?_
          rintro e w' ⟨rfl, hb'⟩
          exact hK _ hb'
        · intro a W hc hsz hold hdep hnot
          have d24 : a.tmps.getD 75 undef = .string (str (tE6 S x)) := hdep 24 (by kernel_rfl) rfl _ rfl
          have d27 : a.tmps.getD 78 undef = .string (str (b2 x.pk)) := hdep 27 (by kernel_rfl) rfl _ rfl
          have s1 := str_size (tE6 S x)
          have s2 := str_size (b2 x.pk)
          have hnl : ¬ 9223372036854775807 < (tE6 S x).length + (b2 x.pk).length := by
            have q1 := Nat.le_trans (tE6_le S x) (Nat.add_le_add_right HL.out _)
            have q2 := b2_le x.pk
            omega
          have ap : str (tE6 S x) ++ str (b2 x.pk) = str (tE7 S x) := str_app _ _
          clear hsz hold hdep hnot
          refine stepR_do rfl (wanted_none rfl) ?_
          refine stepR_val (v := .string (str (tE7 S x))) (Below.refl _ _) rfl fun K hK => ?_
          go_simp
          exact hK
        · intro a W hc hsz hold hdep hnot
          have d28 : a.tmps.getD 79 undef = .string (str (tE7 S x)) := hdep 28 (by kernel_rfl) rfl _ rfl
          clear hsz hold hdep hnot
          refine stepR_do rfl (wanted_none rfl) ?_
          refine stepR_val (v := .string (str (tE7 S x))) (Below.refl _ _) rfl fun K hK => ?_
          go_simp
          exact hK
        · intro a W hC hd hsz hold hval
          have d0 : a.tmps.getD 0 undef = v0 := hold 0 (by kernel_rfl)
          have d1 : a.tmps.getD 1 undef = v1 := hold 1 (by kernel_rfl)
          have d2 : a.tmps.getD 2 undef = v2 := hold 2 (by kernel_rfl)
          have d3 : a.tmps.getD 3 undef = v3 := hold 3 (by kernel_rfl)
          have d4 : a.tmps.getD 4 undef = .pointer (some ⟨gB, 0, none⟩) := hold 4 (by kernel_rfl)
          have d5 : a.tmps.getD 5 undef = v5 := hold 5 (by kernel_rfl)
          have d6 : a.tmps.getD 6 undef = v6 := hold 6 (by kernel_rfl)
          have d7 : a.tmps.getD 7 undef = v7 := hold 7 (by kernel_rfl)
          have d8 : a.tmps.getD 8 undef = v8 := hold 8 (by kernel_rfl)
          have d12 : a.tmps.getD 12 undef = v12 := hold 12 (by kernel_rfl)
          have d13 : a.tmps.getD 13 undef = v13 := hold 13 (by kernel_rfl)
          have d14 : a.tmps.getD 14 undef = v14 := hold 14 (by kernel_rfl)
          have d15 : a.tmps.getD 15 undef = v15 := hold 15 (by kernel_rfl)
          have d16 : a.tmps.getD 16 undef = v16 := hold 16 (by kernel_rfl)
          have d17 : a.tmps.getD 17 undef = v17 := hold 17 (by kernel_rfl)
          have d18 : a.tmps.getD 18 undef = v18 := hold 18 (by kernel_rfl)
          have d19 : a.tmps.getD 19 undef = v19 := hold 19 (by kernel_rfl)
          have d20 : a.tmps.getD 20 undef = v20 := hold 20 (by kernel_rfl)
          have d21 : a.tmps.getD 21 undef = v21 := hold 21 (by kernel_rfl)
          have d22 : a.tmps.getD 22 undef = v22 := hold 22 (by kernel_rfl)
          have d23 : a.tmps.getD 23 undef = v23 := hold 23 (by kernel_rfl)
          have d24 : a.tmps.getD 24 undef = v24 := hold 24 (by kernel_rfl)
          have d25 : a.tmps.getD 25 undef = v25 := hold 25 (by kernel_rfl)
          have d26 : a.tmps.getD 26 undef = v26 := hold 26 (by kernel_rfl)
          have d27 : a.tmps.getD 27 undef = v27 := hold 27 (by kernel_rfl)
          have d28 : a.tmps.getD 28 undef = v28 := hold 28 (by kernel_rfl)
          have d29 : a.tmps.getD 29 undef = v29 := hold 29 (by kernel_rfl)
          have d30 : a.tmps.getD 30 undef = v30 := hold 30 (by kernel_rfl)
          have d31 : a.tmps.getD 31 undef = v31 := hold 31 (by kernel_rfl)
          have d32 : a.tmps.getD 32 undef = v32 := hold 32 (by kernel_rfl)
          have d33 : a.tmps.getD 33 undef = v33 := hold 33 (by kernel_rfl)
          have d34 : a.tmps.getD 34 undef = v34 := hold 34 (by kernel_rfl)
          have d35 : a.tmps.getD 35 undef = v35 := hold 35 (by kernel_rfl)
          have d36 : a.tmps.getD 36 undef = v36 := hold 36 (by kernel_rfl)
          have d37 : a.tmps.getD 37 undef = v37 := hold 37 (by kernel_rfl)
          have d38 : a.tmps.getD 38 undef = v38 := hold 38 (by kernel_rfl)
          have d80 : a.tmps.getD 80 undef = v80 := hold 80 (by kernel_rfl)
          have d81 : a.tmps.getD 81 undef = v81 := hold 81 (by kernel_rfl)
          have d82 : a.tmps.getD 82 undef = v82 := hold 82 (by kernel_rfl)
          have d83 : a.tmps.getD 83 undef = v83 := hold 83 (by kernel_rfl)
          have d84 : a.tmps.getD 84 undef = v84 := hold 84 (by kernel_rfl)
          have d10 : a.tmps.getD 10 undef = .int .i64 i := hold 10 (by kernel_rfl)
          have d9 : a.tmps.getD 9 undef = .string (str (tE7 S x)) := hval 29 _ rfl rfl
          clear hold
          obtain ⟨tm, df⟩ := a
          replace hd : df = [] := hd
          replace hsz : tm.size = 85 := hsz
          replace d0 : tm.getD 0 undef = v0 := d0
          replace d1 : tm.getD 1 undef = v1 := d1
          replace d2 : tm.getD 2 undef = v2 := d2
          replace d3 : tm.getD 3 undef = v3 := d3
          replace d4 : tm.getD 4 undef = .pointer (some ⟨gB, 0, none⟩) := d4
          replace d5 : tm.getD 5 undef = v5 := d5
          replace d6 : tm.getD 6 undef = v6 := d6
          replace d7 : tm.getD 7 undef = v7 := d7
          replace d8 : tm.getD 8 undef = v8 := d8
          replace d12 : tm.getD 12 undef = v12 := d12
          replace d13 : tm.getD 13 undef = v13 := d13
          replace d14 : tm.getD 14 undef = v14 := d14
          replace d15 : tm.getD 15 undef = v15 := d15
          replace d16 : tm.getD 16 undef = v16 := d16
          replace d17 : tm.getD 17 undef = v17 := d17
          replace d18 : tm.getD 18 undef = v18 := d18
          replace d19 : tm.getD 19 undef = v19 := d19
          replace d20 : tm.getD 20 undef = v20 := d20
          replace d21 : tm.getD 21 undef = v21 := d21
          replace d22 : tm.getD 22 undef = v22 := d22
          replace d23 : tm.getD 23 undef = v23 := d23
          replace d24 : tm.getD 24 undef = v24 := d24
          replace d25 : tm.getD 25 undef = v25 := d25
          replace d26 : tm.getD 26 undef = v26 := d26
          replace d27 : tm.getD 27 undef = v27 := d27
          replace d28 : tm.getD 28 undef = v28 := d28
          replace d29 : tm.getD 29 undef = v29 := d29
          replace d30 : tm.getD 30 undef = v30 := d30
          replace d31 : tm.getD 31 undef = v31 := d31
          replace d32 : tm.getD 32 undef = v32 := d32
          replace d33 : tm.getD 33 undef = v33 := d33
          replace d34 : tm.getD 34 undef = v34 := d34
          replace d35 : tm.getD 35 undef = v35 := d35
          replace d36 : tm.getD 36 undef = v36 := d36
          replace d37 : tm.getD 37 undef = v37 := d37
          replace d38 : tm.getD 38 undef = v38 := d38
          replace d80 : tm.getD 80 undef = v80 := d80
          replace d81 : tm.getD 81 undef = v81 := d81
          replace d82 : tm.getD 82 undef = v82 := d82
          replace d83 : tm.getD 83 undef = v83 := d83
          replace d84 : tm.getD 84 undef = v84 := d84
          replace d10 : tm.getD 10 undef = .int .i64 i := d10
          replace d9 : tm.getD 9 undef = .string (str (tE7 S x)) := d9
          subst hd
          have e : tm = List.toArray (tm.getD 0 undef :: tm.getD 1 undef :: tm.getD 2 undef :: tm.getD 3 undef :: tm.getD 4 undef :: tm.getD 5 undef :: tm.getD 6 undef :: tm.getD 7 undef :: tm.getD 8 undef :: tm.getD 9 undef :: tm.getD 10 undef :: tm.getD 11 undef :: tm.getD 12 undef :: tm.getD 13 undef :: tm.getD 14 undef :: tm.getD 15 undef :: tm.getD 16 undef :: tm.getD 17 undef :: tm.getD 18 undef :: tm.getD 19 undef :: tm.getD 20 undef :: tm.getD 21 undef :: tm.getD 22 undef :: tm.getD 23 undef :: tm.getD 24 undef :: tm.getD 25 undef :: tm.getD 26 undef :: tm.getD 27 undef :: tm.getD 28 undef :: tm.getD 29 undef :: tm.getD 30 undef :: tm.getD 31 undef :: tm.getD 32 undef :: tm.getD 33 undef :: tm.getD 34 undef :: tm.getD 35 undef :: tm.getD 36 undef :: tm.getD 37 undef :: tm.getD 38 undef :: tm.getD 39 undef :: tm.getD 40 undef :: tm.getD 41 undef :: tm.getD 42 undef :: tm.getD 43 undef :: tm.getD 44 undef :: tm.getD 45 undef :: tm.getD 46 undef :: tm.getD 47 undef :: tm.getD 48 undef :: tm.getD 49 undef :: tm.getD 50 undef :: tm.getD 51 undef :: tm.getD 52 undef :: tm.getD 53 undef :: tm.getD 54 undef :: tm.getD 55 undef :: tm.getD 56 undef :: tm.getD 57 undef :: tm.getD 58 undef :: tm.getD 59 undef :: tm.getD 60 undef :: tm.getD 61 undef :: tm.getD 62 undef :: tm.getD 63 undef :: tm.getD 64 undef :: tm.getD 65 undef :: tm.getD 66 undef :: tm.getD 67 undef :: tm.getD 68 undef :: tm.getD 69 undef :: tm.getD 70 undef :: tm.getD 71 undef :: tm.getD 72 undef :: tm.getD 73 undef :: tm.getD 74 undef :: tm.getD 75 undef :: tm.getD 76 undef :: tm.getD 77 undef :: tm.getD 78 undef :: tm.getD 79 undef :: tm.getD 80 undef :: tm.getD 81 undef :: tm.getD 82 undef :: tm.getD 83 undef :: tm.getD 84 undef :: []) := arr_eq tm 85 hsz
          rw [d0, d1, d2, d3, d4, d5, d6, d7, d8, d12, d13, d14, d15, d16, d17, d18, d19, d20, d21, d22, d23, d24, d25, d26, d27, d28, d29, d30, d31, d32, d33, d34, d35, d36, d37, d38, d80, d81, d82, d83, d84, d10, d9] at e
          clear d0 d1 d2 d3 d4 d5 d6 d7 d8 d12 d13 d14 d15 d16 d17 d18 d19 d20 d21 d22 d23 d24 d25 d26 d27 d28 d29 d30 d31 d32 d33 d34 d35 d36 d37 d38 d80 d81 d82 d83 d84 d10 d9 hsz
          generalize tm.getD 11 undef = v11 at e
          generalize tm.getD 39 undef = v39 at e
          generalize tm.getD 40 undef = v40 at e
          generalize tm.getD 41 undef = v41 at e
          generalize tm.getD 42 undef = v42 at e
          generalize tm.getD 43 undef = v43 at e
          generalize tm.getD 44 undef = v44 at e
          generalize tm.getD 45 undef = v45 at e
          generalize tm.getD 46 undef = v46 at e
          generalize tm.getD 47 undef = v47 at e
          generalize tm.getD 48 undef = v48 at e
          generalize tm.getD 49 undef = v49 at e
          generalize tm.getD 50 undef = v50 at e
          generalize tm.getD 51 undef = v51 at e
          generalize tm.getD 52 undef = v52 at e
          generalize tm.getD 53 undef = v53 at e
          generalize tm.getD 54 undef = v54 at e
          generalize tm.getD 55 undef = v55 at e
          generalize tm.getD 56 undef = v56 at e
          generalize tm.getD 57 undef = v57 at e
          generalize tm.getD 58 undef = v58 at e
          generalize tm.getD 59 undef = v59 at e
          generalize tm.getD 60 undef = v60 at e
          generalize tm.getD 61 undef = v61 at e
          generalize tm.getD 62 undef = v62 at e
          generalize tm.getD 63 undef = v63 at e
          generalize tm.getD 64 undef = v64 at e
          generalize tm.getD 65 undef = v65 at e
          generalize tm.getD 66 undef = v66 at e
          generalize tm.getD 67 undef = v67 at e
          generalize tm.getD 68 undef = v68 at e
          generalize tm.getD 69 undef = v69 at e
          generalize tm.getD 70 undef = v70 at e
          generalize tm.getD 71 undef = v71 at e
          generalize tm.getD 72 undef = v72 at e
          generalize tm.getD 73 undef = v73 at e
          generalize tm.getD 74 undef = v74 at e
          generalize tm.getD 75 undef = v75 at e
          generalize tm.getD 76 undef = v76 at e
          generalize tm.getD 77 undef = v77 at e
          generalize tm.getD 78 undef = v78 at e
          generalize tm.getD 79 undef = v79 at e
          subst e
          obtain ⟨hle, hT, _⟩ := hC
          rw [HP.out]
          clear hval
          go_wp2_with fail
          go_roundw
          case rel =>
            exact ⟨i + 1, by omega, by go_num, by rw [← HS2.out], hle, hT⟩
          case measure => simp [intOf]; omega
      · obtain rfl : i = l.length := by omega
        rw [part_all]
        have hbl := body_le q cl false l
        have HE : Hid (encE q cl false l = bodyE q cl false l ++ crcB (C.crc 0 (bodyE q cl false l))) := Lib.hid rfl
        generalize bodyE q cl false l = S at HE hbl ⊢
        have hcr := C.crc_lt (c := 0) (by omega) S
        have hsz1 := str_size S
        have HCR : Hid (∀ W, Calls Try.prog 46 #[.string (str S)] W fun e w' => e = .returned (.int .u16 (C.crc 0 S : Nat)) ∧ W = w') := Lib.hid fun W => by
          have := rcrc_any (str S) W (by omega)
          have e : (str S).data.toList = S := by simp [str]
          rw [e] at this
          exact this
        generalize C.crc 0 S = z at HCR HE hcr
        have HCB := Lib.hid (fun W => rcrcbytes_any z W hcr)
        have hsz2 := str_size (crcB z)
        have hz2 : (crcB z).length = 2 := rfl
        rw [hz2] at hsz2
        generalize crcB z = Z at *
        have hnl : ¬ 9223372036854775807 < S.length + 2 := by omega
        clear hz2
        go_wp2_with fail
        refine (HCR.out _).mono ?_
        rintro e w6 ⟨rfl, rfl⟩
        go_wp2_with fail
        refine (HCB.out _).mono ?_
        rintro e w7 ⟨rfl, hb7⟩
        go_wp2_with fail
        go_ret2
        refine ⟨?_, hle.trans (hb7.mono hle.size)⟩
        rw [HE.out, ← str_app]
        rfl
end Go.Proofs.Ytiioojlihapdaaa.E1
namespace Go.Proofs.Ytiioojlihapdaaa.E1
open Go.RowKit W10
set_option linter.unusedVariables false

/-- a table whose Valid is walked: few tracks, or too many -/
def Fine (l : List T.Trk) : Prop := Few l ∨ (99 < l.length ∧ l.length ≤ 1000)
theorem rvalid_fine (cap cl : Int) (fin : Bool) (sv : Value) (l : List T.Trk) (w : World) (hr : RdK w sv l) (hf : Fine l) :
    Calls Try.prog 14 #[.int .i64 cap, tval cl fin sv] w (RB (T.validB cap cl fin l) w) := by
  rcases hf with hf | hf
  · exact rvalid_any cap cl fin sv l w hr hf
  · exact rvalid_bad cap cl fin sv l w hr (fun h => by omega) (by omega)
theorem valid_fine (cap cl : Int) (fin : Bool) (sv : Value) (l : List T.Trk) (w : World) (hr : RdK w sv l) (hf : Fine l) :
    Calls Try.prog 13 #[.int .i64 cap, tval cl fin sv] w (RB (T.validB cap cl fin l) w) := by
  rcases hf with hf | hf
  · exact valid_any cap cl fin sv l w hr hf
  · exact valid_bad cap cl fin sv l w hr (fun h => by omega) (by omega)
theorem valid_len {cap cl : Int} {fin : Bool} {l : List T.Trk} (h : T.validB cap cl fin l = true) : l.length ≤ 99 := (T.validB_true.1 h).2.2.1
theorem fine_few {l : List T.Trk} (hf : Fine l) (h : l.length ≤ 99) : Few l := by
  rcases hf with hf | hf
  · exact hf
  · omega
theorem rencodeT_any (cap q cl : Int) (fin : Bool) (sv : Value) (l : List T.Trk) (w : World) (hr : RdK w sv l) (hf : Fine l) (hcl : cl ≤ 9223372036854775807) :
    Calls Try.prog 22 #[.int .i64 cap, tval cl fin sv, .int .i64 q] w (EncP (encodeR cap q cl fin l) w) := by
  have HV : Hid (∀ W, RdK W sv l → Calls Try.prog 14 #[.int .i64 cap, tval cl fin sv] W (RB (T.validB cap cl fin l) W)) := Lib.hid fun W h => rvalid_fine cap cl fin sv l W h hf
  unfold encodeR
  cases hv : T.validB cap cl fin l with
  | false =>
    rw [if_pos rfl]
    rw [hv] at HV
    exact renc_bad cap q cl fin sv l w HV hr
  | true =>
    rw [if_neg (by decide)]
    have hfew := fine_few hf (valid_len hv)
    rw [hv] at HV
    by_cases hq : 0 ≤ q ∧ q ≤ 2147483647
    · rw [if_pos hq]
      cases fin
      · exact renc_false cap q cl sv l w HV hr hfew hq hcl
      · exact renc_true cap q cl sv l w HV hr hfew hq hcl
    · rw [if_neg hq]
      exact renc_range cap q cl fin sv l w HV hr hq
set_option maxRecDepth 100000 in
set_option maxHeartbeats 1000000 in
theorem encodeT_any (cap q cl : Int) (fin : Bool) (sv : Value) (l : List T.Trk) (w : World) (hr : RdK w sv l) (hf : Fine l) (hcl : cl ≤ 9223372036854775807) :
    Calls Try.prog 21 #[.int .i64 cap, tval cl fin sv, .int .i64 q] w (EncP (encodeR cap q cl fin l) w) := by
  have hbe := (Below.refl w.heap.size w).alloc (Nat.le_refl _) (.cells #[.int .i64 cl, .bool fin, sv] 24)
  have hB := Bx.new w 24 [.int .i64 cl, .bool fin, sv]
  have HV := Lib.hid (valid_fine cap cl fin sv l _ (hr.keep hbe) hf)
  unfold encodeR
  cases hv : T.validB cap cl fin l with
  | false =>
    rw [if_pos rfl]
    rw [hv] at HV
    obtain ⟨a, c, rfl, hac⟩ := RdS.form hr
    clear hv hB
    go_enter Try.func21, Try.ntmps21
    go_wp2_with fail
    refine HV.out.mono ?_
    rintro e w1 ⟨rfl, hb⟩
    go_wp2_with fail
    go_ret2
    exact ⟨rfl, hbe.trans (hb.mono hbe.size)⟩
  | true =>
    rw [if_neg (by decide)]
    have hfew := fine_few hf (valid_len hv)
    rw [hv] at HV
    clear hv
    by_cases hq : 0 ≤ q ∧ q ≤ 2147483647
    · rw [if_pos hq]
      have HE := Lib.hid (fun W hW => encode_any q cl fin sv l W hW hfew (by omega) hcl)
      have HR := Lib.hid hr
      obtain ⟨a, c, rfl, hac⟩ := RdS.form hr
      have hq0 := hq.1
      have hq1 := hq.2
      have hq2 : ¬ q < 0 := by omega
      have hq3 : ¬ 2147483647 < q := by omega
      generalize encE q cl fin l = E at HE ⊢
      have Hbe := Lib.hid hbe
      clear hq hfew hr hbe
      go_enter Try.func21, Try.ntmps21
      go_wp2_with fail
      refine HV.out.mono ?_
      rintro e w1 ⟨rfl, hb⟩
      have hB1 : Bx w1 w.heap.size 24 [.int .i64 cl, .bool fin, .slice a l.length c] := hB.call hb
      have c0 := hB1.cell (i := 0) rfl
      have c1 := hB1.cell (i := 1) rfl
      have c2 := hB1.cell (i := 2) rfl
      have hle := Hbe.out.trans (hb.mono Hbe.out.size)
      have HE2 := Lib.hid (HE.out w1 (HR.out.keep hle))
      clear hb hB1 hB
      go_wp2_with fail
      refine HE2.out.mono ?_
      rintro e w2 ⟨rfl, hb2⟩
      go_wp2_with fail
      go_ret2
      exact ⟨rfl, hle.trans (hb2.mono hle.size)⟩
    · rw [if_neg hq]
      obtain ⟨a, c, rfl, hac⟩ := RdS.form hr
      have Hbe := Lib.hid hbe
      clear hbe hB
      by_cases h0 : q < 0
      · clear hq
        go_enter Try.func21, Try.ntmps21
        go_wp2_with fail
        refine HV.out.mono ?_
        rintro e w1 ⟨rfl, hb⟩
        go_wp2_with fail
        go_ret2
        exact ⟨rfl, Hbe.out.trans (hb.mono Hbe.out.size)⟩
      · have h1 : 2147483647 < q := by omega
        clear hq
        go_enter Try.func21, Try.ntmps21
        go_wp2_with fail
        refine HV.out.mono ?_
        rintro e w1 ⟨rfl, hb⟩
        go_wp2_with fail
        go_ret2
        exact ⟨rfl, Hbe.out.trans (hb.mono Hbe.out.size)⟩
end Go.Proofs.Ytiioojlihapdaaa.E1
