/- Parts: XIg XQn XQf XQda XQz -/
import Derived.Test.YtflmjdjkfognjaaGreatTe25
import Derived.Test.YtflmjdjkfognjaaGreatTe23
import Derived.Maps.OwnOps
import Derived.Maps.OwnSet
import Derived.Maps.Views
import Derived.Maps.RangeWalk
import Derived.Deep.DeepMust
import Derived.Test.YtflmjdjkfognjaaGreatTe24
import Derived.Test.YtflmjdjkfognjaaGreatTe15
namespace Go.Proofs.YtflmjdjkfognjaaGreat.W10
open Go.RowKit
set_option linter.unusedVariables false
set_option maxRecDepth 100000 in
set_option maxHeartbeats 4000000 in
theorem adec12_any (l : List UInt8) (w : World) (hl : l.length = 2352) : Calls Tryz.prog 52 #[.string (str l), .int .i64 12] w (DecA (bn l 12) (bn l 13) (bn l 14) w) := by
  have hsz : (str l).size = 2352 := by rw [str_size, hl]
  have hx0 := fun W => run_bn (P := Tryz.prog) Tryz.underlying9 l 12 (by omega) 12 rfl W
  have hx1 := fun W => run_bn (P := Tryz.prog) Tryz.underlying9 l 13 (by omega) 13 rfl W
  have hx2 := fun W => run_bn (P := Tryz.prog) Tryz.underlying9 l 14 (by omega) 14 rfl W
  obtain ⟨b0, b0'⟩ := bn_lt l 12
  obtain ⟨b1, b1'⟩ := bn_lt l 13
  obtain ⟨b2, b2'⟩ := bn_lt l 14
  clear hl
  generalize str l = S at hsz hx0 hx1 hx2 ⊢
  generalize bn l 12 = x at *
  generalize bn l 13 = y at *
  generalize bn l 14 = z at *
  have hz3 := zero_3i
  go_enter Tryz.func52, Tryz.ntmps52
  go_wp2_with fail
  clear hsz hz3
  obtain ⟨gR, hgR⟩ : ∃ g, g = w.heap.size := ⟨_, rfl⟩
  obtain ⟨gL, hgL⟩ : ∃ g, g = w.heap.size + 1 := ⟨_, rfl⟩
  have hR : MB ((w.alloc (mo 0 0 0)).alloc (.cells #[.int .i64 0, .int .i64 0, .int .i64 0] 207)) gR 0 0 0 := by rw [hgR]; exact (Bx.new w _ (mc 0 0 0)).alloc _
  have hL : Bx ((w.alloc (mo 0 0 0)).alloc (.cells #[.int .i64 0, .int .i64 0, .int .i64 0] 207)) gL 207 (c3 0 (unbcd x).1 (unbcd y).1 (unbcd z).1) := Bx.new2 w _ _ (mc 0 0 0) gL hgL
  have hle := ((Below.refl w.heap.size w).alloc (Nat.le_refl _) (mo 0 0 0)).alloc (by simp) (.cells #[.int .i64 0, .int .i64 0, .int .i64 0] 207)
  generalize (w.alloc (mo 0 0 0)).alloc (.cells #[.int .i64 0, .int .i64 0, .int .i64 0] 207) = w1 at hR hL hle ⊢
  have hgR' : w.heap.size ≤ gR := by omega
  have hgL' : w.heap.size ≤ gL := by omega
  have hne : gL ≠ gR := by omega
  simp only [← hgL]
  simp only [← hgR]
  obtain ⟨B, hBB⟩ : ∃ B, B = w.heap.size := ⟨_, rfl⟩
  rw [← hBB] at hle hgR' hgL'
  have HB := Lib.hid hBB
  clear hgR hgL hBB
  go_loopw [22] (fun vi wr => ∃ (i : Nat), i ≤ 3 ∧ vi = .int .i64 i ∧ Hid (okN i x y z) ∧ Hid (MB wr gR 0 0 0) ∧ Hid (Bx wr gL 207 (c3 i (unbcd x).1 (unbcd y).1 (unbcd z).1)) ∧ Below B w wr) (fun vi _ => 3 - (intOf vi).toNat)
  case atStart => exact ⟨0, by omega, rfl, Lib.hid ⟨fun h => by omega, fun h => by omega, fun h => by omega⟩, Lib.hid hR, Lib.hid hL, hle⟩
  case round =>
    clear hR hL hle
    obtain ⟨i, hi, rfl, HO, HR, HL, hb⟩ := hrel
    by_cases h3 : i = 3
    · subst h3
      have hO : (unbcd x).2 = 0 ∧ (unbcd y).2 = 0 ∧ (unbcd z).2 = 0 := ⟨HO.out.1 (by omega), HO.out.2.1 (by omega), HO.out.2.2 (by omega)⟩
      have HOK := Lib.hid hO
      have hL : Bx wr gL 207 (mc (unbcd x).1 (unbcd y).1 (unbcd z).1) := HL.out
      have c0 := hL.cell (i := 0) rfl
      have c1 := hL.cell (i := 1) rfl
      have c2 := hL.cell (i := 2) rfl
      have HJ := Lib.hid (fun W => join_any (unbcd x).1 (unbcd y).1 (unbcd z).1 W)
      clear hL hO hx0 hx1 hx2 HL HO hi
      have HY : vB (unbcd x).1 (unbcd y).1 (unbcd z).1 = true → okD x y z := fun h => ⟨HOK.out.1, HOK.out.2.1, HOK.out.2.2, h⟩
      have HN : vB (unbcd x).1 (unbcd y).1 (unbcd z).1 = false → ¬ okD x y z := fun h e => by rw [e.2.2.2] at h; cases h
      have HY := Lib.hid HY; have HN := Lib.hid HN
      have HZ : Hid (∀ W', Below B w W' → Below w.heap.size w W') := Lib.hid fun W' h => by rw [← HB.out]; exact h
      have hBs : B ≤ wr.heap.size := Nat.le_trans (Nat.le_of_eq HB.out) hb.size
      generalize hm1 : (unbcd x).1 = m at *
      generalize hm2 : (unbcd y).1 = s at *
      generalize hm3 : (unbcd z).1 = f at *
      have HM1 := Lib.hid hm1; have HM2 := Lib.hid hm2; have HM3 := Lib.hid hm3
      clear hm1 hm2 hm3
      go_wp2_with fail
      refine (HJ.out _).mono ?_
      rintro e w2 ⟨rfl, hb2⟩
      have hM2 := HR.out.call hb2
      have hle2 := hb.trans (hb2.mono hBs)
      have hs2 : B ≤ w2.heap.size := Nat.le_trans hBs hb2.size
      clear hb2 c0 c1 c2
      cases hv : vB m s f with
      | true =>
        have hok := HY.out hv
        have HK := Lib.hid hok
        clear hok
        have hf := hM2.free
        have hM4 : MB ((setN w2 gR 0 (mc m s f)).alloc (mo m s f)) gR m s f := (hM2.setN (mc m s f) 0).alloc _
        have hle4 : Below B w ((setN w2 gR 0 (mc m s f)).alloc (mo m s f)) := (Below.setN hgR' (mc m s f) 0 hle2).alloc (by simp [setN]; exact hs2) _
        have HM4 := Lib.hid hM4; have HLE := Lib.hid (HZ.out _ hle4)
        have q0 := hM2.cell (i := 0) rfl
        have q1 := hM2.cell (i := 1) rfl
        have q2 := hM2.cell (i := 2) rfl
        have hlt := hM2.lt
        clear hM4 hle4 hM2 hv hle2
        go_wp2_with fail
        have r0 := HM4.out.cell (i := 0) rfl
        have r1 := HM4.out.cell (i := 1) rfl
        have r2 := HM4.out.cell (i := 2) rfl
        simp only [setN, Nat.zero_add, Nat.reduceAdd] at r0 r1 r2
        exact bodyPost_ret (v := .tuple #[msfv m s f, .int .i64 0]) (by simp [results, Tryz.results52, go_sem, q0, q1, q2, hlt]) rfl (DecA.yes HK.out HLE.out (by rw [HM1.out, HM2.out, HM3.out]))
      | false =>
        have hok := HN.out hv
        have HK := Lib.hid hok
        clear hok
        have hf := hM2.free
        have hM4 : MB ((setN w2 gR 0 (mc 0 0 0)).alloc (mo m s f)) gR 0 0 0 := (hM2.setN (mc 0 0 0) 0).alloc _
        have hle4 : Below B w ((setN w2 gR 0 (mc 0 0 0)).alloc (mo m s f)) := (Below.setN hgR' (mc 0 0 0) 0 hle2).alloc (by simp [setN]; exact hs2) _
        have HM4 := Lib.hid hM4; have HLE := Lib.hid (HZ.out _ hle4)
        have q0 := hM2.cell (i := 0) rfl
        have q1 := hM2.cell (i := 1) rfl
        have q2 := hM2.cell (i := 2) rfl
        have hlt := hM2.lt
        clear hM4 hle4 hM2 hv hle2
        go_wp2_with fail
        have r0 := HM4.out.cell (i := 0) rfl
        have r1 := HM4.out.cell (i := 1) rfl
        have r2 := HM4.out.cell (i := 2) rfl
        simp only [setN, Nat.zero_add, Nat.reduceAdd] at r0 r1 r2
        exact bodyPost_ret (v := .tuple #[msfv 0 0 0, .int .i64 10]) (by simp [results, Tryz.results52, go_sem, q0, q1, q2, hlt]) rfl (DecA.no HK.out HLE.out rfl)
    by_cases h0 : i = 0
    · subst h0
      have HU := Lib.hid (fun W => unbcd_any x W b0 b0')
      have hL : Bx wr gL 207 (c3 0 (unbcd x).1 (unbcd y).1 (unbcd z).1) := HL.out
      have hbs := hb.size
      rcases unbcd_01 x with he | he
      · have HE := Lib.hid he
        clear he h3 HL
        have hf := hL.free
        have hlt := hL.lt
        have hq : wr.cell? ⟨gL, 0, none⟩ = some (.int .i64 0) := hL.cell (i := 0) rfl
        have HL2 : Hid (Bx (wr.setCell ⟨gL, 0, none⟩ (.int .i64 (unbcd x).1)) gL 207 (c3 1 (unbcd x).1 (unbcd y).1 (unbcd z).1)) := Lib.hid (hL.set 0 _)
        have HR2 : Hid (MB (wr.setCell ⟨gL, 0, none⟩ (.int .i64 (unbcd x).1)) gR 0 0 0) := Lib.hid (HR.out.far (p := ⟨gL, 0, none⟩) hne _)
        have hb2 : Below B w (wr.setCell ⟨gL, 0, none⟩ (.int .i64 (unbcd x).1)) := hb.setCell (p := ⟨gL, 0, none⟩) hgL' _
        have HU2 : Hid (∀ W, Calls Tryz.prog 118 #[.int .u8 x] W (R2 (.int .i64 (unbcd x).1) (.int .i64 0) W)) := Lib.hid (fun W => by have := HU.out W; rwa [HE.out] at this)
        clear hL HR HU hb hbs
        generalize (unbcd x).1 = uu at HL2 HR2 hb2 HU2
        go_wp2_with fail
        refine (HU2.out _).mono ?_
        rintro e w2 ⟨rfl, rfl⟩
        go_wp2_with fail
        first
        | (go_roundw
           case rel => exact ⟨1, by omega, by go_num, Lib.hid ⟨fun _ => HE.out, fun h => by omega, fun h => by omega⟩, HR2, HL2, hb2⟩
           case measure => simp [intOf])
        | exact ⟨⟨1, by omega, by go_num, Lib.hid ⟨fun _ => HE.out, fun h => by omega, fun h => by omega⟩, HR2, HL2, hb2⟩, by simp [intOf]⟩
      · have HE := Lib.hid he
        have HNO := Lib.hid (okD_not (x := x) (y := y) (z := z) (by first | exact .inl he | exact .inr (.inl he) | exact .inr (.inr he)))
        clear he h3 HL hL
        have hf := HR.out.free
        have hlt := HR.out.lt
        have q0 := HR.out.cell (i := 0) rfl
        have q1 := HR.out.cell (i := 1) rfl
        have q2 := HR.out.cell (i := 2) rfl
        have HR2 : Hid (MB (setN wr gR 0 (mc 0 0 0)) gR 0 0 0) := Lib.hid (HR.out.setN (mc 0 0 0) 0)
        have hb2 : Below B w (setN wr gR 0 (mc 0 0 0)) := Below.setN hgR' (mc 0 0 0) 0 hb
        rw [HB.out] at hb2
        have HLE := Lib.hid hb2
        have HU2 : Hid (∀ W, Calls Tryz.prog 118 #[.int .u8 x] W (R2 (.int .i64 (unbcd x).1) (.int .i64 2) W)) := Lib.hid (fun W => by have := HU.out W; rwa [HE.out] at this)
        clear HR HU hb hbs hb2
        generalize (unbcd x).1 = uu at HU2
        go_wp2_with fail
        refine (HU2.out _).mono ?_
        rintro e w2 ⟨rfl, rfl⟩
        go_wp2_with fail
        have r0 := HR2.out.cell (i := 0) rfl
        have r1 := HR2.out.cell (i := 1) rfl
        have r2 := HR2.out.cell (i := 2) rfl
        simp only [setN, Nat.zero_add, Nat.reduceAdd] at r0 r1 r2
        exact bodyPost_ret (v := .tuple #[msfv 0 0 0, .int .i64 10]) (by simp [results, Tryz.results52, go_sem, q0, q1, q2]) rfl (DecA.no HNO.out HLE.out rfl)
    by_cases h1 : i = 1
    · subst h1
      have HU := Lib.hid (fun W => unbcd_any y W b1 b1')
      have hL : Bx wr gL 207 (c3 1 (unbcd x).1 (unbcd y).1 (unbcd z).1) := HL.out
      have hbs := hb.size
      rcases unbcd_01 y with he | he
      · have HE := Lib.hid he
        clear he h3 HL
        have hf := hL.free
        have hlt := hL.lt
        have hq : wr.cell? ⟨gL, 1, none⟩ = some (.int .i64 0) := hL.cell (i := 1) rfl
        have HL2 : Hid (Bx (wr.setCell ⟨gL, 1, none⟩ (.int .i64 (unbcd y).1)) gL 207 (c3 2 (unbcd x).1 (unbcd y).1 (unbcd z).1)) := Lib.hid (hL.set 1 _)
        have HR2 : Hid (MB (wr.setCell ⟨gL, 1, none⟩ (.int .i64 (unbcd y).1)) gR 0 0 0) := Lib.hid (HR.out.far (p := ⟨gL, 1, none⟩) hne _)
        have hb2 : Below B w (wr.setCell ⟨gL, 1, none⟩ (.int .i64 (unbcd y).1)) := hb.setCell (p := ⟨gL, 1, none⟩) hgL' _
        have HU2 : Hid (∀ W, Calls Tryz.prog 118 #[.int .u8 y] W (R2 (.int .i64 (unbcd y).1) (.int .i64 0) W)) := Lib.hid (fun W => by have := HU.out W; rwa [HE.out] at this)
        clear hL HR HU hb hbs
        generalize (unbcd y).1 = uu at HL2 HR2 hb2 HU2
        go_wp2_with fail
        refine (HU2.out _).mono ?_
        rintro e w2 ⟨rfl, rfl⟩
        go_wp2_with fail
        first
        | (go_roundw
           case rel => exact ⟨2, by omega, by go_num, Lib.hid ⟨fun _ => HO.out.1 (by omega), fun _ => HE.out, fun h => by omega⟩, HR2, HL2, hb2⟩
           case measure => simp [intOf])
        | exact ⟨⟨2, by omega, by go_num, Lib.hid ⟨fun _ => HO.out.1 (by omega), fun _ => HE.out, fun h => by omega⟩, HR2, HL2, hb2⟩, by simp [intOf]⟩
      · have HE := Lib.hid he
        have HNO := Lib.hid (okD_not (x := x) (y := y) (z := z) (by first | exact .inl he | exact .inr (.inl he) | exact .inr (.inr he)))
        clear he h3 HL hL
        have hf := HR.out.free
        have hlt := HR.out.lt
        have q0 := HR.out.cell (i := 0) rfl
        have q1 := HR.out.cell (i := 1) rfl
        have q2 := HR.out.cell (i := 2) rfl
        have HR2 : Hid (MB (setN wr gR 0 (mc 0 0 0)) gR 0 0 0) := Lib.hid (HR.out.setN (mc 0 0 0) 0)
        have hb2 : Below B w (setN wr gR 0 (mc 0 0 0)) := Below.setN hgR' (mc 0 0 0) 0 hb
        rw [HB.out] at hb2
        have HLE := Lib.hid hb2
        have HU2 : Hid (∀ W, Calls Tryz.prog 118 #[.int .u8 y] W (R2 (.int .i64 (unbcd y).1) (.int .i64 2) W)) := Lib.hid (fun W => by have := HU.out W; rwa [HE.out] at this)
        clear HR HU hb hbs hb2
        generalize (unbcd y).1 = uu at HU2
        go_wp2_with fail
        refine (HU2.out _).mono ?_
        rintro e w2 ⟨rfl, rfl⟩
        go_wp2_with fail
        have r0 := HR2.out.cell (i := 0) rfl
        have r1 := HR2.out.cell (i := 1) rfl
        have r2 := HR2.out.cell (i := 2) rfl
        simp only [setN, Nat.zero_add, Nat.reduceAdd] at r0 r1 r2
        exact bodyPost_ret (v := .tuple #[msfv 0 0 0, .int .i64 10]) (by simp [results, Tryz.results52, go_sem, q0, q1, q2]) rfl (DecA.no HNO.out HLE.out rfl)
    by_cases h2 : i = 2
    · subst h2
      have HU := Lib.hid (fun W => unbcd_any z W b2 b2')
      have hL : Bx wr gL 207 (c3 2 (unbcd x).1 (unbcd y).1 (unbcd z).1) := HL.out
      have hbs := hb.size
      rcases unbcd_01 z with he | he
      · have HE := Lib.hid he
        clear he h3 HL
        have hf := hL.free
        have hlt := hL.lt
        have hq : wr.cell? ⟨gL, 2, none⟩ = some (.int .i64 0) := hL.cell (i := 2) rfl
        have HL2 : Hid (Bx (wr.setCell ⟨gL, 2, none⟩ (.int .i64 (unbcd z).1)) gL 207 (c3 3 (unbcd x).1 (unbcd y).1 (unbcd z).1)) := Lib.hid (hL.set 2 _)
        have HR2 : Hid (MB (wr.setCell ⟨gL, 2, none⟩ (.int .i64 (unbcd z).1)) gR 0 0 0) := Lib.hid (HR.out.far (p := ⟨gL, 2, none⟩) hne _)
        have hb2 : Below B w (wr.setCell ⟨gL, 2, none⟩ (.int .i64 (unbcd z).1)) := hb.setCell (p := ⟨gL, 2, none⟩) hgL' _
        have HU2 : Hid (∀ W, Calls Tryz.prog 118 #[.int .u8 z] W (R2 (.int .i64 (unbcd z).1) (.int .i64 0) W)) := Lib.hid (fun W => by have := HU.out W; rwa [HE.out] at this)
        clear hL HR HU hb hbs
        generalize (unbcd z).1 = uu at HL2 HR2 hb2 HU2
        go_wp2_with fail
        refine (HU2.out _).mono ?_
        rintro e w2 ⟨rfl, rfl⟩
        go_wp2_with fail
        first
        | (go_roundw
           case rel => exact ⟨3, by omega, by go_num, Lib.hid ⟨fun _ => HO.out.1 (by omega), fun _ => HO.out.2.1 (by omega), fun _ => HE.out⟩, HR2, HL2, hb2⟩
           case measure => simp [intOf])
        | exact ⟨⟨3, by omega, by go_num, Lib.hid ⟨fun _ => HO.out.1 (by omega), fun _ => HO.out.2.1 (by omega), fun _ => HE.out⟩, HR2, HL2, hb2⟩, by simp [intOf]⟩
      · have HE := Lib.hid he
        have HNO := Lib.hid (okD_not (x := x) (y := y) (z := z) (by first | exact .inl he | exact .inr (.inl he) | exact .inr (.inr he)))
        clear he h3 HL hL
        have hf := HR.out.free
        have hlt := HR.out.lt
        have q0 := HR.out.cell (i := 0) rfl
        have q1 := HR.out.cell (i := 1) rfl
        have q2 := HR.out.cell (i := 2) rfl
        have HR2 : Hid (MB (setN wr gR 0 (mc 0 0 0)) gR 0 0 0) := Lib.hid (HR.out.setN (mc 0 0 0) 0)
        have hb2 : Below B w (setN wr gR 0 (mc 0 0 0)) := Below.setN hgR' (mc 0 0 0) 0 hb
        rw [HB.out] at hb2
        have HLE := Lib.hid hb2
        have HU2 : Hid (∀ W, Calls Tryz.prog 118 #[.int .u8 z] W (R2 (.int .i64 (unbcd z).1) (.int .i64 2) W)) := Lib.hid (fun W => by have := HU.out W; rwa [HE.out] at this)
        clear HR HU hb hbs hb2
        generalize (unbcd z).1 = uu at HU2
        go_wp2_with fail
        refine (HU2.out _).mono ?_
        rintro e w2 ⟨rfl, rfl⟩
        go_wp2_with fail
        have r0 := HR2.out.cell (i := 0) rfl
        have r1 := HR2.out.cell (i := 1) rfl
        have r2 := HR2.out.cell (i := 2) rfl
        simp only [setN, Nat.zero_add, Nat.reduceAdd] at r0 r1 r2
        exact bodyPost_ret (v := .tuple #[msfv 0 0 0, .int .i64 10]) (by simp [results, Tryz.results52, go_sem, q0, q1, q2]) rfl (DecA.no HNO.out HLE.out rfl)
    omega
end Go.Proofs.YtflmjdjkfognjaaGreat.W10
namespace Go.Proofs.YtflmjdjkfognjaaGreat.W10
open Go.RowKit Go.Maps
set_option linter.unusedVariables false
def isSp (n : Int) : Bool := n == 160 || n == 161 || n == 162 || n == 170
theorem isSp_iff {n : Int} : isSp n = true ↔ n = 160 ∨ n = 161 ∨ n = 162 ∨ n = 170 := by simp [isSp, or_assoc]
def num (n : Int) : Int := if 99 < n then n else bcd n
theorem num_sp {n : Int} (h : isSp n = true) : num n = n := if_pos (by rcases isSp_iff.1 h with h | h | h | h <;> omega)
theorem num_d {n : Int} (h : n ≤ 99) : num n = bcd n := if_neg (by omega)
end Go.Proofs.YtflmjdjkfognjaaGreat.W10
namespace Go.Proofs.YtflmjdjkfognjaaGreat.W10
open Go.RowKit
set_option linter.unusedVariables false
def bodyL (q : Q.Fr) : List UInt8 := [by8 (q.ctl * 16 + 1), by8 (num q.trk), by8 (num q.pt)] ++ adr q.rm q.rs q.rf ++ [0] ++ adr q.am q.as q.af
def encL (q : Q.Fr) : List UInt8 := bodyL q ++ chk (bodyL q)
theorem Rd.ofBx {W : World} {g : Nat} {t : TypeId} {l : List UInt8} (h : Bx W g t (bs l)) (hl : l.length ≤ 140737488351232) : Rd W (.slice (some ⟨g, 0, none⟩) l.length l.length) l :=
  ⟨hl, some ⟨g, 0, none⟩, l.length, g, 0, rfl, Nat.le_refl _, fun i hi => ⟨rfl, by rw [Nat.zero_add]; exact h.cell (bs_get hi)⟩⟩
theorem num_lt {n : Int} (h : (0 ≤ n ∧ n ≤ 99) ∨ isSp n = true) : 0 ≤ num n ∧ num n < 256 := by
  rcases h with h | h
  · rw [num_d h.2]; exact bcd_lt h.1 h.2
  · rw [num_sp h]; rcases isSp_iff.1 h with h | h | h | h <;> omega
structure Good (q : Q.Fr) : Prop where
  c0 : 0 ≤ q.ctl
  c1 : q.ctl ≤ 15
  t : (0 ≤ q.trk ∧ q.trk ≤ 99) ∨ isSp q.trk = true
  p : (0 ≤ q.pt ∧ q.pt ≤ 99) ∨ isSp q.pt = true
  r : okA q.rm q.rs q.rf
  a : okA q.am q.as q.af
theorem btw_iff {n a b : Int} : btw n a b = true ↔ a ≤ n ∧ n ≤ b := decide_eq_true_iff
theorem frB_good {q : Q.Fr} (h : frB q = true) : Good q := by
  unfold frB trkB ptB at h
  simp only [Bool.and_eq_true, Bool.or_eq_true, btw_iff, beq_iff_eq] at h
  obtain ⟨⟨⟨⟨h1, h2⟩, h3⟩, h4⟩, h5⟩ := h
  refine ⟨h1.1, h1.2, h2.imp id (fun h => isSp_iff.2 (by omega)), h3.imp id (fun h => isSp_iff.2 (by omega)), vB_true.1 h4, vB_true.1 h5⟩
end Go.Proofs.YtflmjdjkfognjaaGreat.W10
namespace Go.Proofs.YtflmjdjkfognjaaGreat.W10
open Go.RowKit Go.Maps
set_option linter.unusedVariables false
def un (c : Int) : Int := if isSp c = true then c else (unbcd c).1
def unB (c : Int) : Bool := isSp c || decide ((unbcd c).2 = 0)
theorem un_sp {c : Int} (h : isSp c = true) : un c = c ∧ unB c = true := ⟨if_pos h, by unfold unB; rw [h]; rfl⟩
theorem un_no {c : Int} (h : isSp c = false) : un c = (unbcd c).1 ∧ unB c = decide ((unbcd c).2 = 0) := ⟨if_neg (by rw [h]; decide), by unfold unB; rw [h]; rfl⟩
end Go.Proofs.YtflmjdjkfognjaaGreat.W10
namespace Go.Proofs.YtflmjdjkfognjaaGreat.W10
open Go.RowKit
set_option linter.unusedVariables false
theorem unbcd_bcd : ∀ k : Nat, k < 100 → unbcd (bcd (k : Int)) = ((k : Int), 0) := by decide +kernel
theorem unbcd_bcd' {n : Int} (h0 : 0 ≤ n) (h1 : n ≤ 99) : unbcd (bcd n) = (n, 0) := by
  have h := unbcd_bcd n.toNat (by omega)
  rwa [Int.toNat_of_nonneg h0] at h
theorem sp_bcd : ∀ k : Nat, k < 100 → isSp (bcd (k : Int)) = false := by decide +kernel
theorem sp_bcd' {n : Int} (h0 : 0 ≤ n) (h1 : n ≤ 99) : isSp (bcd n) = false := by
  have h := sp_bcd n.toNat (by omega)
  rwa [Int.toNat_of_nonneg h0] at h
theorem un_num {n : Int} (h : (0 ≤ n ∧ n ≤ 99) ∨ isSp n = true) : un (num n) = n ∧ unB (num n) = true := by
  cases hs : isSp n with
  | true => rw [num_sp hs]; exact un_sp hs
  | false =>
    have h2 : 0 ≤ n ∧ n ≤ 99 := by rcases h with h | h; exact h; rw [hs] at h; cases h
    have h3 := un_no (sp_bcd' h2.1 h2.2)
    rw [num_d h2.2]
    rw [unbcd_bcd' h2.1 h2.2] at h3
    exact ⟨h3.1, h3.2⟩
def rn (c : Int) : Int := if (unbcd c).2 = 0 then (unbcd c).1 else c
theorem rn_num {n : Int} (h : (0 ≤ n ∧ n ≤ 99) ∨ isSp n = true) : rn (num n) = n := by
  cases hs : isSp n with
  | true =>
    rw [num_sp hs]
    rcases isSp_iff.1 hs with h | h | h | h <;> subst h <;> decide
  | false =>
    have h2 : 0 ≤ n ∧ n ≤ 99 := by rcases h with h | h; exact h; rw [hs] at h; cases h
    rw [num_d h2.2]
    unfold rn
    rw [unbcd_bcd' h2.1 h2.2]
    rfl
theorem okD_bcd {m s f : Int} (h : okA m s f) : okD (bcd m) (bcd s) (bcd f) := by
  obtain ⟨h1, h2, h3, h4, h5, h6⟩ := h
  unfold okD
  rw [unbcd_bcd' h1 h2, unbcd_bcd' h3 (by omega), unbcd_bcd' h5 (by omega)]
  exact ⟨rfl, rfl, rfl, vB_t ⟨h1, h2, h3, h4, h5, h6⟩⟩
theorem d_bcd {m s f : Int} (h : okA m s f) : dM (bcd m) (bcd s) (bcd f) = m ∧ dS (bcd m) (bcd s) (bcd f) = s ∧ dF (bcd m) (bcd s) (bcd f) = f ∧ dE (bcd m) (bcd s) (bcd f) = 0 := by
  have h0 := d_yes (okD_bcd h)
  obtain ⟨h1, h2, h3, h4, h5, h6⟩ := h
  rw [unbcd_bcd' h1 h2, unbcd_bcd' h3 (by omega), unbcd_bcd' h5 (by omega)] at h0
  exact h0
theorem encL_at {q : Q.Fr} (g : Good q) : bn (encL q) 0 = q.ctl * 16 + 1 ∧ bn (encL q) 1 = num q.trk ∧ bn (encL q) 2 = num q.pt ∧ bn (encL q) 3 = bcd q.rm ∧ bn (encL q) 4 = bcd q.rs ∧ bn (encL q) 5 = bcd q.rf ∧ bn (encL q) 6 = 0 ∧
    bn (encL q) 7 = bcd q.am ∧ bn (encL q) 8 = bcd q.as ∧ bn (encL q) 9 = bcd q.af := by
  have n1 := num_lt g.t
  have n2 := num_lt g.p
  have b0 := g.c0
  have b1 := g.c1
  obtain ⟨r1, r2, r3, r4, r5, r6⟩ := g.r
  obtain ⟨a1, a2, a3, a4, a5, a6⟩ := g.a
  have d := fun (n : Int) (h0 : 0 ≤ n) (h1 : n ≤ 99) => by8_nat (bcd_lt h0 h1).1 (bcd_lt h0 h1).2
  exact ⟨by8_nat (by omega) (by omega), by8_nat n1.1 n1.2, by8_nat n2.1 n2.2, d _ r1 r2, d _ r3 (by omega), d _ r5 (by omega), rfl, d _ a1 a2, d _ a3 (by omega), d _ a5 (by omega)⟩
def cand (l : List UInt8) : Q.Fr := ⟨bn l 0 / 16, un (bn l 1), un (bn l 2), dM (bn l 3) (bn l 4) (bn l 5), dS (bn l 3) (bn l 4) (bn l 5), dF (bn l 3) (bn l 4) (bn l 5), dM (bn l 7) (bn l 8) (bn l 9), dS (bn l 7) (bn l 8) (bn l 9), dF (bn l 7) (bn l 8) (bn l 9)⟩
def rcand (l : List UInt8) : Q.Fr := ⟨bn l 0 / 16, rn (bn l 1), rn (bn l 2), dM (bn l 3) (bn l 4) (bn l 5), dS (bn l 3) (bn l 4) (bn l 5), dF (bn l 3) (bn l 4) (bn l 5), dM (bn l 7) (bn l 8) (bn l 9), dS (bn l 7) (bn l 8) (bn l 9), dF (bn l 7) (bn l 8) (bn l 9)⟩
def Is (q : Q.Fr) (l : List UInt8) : Prop := frB q = true ∧ encL q = l
instance (q : Q.Fr) (l : List UInt8) : Decidable (Is q l) := by unfold Is; infer_instance
theorem Is.cand {q : Q.Fr} {l : List UInt8} (h : Is q l) : cand l = q ∧ rcand l = q := by
  obtain ⟨h1, rfl⟩ := h
  have g := frB_good h1
  obtain ⟨e0, e1, e2, e3, e4, e5, e6, e7, e8, e9⟩ := encL_at g
  have hr := d_bcd g.r
  have ha := d_bcd g.a
  unfold W10.cand rcand
  rw [e0, e1, e2, e3, e4, e5, e7, e8, e9, (un_num g.t).1, (un_num g.p).1, rn_num g.t, rn_num g.p, hr.1, hr.2.1, hr.2.2.1, ha.1, ha.2.1, ha.2.2.1]
  have : (q.ctl * 16 + 1) / 16 = q.ctl := by omega
  rw [this]
  exact ⟨rfl, rfl⟩
def decR (l : List UInt8) : Q.Fr × Int :=
  if l.length ≠ 12 then (Q.z, 1) else if chk (l.take 10) ≠ l.drop 10 then (Q.z, 9) else if Is (cand l) l then (cand l, 0) else (Q.z, 10)
end Go.Proofs.YtflmjdjkfognjaaGreat.W10
