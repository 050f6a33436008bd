/- Shaken out of XIg XInd -/
import Derived.Test.YtflmjdjkfognjaaGreatTp27
import Derived.Test.YtflmjdjkfognjaaGreatTp11
namespace Go.Proofs.YtflmjdjkfognjaaGreat.W10
open Go.RowKit
set_option linter.unusedVariables false
set_option maxRecDepth 100000 in
set_option maxHeartbeats 4000000 in
theorem adec12_any (l : List UInt8) (w : World) (hl : l.length = 2352) : Calls Tryz.prog 52 #[.string (str l), .int .i64 12] w (DecA (bn l 12) (bn l 13) (bn l 14) w) := by
  have hsz : (str l).size = 2352 := by rw [str_size, hl]
  have hx0 := fun W => run_bn (P := Tryz.prog) Tryz.underlying9 l 12 (by omega) 12 rfl W
  have hx1 := fun W => run_bn (P := Tryz.prog) Tryz.underlying9 l 13 (by omega) 13 rfl W
  have hx2 := fun W => run_bn (P := Tryz.prog) Tryz.underlying9 l 14 (by omega) 14 rfl W
  obtain ⟨b0, b0'⟩ := bn_lt l 12
  obtain ⟨b1, b1'⟩ := bn_lt l 13
  obtain ⟨b2, b2'⟩ := bn_lt l 14
  clear hl
  generalize str l = S at hsz hx0 hx1 hx2 ⊢
  generalize bn l 12 = x at *
  generalize bn l 13 = y at *
  generalize bn l 14 = z at *
  have hz3 := zero_3i
  go_enter Tryz.func52, Tryz.ntmps52
  go_wp2_with fail
  clear hsz hz3
  obtain ⟨gR, hgR⟩ : ∃ g, g = w.heap.size := ⟨_, rfl⟩
  obtain ⟨gL, hgL⟩ : ∃ g, g = w.heap.size + 1 := ⟨_, rfl⟩
  have hR : MB ((w.alloc (mo 0 0 0)).alloc (.cells #[.int .i64 0, .int .i64 0, .int .i64 0] 207)) gR 0 0 0 := by rw [hgR]; exact (Bx.new w _ (mc 0 0 0)).alloc _
  have hL : Bx ((w.alloc (mo 0 0 0)).alloc (.cells #[.int .i64 0, .int .i64 0, .int .i64 0] 207)) gL 207 (c3 0 (unbcd x).1 (unbcd y).1 (unbcd z).1) := Bx.new2 w _ _ (mc 0 0 0) gL hgL
  have hle := ((Below.refl w.heap.size w).alloc (Nat.le_refl _) (mo 0 0 0)).alloc (by simp) (.cells #[.int .i64 0, .int .i64 0, .int .i64 0] 207)
  generalize (w.alloc (mo 0 0 0)).alloc (.cells #[.int .i64 0, .int .i64 0, .int .i64 0] 207) = w1 at hR hL hle ⊢
  have hgR' : w.heap.size ≤ gR := by omega
  have hgL' : w.heap.size ≤ gL := by omega
  have hne : gL ≠ gR := by omega
  simp only [← hgL]
  simp only [← hgR]
  obtain ⟨B, hBB⟩ : ∃ B, B = w.heap.size := ⟨_, rfl⟩
  rw [← hBB] at hle hgR' hgL'
  have HB := Lib.hid hBB
  clear hgR hgL hBB
  go_loopw [22] (fun vi wr => ∃ (i : Nat), i ≤ 3 ∧ vi = .int .i64 i ∧ Hid (okN i x y z) ∧ Hid (MB wr gR 0 0 0) ∧ Hid (Bx wr gL 207 (c3 i (unbcd x).1 (unbcd y).1 (unbcd z).1)) ∧ Below B w wr) (fun vi _ => 3 - (intOf vi).toNat)
  case atStart => exact ⟨0, by omega, rfl, Lib.hid ⟨fun h => by omega, fun h => by omega, fun h => by omega⟩, Lib.hid hR, Lib.hid hL, hle⟩
  case round =>
    clear hR hL hle
    obtain ⟨i, hi, rfl, HO, HR, HL, hb⟩ := hrel
    by_cases h3 : i = 3
    · subst h3
      have hO : (unbcd x).2 = 0 ∧ (unbcd y).2 = 0 ∧ (unbcd z).2 = 0 := ⟨HO.out.1 (by omega), HO.out.2.1 (by omega), HO.out.2.2 (by omega)⟩
      have HOK := Lib.hid hO
      have hL : Bx wr gL 207 (mc (unbcd x).1 (unbcd y).1 (unbcd z).1) := HL.out
      have c0 := hL.cell (i := 0) rfl
      have c1 := hL.cell (i := 1) rfl
      have c2 := hL.cell (i := 2) rfl
      have HJ := Lib.hid (fun W => join_any (unbcd x).1 (unbcd y).1 (unbcd z).1 W)
      clear hL hO hx0 hx1 hx2 HL HO hi
      have HY : vB (unbcd x).1 (unbcd y).1 (unbcd z).1 = true → okD x y z := fun h => ⟨HOK.out.1, HOK.out.2.1, HOK.out.2.2, h⟩
      have HN : vB (unbcd x).1 (unbcd y).1 (unbcd z).1 = false → ¬ okD x y z := fun h e => by rw [e.2.2.2] at h; cases h
      have HY := Lib.hid HY; have HN := Lib.hid HN
      have HZ : Hid (∀ W', Below B w W' → Below w.heap.size w W') := Lib.hid fun W' h => by rw [← HB.out]; exact h
      have hBs : B ≤ wr.heap.size := Nat.le_trans (Nat.le_of_eq HB.out) hb.size
      generalize hm1 : (unbcd x).1 = m at *
      generalize hm2 : (unbcd y).1 = s at *
      generalize hm3 : (unbcd z).1 = f at *
      have HM1 := Lib.hid hm1; have HM2 := Lib.hid hm2; have HM3 := Lib.hid hm3
      clear hm1 hm2 hm3
      go_wp2_with fail
      refine (HJ.out _).mono ?_
      rintro e w2 ⟨rfl, hb2⟩
      have hM2 := HR.out.call hb2
      have hle2 := hb.trans (hb2.mono hBs)
      have hs2 : B ≤ w2.heap.size := Nat.le_trans hBs hb2.size
      clear hb2 c0 c1 c2
      cases hv : vB m s f with
      | true =>
        have hok := HY.out hv
        have HK := Lib.hid hok
        clear hok
        have hf := hM2.free
        have hM4 : MB ((setN w2 gR 0 (mc m s f)).alloc (mo m s f)) gR m s f := (hM2.setN (mc m s f) 0).alloc _
        have hle4 : Below B w ((setN w2 gR 0 (mc m s f)).alloc (mo m s f)) := (Below.setN hgR' (mc m s f) 0 hle2).alloc (by simp [setN]; exact hs2) _
        have HM4 := Lib.hid hM4; have HLE := Lib.hid (HZ.out _ hle4)
        have q0 := hM2.cell (i := 0) rfl
        have q1 := hM2.cell (i := 1) rfl
        have q2 := hM2.cell (i := 2) rfl
        have hlt := hM2.lt
        clear hM4 hle4 hM2 hv hle2
        go_wp2_with fail
        have r0 := HM4.out.cell (i := 0) rfl
        have r1 := HM4.out.cell (i := 1) rfl
        have r2 := HM4.out.cell (i := 2) rfl
        simp only [setN, Nat.zero_add, Nat.reduceAdd] at r0 r1 r2
        exact bodyPost_ret (v := .tuple #[msfv m s f, .int .i64 0]) (by simp [results, Tryz.results52, go_sem, q0, q1, q2, hlt]) rfl (DecA.yes HK.out HLE.out (by rw [HM1.out, HM2.out, HM3.out]))
      | false =>
        have hok := HN.out hv
        have HK := Lib.hid hok
        clear hok
        have hf := hM2.free
        have hM4 : MB ((setN w2 gR 0 (mc 0 0 0)).alloc (mo m s f)) gR 0 0 0 := (hM2.setN (mc 0 0 0) 0).alloc _
        have hle4 : Below B w ((setN w2 gR 0 (mc 0 0 0)).alloc (mo m s f)) := (Below.setN hgR' (mc 0 0 0) 0 hle2).alloc (by simp [setN]; exact hs2) _
        have HM4 := Lib.hid hM4; have HLE := Lib.hid (HZ.out _ hle4)
        have q0 := hM2.cell (i := 0) rfl
        have q1 := hM2.cell (i := 1) rfl
        have q2 := hM2.cell (i := 2) rfl
        have hlt := hM2.lt
        clear hM4 hle4 hM2 hv hle2
        go_wp2_with fail
        have r0 := HM4.out.cell (i := 0) rfl
        have r1 := HM4.out.cell (i := 1) rfl
        have r2 := HM4.out.cell (i := 2) rfl
        simp only [setN, Nat.zero_add, Nat.reduceAdd] at r0 r1 r2
        exact bodyPost_ret (v := .tuple #[msfv 0 0 0, .int .i64 10]) (by simp [results, Tryz.results52, go_sem, q0, q1, q2, hlt]) rfl (DecA.no HK.out HLE.out rfl)
    by_cases h0 : i = 0
    · subst h0
      have HU := Lib.hid (fun W => unbcd_any x W b0 b0')
      have hL : Bx wr gL 207 (c3 0 (unbcd x).1 (unbcd y).1 (unbcd z).1) := HL.out
      have hbs := hb.size
      rcases unbcd_01 x with he | he
      · have HE := Lib.hid he
        clear he h3 HL
        have hf := hL.free
        have hlt := hL.lt
        have hq : wr.cell? ⟨gL, 0, none⟩ = some (.int .i64 0) := hL.cell (i := 0) rfl
        have HL2 : Hid (Bx (wr.setCell ⟨gL, 0, none⟩ (.int .i64 (unbcd x).1)) gL 207 (c3 1 (unbcd x).1 (unbcd y).1 (unbcd z).1)) := Lib.hid (hL.set 0 _)
        have HR2 : Hid (MB (wr.setCell ⟨gL, 0, none⟩ (.int .i64 (unbcd x).1)) gR 0 0 0) := Lib.hid (HR.out.far (p := ⟨gL, 0, none⟩) hne _)
        have hb2 : Below B w (wr.setCell ⟨gL, 0, none⟩ (.int .i64 (unbcd x).1)) := hb.setCell (p := ⟨gL, 0, none⟩) hgL' _
        have HU2 : Hid (∀ W, Calls Tryz.prog 118 #[.int .u8 x] W (R2 (.int .i64 (unbcd x).1) (.int .i64 0) W)) := Lib.hid (fun W => by have := HU.out W; rwa [HE.out] at this)
        clear hL HR HU hb hbs
        generalize (unbcd x).1 = uu at HL2 HR2 hb2 HU2
        go_wp2_with fail
        refine (HU2.out _).mono ?_
        rintro e w2 ⟨rfl, rfl⟩
        go_wp2_with fail
        first
        | (go_roundw
           case rel => exact ⟨1, by omega, by go_num, Lib.hid ⟨fun _ => HE.out, fun h => by omega, fun h => by omega⟩, HR2, HL2, hb2⟩
           case measure => simp [intOf])
        | exact ⟨⟨1, by omega, by go_num, Lib.hid ⟨fun _ => HE.out, fun h => by omega, fun h => by omega⟩, HR2, HL2, hb2⟩, by simp [intOf]⟩
      · have HE := Lib.hid he
        have HNO := Lib.hid (okD_not (x := x) (y := y) (z := z) (by first | exact .inl he | exact .inr (.inl he) | exact .inr (.inr he)))
        clear he h3 HL hL
        have hf := HR.out.free
        have hlt := HR.out.lt
        have q0 := HR.out.cell (i := 0) rfl
        have q1 := HR.out.cell (i := 1) rfl
        have q2 := HR.out.cell (i := 2) rfl
        have HR2 : Hid (MB (setN wr gR 0 (mc 0 0 0)) gR 0 0 0) := Lib.hid (HR.out.setN (mc 0 0 0) 0)
        have hb2 : Below B w (setN wr gR 0 (mc 0 0 0)) := Below.setN hgR' (mc 0 0 0) 0 hb
        rw [HB.out] at hb2
        have HLE := Lib.hid hb2
        have HU2 : Hid (∀ W, Calls Tryz.prog 118 #[.int .u8 x] W (R2 (.int .i64 (unbcd x).1) (.int .i64 2) W)) := Lib.hid (fun W => by have := HU.out W; rwa [HE.out] at this)
        clear HR HU hb hbs hb2
        generalize (unbcd x).1 = uu at HU2
        go_wp2_with fail
        refine (HU2.out _).mono ?_
        rintro e w2 ⟨rfl, rfl⟩
        go_wp2_with fail
        have r0 := HR2.out.cell (i := 0) rfl
        have r1 := HR2.out.cell (i := 1) rfl
        have r2 := HR2.out.cell (i := 2) rfl
        simp only [setN, Nat.zero_add, Nat.reduceAdd] at r0 r1 r2
        exact bodyPost_ret (v := .tuple #[msfv 0 0 0, .int .i64 10]) (by simp [results, Tryz.results52, go_sem, q0, q1, q2]) rfl (DecA.no HNO.out HLE.out rfl)
    by_cases h1 : i = 1
    · subst h1
      have HU := Lib.hid (fun W => unbcd_any y W b1 b1')
      have hL : Bx wr gL 207 (c3 1 (unbcd x).1 (unbcd y).1 (unbcd z).1) := HL.out
      have hbs := hb.size
      rcases unbcd_01 y with he | he
      · have HE := Lib.hid he
        clear he h3 HL
        have hf := hL.free
        have hlt := hL.lt
        have hq : wr.cell? ⟨gL, 1, none⟩ = some (.int .i64 0) := hL.cell (i := 1) rfl
        have HL2 : Hid (Bx (wr.setCell ⟨gL, 1, none⟩ (.int .i64 (unbcd y).1)) gL 207 (c3 2 (unbcd x).1 (unbcd y).1 (unbcd z).1)) := Lib.hid (hL.set 1 _)
        have HR2 : Hid (MB (wr.setCell ⟨gL, 1, none⟩ (.int .i64 (unbcd y).1)) gR 0 0 0) := Lib.hid (HR.out.far (p := ⟨gL, 1, none⟩) hne _)
        have hb2 : Below B w (wr.setCell ⟨gL, 1, none⟩ (.int .i64 (unbcd y).1)) := hb.setCell (p := ⟨gL, 1, none⟩) hgL' _
        have HU2 : Hid (∀ W, Calls Tryz.prog 118 #[.int .u8 y] W (R2 (.int .i64 (unbcd y).1) (.int .i64 0) W)) := Lib.hid (fun W => by have := HU.out W; rwa [HE.out] at this)
        clear hL HR HU hb hbs
        generalize (unbcd y).1 = uu at HL2 HR2 hb2 HU2
        go_wp2_with fail
        refine (HU2.out _).mono ?_
        rintro e w2 ⟨rfl, rfl⟩
        go_wp2_with fail
        first
        | (go_roundw
           case rel => exact ⟨2, by omega, by go_num, Lib.hid ⟨fun _ => HO.out.1 (by omega), fun _ => HE.out, fun h => by omega⟩, HR2, HL2, hb2⟩
           case measure => simp [intOf])
        | exact ⟨⟨2, by omega, by go_num, Lib.hid ⟨fun _ => HO.out.1 (by omega), fun _ => HE.out, fun h => by omega⟩, HR2, HL2, hb2⟩, by simp [intOf]⟩
      · have HE := Lib.hid he
        have HNO := Lib.hid (okD_not (x := x) (y := y) (z := z) (by first | exact .inl he | exact .inr (.inl he) | exact .inr (.inr he)))
        clear he h3 HL hL
        have hf := HR.out.free
        have hlt := HR.out.lt
        have q0 := HR.out.cell (i := 0) rfl
        have q1 := HR.out.cell (i := 1) rfl
        have q2 := HR.out.cell (i := 2) rfl
        have HR2 : Hid (MB (setN wr gR 0 (mc 0 0 0)) gR 0 0 0) := Lib.hid (HR.out.setN (mc 0 0 0) 0)
        have hb2 : Below B w (setN wr gR 0 (mc 0 0 0)) := Below.setN hgR' (mc 0 0 0) 0 hb
        rw [HB.out] at hb2
        have HLE := Lib.hid hb2
        have HU2 : Hid (∀ W, Calls Tryz.prog 118 #[.int .u8 y] W (R2 (.int .i64 (unbcd y).1) (.int .i64 2) W)) := Lib.hid (fun W => by have := HU.out W; rwa [HE.out] at this)
        clear HR HU hb hbs hb2
        generalize (unbcd y).1 = uu at HU2
        go_wp2_with fail
        refine (HU2.out _).mono ?_
        rintro e w2 ⟨rfl, rfl⟩
        go_wp2_with fail
        have r0 := HR2.out.cell (i := 0) rfl
        have r1 := HR2.out.cell (i := 1) rfl
        have r2 := HR2.out.cell (i := 2) rfl
        simp only [setN, Nat.zero_add, Nat.reduceAdd] at r0 r1 r2
        exact bodyPost_ret (v := .tuple #[msfv 0 0 0, .int .i64 10]) (by simp [results, Tryz.results52, go_sem, q0, q1, q2]) rfl (DecA.no HNO.out HLE.out rfl)
    by_cases h2 : i = 2
    · subst h2
      have HU := Lib.hid (fun W => unbcd_any z W b2 b2')
      have hL : Bx wr gL 207 (c3 2 (unbcd x).1 (unbcd y).1 (unbcd z).1) := HL.out
      have hbs := hb.size
      rcases unbcd_01 z with he | he
      · have HE := Lib.hid he
        clear he h3 HL
        have hf := hL.free
        have hlt := hL.lt
        have hq : wr.cell? ⟨gL, 2, none⟩ = some (.int .i64 0) := hL.cell (i := 2) rfl
        have HL2 : Hid (Bx (wr.setCell ⟨gL, 2, none⟩ (.int .i64 (unbcd z).1)) gL 207 (c3 3 (unbcd x).1 (unbcd y).1 (unbcd z).1)) := Lib.hid (hL.set 2 _)
        have HR2 : Hid (MB (wr.setCell ⟨gL, 2, none⟩ (.int .i64 (unbcd z).1)) gR 0 0 0) := Lib.hid (HR.out.far (p := ⟨gL, 2, none⟩) hne _)
        have hb2 : Below B w (wr.setCell ⟨gL, 2, none⟩ (.int .i64 (unbcd z).1)) := hb.setCell (p := ⟨gL, 2, none⟩) hgL' _
        have HU2 : Hid (∀ W, Calls Tryz.prog 118 #[.int .u8 z] W (R2 (.int .i64 (unbcd z).1) (.int .i64 0) W)) := Lib.hid (fun W => by have := HU.out W; rwa [HE.out] at this)
        clear hL HR HU hb hbs
        generalize (unbcd z).1 = uu at HL2 HR2 hb2 HU2
        go_wp2_with fail
        refine (HU2.out _).mono ?_
        rintro e w2 ⟨rfl, rfl⟩
        go_wp2_with fail
        first
        | (go_roundw
           case rel => exact ⟨3, by omega, by go_num, Lib.hid ⟨fun _ => HO.out.1 (by omega), fun _ => HO.out.2.1 (by omega), fun _ => HE.out⟩, HR2, HL2, hb2⟩
           case measure => simp [intOf])
        | exact ⟨⟨3, by omega, by go_num, Lib.hid ⟨fun _ => HO.out.1 (by omega), fun _ => HO.out.2.1 (by omega), fun _ => HE.out⟩, HR2, HL2, hb2⟩, by simp [intOf]⟩
      · have HE := Lib.hid he
        have HNO := Lib.hid (okD_not (x := x) (y := y) (z := z) (by first | exact .inl he | exact .inr (.inl he) | exact .inr (.inr he)))
        clear he h3 HL hL
        have hf := HR.out.free
        have hlt := HR.out.lt
        have q0 := HR.out.cell (i := 0) rfl
        have q1 := HR.out.cell (i := 1) rfl
        have q2 := HR.out.cell (i := 2) rfl
        have HR2 : Hid (MB (setN wr gR 0 (mc 0 0 0)) gR 0 0 0) := Lib.hid (HR.out.setN (mc 0 0 0) 0)
        have hb2 : Below B w (setN wr gR 0 (mc 0 0 0)) := Below.setN hgR' (mc 0 0 0) 0 hb
        rw [HB.out] at hb2
        have HLE := Lib.hid hb2
        have HU2 : Hid (∀ W, Calls Tryz.prog 118 #[.int .u8 z] W (R2 (.int .i64 (unbcd z).1) (.int .i64 2) W)) := Lib.hid (fun W => by have := HU.out W; rwa [HE.out] at this)
        clear HR HU hb hbs hb2
        generalize (unbcd z).1 = uu at HU2
        go_wp2_with fail
        refine (HU2.out _).mono ?_
        rintro e w2 ⟨rfl, rfl⟩
        go_wp2_with fail
        have r0 := HR2.out.cell (i := 0) rfl
        have r1 := HR2.out.cell (i := 1) rfl
        have r2 := HR2.out.cell (i := 2) rfl
        simp only [setN, Nat.zero_add, Nat.reduceAdd] at r0 r1 r2
        exact bodyPost_ret (v := .tuple #[msfv 0 0 0, .int .i64 10]) (by simp [results, Tryz.results52, go_sem, q0, q1, q2]) rfl (DecA.no HNO.out HLE.out rfl)
    omega
end Go.Proofs.YtflmjdjkfognjaaGreat.W10
namespace Go.Proofs.YtflmjdjkfognjaaGreat
open Go.RowKit
set_option linter.unusedVariables false
section
variable {P : Program} {Q : Exit → Act → World → Prop}
/-- what the operations hold that an operation leans on -/
def depV (l : List Oper) (i : Nat) (a : Act) (k : Nat) : Value := match l[i]?, l[k]? with
  | some oi, some ok => if (oi.after.toList.any fun e => e.on == k && Region.binds .any e) = true then slotV ok.dst a else undef
  | _, _ => undef
/-- an operation, and what it leans on; 'sk': it is skipped by its guard -/
def StepD (P : Program) (Q : Exit → Act → World → Prop) (R : World → World → Prop) (C : World → Prop) (V : Nat → Value → (Nat → Value) → World → Prop) (sk : Nat → Bool) (l : List Oper) (a0 : Act) (i : Nat) (o : Oper) : Prop :=
  ∀ a w, C w → a.tmps.size = a0.tmps.size → (∀ t, freeB l t = true → a.tmps.getD t undef = a0.tmps.getD t undef) →
    (∀ k, (o.after.toList.any fun e => e.on == k && Region.binds .any e) = true → sk k = false → ∀ (ok : Oper), l[k]? = some ok → V k (slotV ok.dst a) (depV l k a) w) →
    if sk i then Region.wanted o (yielded l.toArray a.tmps) = false
    else Region.wanted o (yielded l.toArray a.tmps) = true ∧ o.wp P a w (fun a' w' => ∃ v, a' = a.put o.dst v ∧ R w w' ∧ V i (kept o.dst v) (depV l i a) w') Q
def StepsD (P : Program) (Q : Exit → Act → World → Prop) (R : World → World → Prop) (C : World → Prop) (V : Nat → Value → (Nat → Value) → World → Prop) (sk : Nat → Bool) (l : List Oper) (a0 : Act) : Nat → List Oper → Prop
  | _, [] => True
  | i, o :: r => StepD P Q R C V sk l a0 i o ∧ StepsD P Q R C V sk l a0 (i + 1) r
theorem StepsD.at {R : World → World → Prop} {C : World → Prop} {V : Nat → Value → (Nat → Value) → World → Prop} {sk : Nat → Bool} {l : List Oper} {a0 : Act} : ∀ {i : Nat} {r : List Oper}, StepsD P Q R C V sk l a0 i r → ∀ {j : Nat} {o : Oper}, r[j]? = some o → StepD P Q R C V sk l a0 (i + j) o
  | i, [], _, j, o, h => by simp at h
  | i, x :: r, h, 0, o, ho => by
    have : x = o := by simpa using ho
    subst this; exact h.1
  | i, x :: r, h, j + 1, o, ho => by
    have := StepsD.at h.2 (j := j) (o := o) (by simpa using ho)
    rwa [Nat.add_assoc, Nat.add_comm 1 j] at this
theorem stepD_val {R : World → World → Prop} {V : Nat → Value → (Nat → Value) → World → Prop} {d : Nat → Value} {i : Nat} {o : Oper} {a : Act} {w : World} {v : Value} (hr : R w w) (hv : V i (kept o.dst v) d w) (h : ∀ K : Act → World → Prop, K (a.put o.dst v) w → o.wp P a w K Q) :
    o.wp P a w (fun a' w' => ∃ v, a' = a.put o.dst v ∧ R w w' ∧ V i (kept o.dst v) d w') Q := h _ ⟨v, rfl, hr, hv⟩
theorem stepD_call {R : World → World → Prop} {V : Nat → Value → (Nat → Value) → World → Prop} {d : Nat → Value} {i : Nat} {o : Oper} {a : Act} {w : World} {v : Value} (hr : ∀ w', Below w.heap.size w w' → R w w') (hv : ∀ w', V i (kept o.dst v) d w') (h : ∀ K : Act → World → Prop, (∀ w', Below w.heap.size w w' → K (a.put o.dst v) w') → o.wp P a w K Q) :
    o.wp P a w (fun a' w' => ∃ v, a' = a.put o.dst v ∧ R w w' ∧ V i (kept o.dst v) d w') Q := h _ fun w' hb => ⟨v, rfl, hr w' hb, hv w'⟩
theorem stepD_new {R : World → World → Prop} {V : Nat → Value → (Nat → Value) → World → Prop} {d : Nat → Value} {i : Nat} {o : Oper} {a : Act} {w w' : World} {v : Value} (hr : R w w') (hv : V i (kept o.dst v) d w') (h : ∀ K : Act → World → Prop, K (a.put o.dst v) w' → o.wp P a w K Q) :
    o.wp P a w (fun a' w' => ∃ v, a' = a.put o.dst v ∧ R w w' ∧ V i (kept o.dst v) d w') Q := h _ ⟨v, rfl, hr, hv⟩
/-- where the region stands -/
structure OkayD (l : List Oper) (C : World → Prop) (V : Nat → Value → (Nat → Value) → World → Prop) (sk : Nat → Bool) (a0 : Act) (listed : Array Bool) (a : Act) (w : World) : Prop where
  c : C w
  defers : a.defers = a0.defers
  size : a.tmps.size = a0.tmps.size
  old : ∀ t, freeB l t = true → a.tmps.getD t undef = a0.tmps.getD t undef
  dn : ∀ (i : Nat) (o : Oper), l[i]? = some o → listed.getD i false = true → ∀ e ∈ o.after, Region.binds .any e = true → listed.getD e.on false = true
  val : ∀ (i : Nat) (o : Oper), l[i]? = some o → sk i = false → listed.getD i false = true → V i (slotV o.dst a) (depV l i a) w
theorem wpAny_ind {l : List Oper} {R : World → World → Prop} {C : World → Prop} {V : Nat → Value → (Nat → Value) → World → Prop} {sk : Nat → Bool} {a0 : Act} (hf : formR l a0.tmps.size = true)
    (hC : ∀ w w', R w w' → C w → C w') (hV : ∀ i v d w w', R w w' → V i v d w → V i v d w')
    (hstep : StepsD P Q R C V sk l a0 0 l)
    (hend : ∀ a w, C w → a.defers = a0.defers → a.tmps.size = a0.tmps.size → (∀ t, freeB l t = true → a.tmps.getD t undef = a0.tmps.getD t undef) →
      (∀ (i : Nat) (o : Oper), l[i]? = some o → sk i = false → V i (slotV o.dst a) (depV l i a) w) → Q .normal a w) :
    ∀ (fuel : Nat) (listed : Array Bool) (a : Act) (w : World), listed.size = l.length → left l.length listed ≤ fuel → OkayD l C V sk a0 listed a w → wpAny P .any l.toArray Q fuel listed a w := by
  have hfin : ∀ (listed : Array Bool) (a : Act) (w : World), listed.size = l.length → OkayD l C V sk a0 listed a w → Region.ready .any l.toArray listed = [] → Q .normal a w := fun listed a w hs hok hr =>
    hend a w hok.c hok.defers hok.size hok.old fun i o ho hsk => hok.val i o ho hsk (readyR_nil hf hs hr i (List.getElem?_eq_some_iff.1 ho).1)
  intro fuel
  induction fuel with
  | zero =>
    intro listed a w hs hle hok
    have hr : Region.ready .any l.toArray listed = [] := by
      rcases hq : Region.ready .any l.toArray listed with _ | ⟨i, r⟩
      · rfl
      · have hi : i ∈ Region.ready .any l.toArray listed := by rw [hq]; exact List.mem_cons_self ..
        have := left_set hs (mem_ready.1 hi).1
        omega
    exact ⟨hr, hfin listed a w hs hok hr⟩
  | succ fuel ih =>
    intro listed a w hs hle hok
    refine ⟨hfin listed a w hs hok, fun i hi => ?_⟩
    obtain ⟨hun, o, ho, hall⟩ := mem_ready.1 hi
    have hol : l[i]? = some o := by simpa using ho
    obtain ⟨_, hlt⟩ := (formR_spec hf).1 i o hol
    have hst := hstep.at hol
    rw [Nat.zero_add] at hst
    have h1 := hst a w hok.c hok.size hok.old fun k hk hsk ok hkl => by
      rw [List.any_eq_true] at hk
      obtain ⟨e, he, hb⟩ := hk
      rw [Bool.and_eq_true] at hb
      have hek : e.on = k := by simpa using hb.1
      exact hok.val k ok hkl hsk (by rw [← hek]; exact hall e (Array.mem_toList_iff.1 he) hb.2)
    have hold : ∀ v, ∀ t, freeB l t = true → (a.put o.dst v).tmps.getD t undef = a0.tmps.getD t undef := fun v t ht => by
      have hne : o.dst ≠ some t := by
        have := List.all_eq_true.1 ht o (List.mem_of_getElem? hol)
        simpa using this
      rw [put_getD_other hne]; exact hok.old t ht
    have hother : ∀ (v : Value) (j : Nat) (oj : Oper), l[j]? = some oj → j ≠ i → slotV oj.dst (a.put o.dst v) = slotV oj.dst a := fun v j oj hoj hne => by
      cases hjt : oj.dst with
      | none => rfl
      | some t =>
        refine put_getD_other fun hd => hne ?_
        exact ((formR_spec hf).2 i j o oj t hol hoj hd hjt).symm
    have hlisted : ∀ k, listed.getD k false = true → k ≠ i := fun k hk e => by
      subst e
      have hil : k < listed.size := by rw [hs]; exact (List.getElem?_eq_some_iff.1 hol).1
      simp only [Array.getD, hil, dif_pos] at hun hk
      rw [hun] at hk; cases hk
    have hset : ∀ k, listed.getD k false = true → (listed.setIfInBounds i true).getD k false = true := fun k hk => by
      rw [getD_set_ne false (Ne.symm (hlisted k hk))]; exact hk
    have hdn : ∀ (j : Nat) (oj : Oper), l[j]? = some oj → (listed.setIfInBounds i true).getD j false = true → ∀ e ∈ oj.after, Region.binds .any e = true → (listed.setIfInBounds i true).getD e.on false = true := fun j oj hoj hlj e he hbi => by
      rcases getD_set_cases hlj with rfl | hlj
      · obtain rfl : o = oj := by rw [hol] at hoj; exact Option.some.inj hoj
        exact hset _ (hall e he hbi)
      · exact hset _ (hok.dn j oj hoj hlj e he hbi)
    have hdv : ∀ (v : Value) (j : Nat) (oj : Oper), l[j]? = some oj → (listed.setIfInBounds i true).getD j false = true → depV l j (a.put o.dst v) = depV l j a := fun v j oj hoj hlj => by
      funext k
      unfold depV
      rw [hoj]
      cases hk : l[k]? with
      | none => rfl
      | some ok =>
        simp only
        by_cases hedge : (oj.after.toList.any fun e => e.on == k && Region.binds .any e) = true
        · rw [if_pos hedge, if_pos hedge]
          refine hother v k ok hk ?_
          rw [List.any_eq_true] at hedge
          obtain ⟨e, he, hb⟩ := hedge
          rw [Bool.and_eq_true] at hb
          have hek : e.on = k := by simpa using hb.1
          rw [← hek]
          rcases getD_set_cases hlj with rfl | hlj
          · obtain rfl : o = oj := by rw [hol] at hoj; exact Option.some.inj hoj
            exact hlisted _ (hall e (Array.mem_toList_iff.1 he) hb.2)
          · exact hlisted _ (hok.dn j oj hoj hlj e (Array.mem_toList_iff.1 he) hb.2)
        · rw [if_neg hedge, if_neg hedge]
    unfold wpOp
    simp only [ho]
    by_cases hsk : sk i = true
    · rw [if_pos hsk] at h1
      rw [if_neg (by rw [h1]; decide)]
      refine ih _ _ _ (by simpa using hs) (by have := left_set hs hun; omega) ⟨hok.c, by rw [put_defers]; exact hok.defers, by rw [put_size]; exact hok.size, hold _, hdn, fun j oj hoj hsj hlj => ?_⟩
      rw [hdv _ j oj hoj hlj]
      rcases getD_set_cases hlj with rfl | hlj
      · rw [hsk] at hsj; cases hsj
      · have hne : j ≠ i := fun e => by subst e; rw [hsk] at hsj; cases hsj
        rw [hother _ j oj hoj hne]
        exact hok.val j oj hoj hsj hlj
    · rw [if_neg hsk] at h1
      rw [if_pos h1.1]
      refine .inl (Oper.wp_mono ?_ h1.2)
      rintro a' w' ⟨v, rfl, hb, hv⟩
      refine ih _ _ _ (by simpa using hs) (by have := left_set hs hun; omega) ⟨hC _ _ hb hok.c, by rw [put_defers]; exact hok.defers, by rw [put_size]; exact hok.size, hold _, hdn, fun j oj hoj hsj hlj => ?_⟩
      rw [hdv _ j oj hoj hlj]
      by_cases hji : j = i
      · subst hji
        obtain rfl : o = oj := by rw [hol] at hoj; exact Option.some.inj hoj
        have hsv : slotV o.dst (a.put o.dst v) = kept o.dst v := by
          cases hd : o.dst with
          | none => rfl
          | some t => exact put_getD_same (by rw [hok.size]; exact hlt t hd)
        rw [hsv]
        exact hv
      · rcases getD_set_cases hlj with h | hlj
        · exact (hji h).elim
        · rw [hother _ j oj hoj hji]
          exact hV j _ _ w w' hb (hok.val j oj hoj hsj hlj)
/-- a region that draws its order, every operation alone; stores and guards too -/
theorem wp_region_ind {id : Nat} {l : List Oper} {a0 : Act} {w : World} (hm : P.follows .mixedOrders = true) (R : World → World → Prop) (C : World → Prop) (V : Nat → Value → (Nat → Value) → World → Prop) (sk : Nat → Bool) (hf : formR l a0.tmps.size = true)
    (hC : ∀ w w', R w w' → C w → C w') (hV : ∀ i v d w w', R w w' → V i v d w → V i v d w') (h0 : C w.drew)
    (hstep : StepsD P Q R C V sk l a0 0 l)
    (hend : ∀ a w, C w → a.defers = a0.defers → a.tmps.size = a0.tmps.size → (∀ t, freeB l t = true → a.tmps.getD t undef = a0.tmps.getD t undef) →
      (∀ (i : Nat) (o : Oper), l[i]? = some o → sk i = false → V i (slotV o.dst a) (depV l i a) w) → Q .normal a w) : (Code.region id l.toArray true).wp P Q a0 w := by
  refine wp_region_any hm ?_
  have hn : (Array.replicate l.toArray.size false).size = l.length := by simp
  refine wpAny_ind hf hC hV hstep hend _ _ _ _ hn ?_ ⟨h0, rfl, rfl, fun t _ => rfl, fun i o ho hl => ?_, fun i o ho _ hl => ?_⟩
  · have := List.length_filter_le (fun i => !(Array.replicate l.toArray.size false).getD i true) (List.range l.length)
    unfold left
    simpa using this
  · exfalso
    have hi := (List.getElem?_eq_some_iff.1 ho).1
    simp [Array.getD, hi] at hl
  · exfalso
    have hi := (List.getElem?_eq_some_iff.1 ho).1
    simp [Array.getD, hi] at hl
end
section
variable {B : Nat} {t : TypeId} {cs0 : List Value} {w W : World}
theorem putN_all : ∀ (vs pre : List Value) (cs : List Value), cs.length = vs.length → putN (pre ++ cs) pre.length vs = pre ++ vs
  | [], pre, cs, h => by
    have : cs = [] := List.length_eq_zero_iff.1 h
    subst this; rfl
  | v :: r, pre, [], h => by simp at h
  | v :: r, pre, c :: cs, h => by
    have e : (pre ++ c :: cs).set pre.length v = (pre ++ [v]) ++ cs := by
      rw [List.set_append_right _ _ (Nat.le_refl _), Nat.sub_self]; simp
    rw [putN, e, show pre.length + 1 = (pre ++ [v]).length by simp, putN_all r (pre ++ [v]) cs (by simpa using h)]
    simp
theorem putN_eq {cs vs : List Value} (h : cs.length = vs.length) : putN cs 0 vs = vs := putN_all vs [] cs h
/-- what a region may do that makes a block and fills it with 'cs0' -/
def RegN (B : Nat) (t : TypeId) (cs0 : List Value) (w W : World) : Prop :=
  Below B w W ∧ (∀ g, (∃ cs : List Value, cs.length = cs0.length ∧ Bx w g t cs) → ∃ cs : List Value, cs.length = cs0.length ∧ Bx W g t cs) ∧ ∀ g, Bx w g t cs0 → Bx W g t cs0
theorem RegN.refl : RegN B t cs0 w w := ⟨Below.refl _ _, fun _ => id, fun _ => id⟩
theorem RegN.call (hB : B ≤ w.heap.size) (hb : Below w.heap.size w W) : RegN B t cs0 w W :=
  ⟨hb.mono hB, fun _ ⟨cs, h1, h2⟩ => ⟨cs, h1, h2.call hb⟩, fun _ h => h.call hb⟩
theorem RegN.alloc (hB : B ≤ w.heap.size) (o : Obj) : RegN B t cs0 w (w.alloc o) := RegN.call hB ((Below.refl _ _).alloc (Nat.le_refl _) o)
theorem Bx.full {g : Nat} {cs : List Value} (h : Bx w g t cs) (hl : cs.length = cs0.length) : Bx (Go.Proofs.YtflmjdjkfognjaaGreat.setN w g 0 cs0) g t cs0 := by
  have := h.setN cs0 0
  rwa [putN_eq hl] at this
theorem Bx.setOther {g g' : Nat} {t' : TypeId} {cs vs : List Value} {o : Nat} (h : Bx w g' t' cs) (hne : g' ≠ g) : Bx (Go.Proofs.YtflmjdjkfognjaaGreat.setN w g o vs) g' t' cs :=
  ((KeptR.setN vs o (KeptR.refl (some g) w)).2 g' h.lt (fun e => hne (Option.some.inj e))).trans h
theorem RegN.store {g : Nat} (hg : B ≤ g) (ho : ∃ cs : List Value, cs.length = cs0.length ∧ Bx w g t cs) : RegN B t cs0 w (setN w g 0 cs0) := by
  obtain ⟨cs, h1, h2⟩ := ho
  refine ⟨Below.setN hg cs0 0 (Below.refl _ _), fun g' ⟨cs', h3, h4⟩ => ?_, fun g' h => ?_⟩
  · by_cases e : g' = g
    · subst e; exact ⟨_, rfl, h2.full h1⟩
    · exact ⟨_, h3, h4.setOther e⟩
  · by_cases e : g' = g
    · subst e; exact h2.full h1
    · exact h.setOther e
end
end Go.Proofs.YtflmjdjkfognjaaGreat
