/- Shaken out of XQdb -/
import Derived.Test.YtflmjdjkfognjaaGreatTp24
import Derived.Test.YtflmjdjkfognjaaGreatTp21
import Derived.Test.YtflmjdjkfognjaaGreatTp11
namespace Go.Proofs.YtflmjdjkfognjaaGreat.W10
open Go.RowKit
set_option linter.unusedVariables false
/-- a byte of a string -/
theorem run_sidx {P : Program} {t : TypeId} (ht : P.underlying t = some .string) (l : List UInt8) (k : Nat) (hk : k < l.length) (i : Int) (hi : i = k) (w : World) :
    (Instr.index t (.string (str l)) (.int .i64 i)).run P w = .ok (B (G.ix l k)) w := by
  subst hi
  have h1 : (str l).size = l.length := str_size l
  have h2 : ((str l)[k]'(by rw [h1]; exact hk)) = l[k] := by simp [str, ByteArray.getElem_eq_getElem_data]
  simp [Instr.index, asIntOf, run_underlying ht, h1, hk, h2, G.ix]
/-- a byte as a number -/
def bn (l : List UInt8) (k : Nat) : Int := ((G.ix l k).toNat : Int)
theorem bn_lt (l : List UInt8) (k : Nat) : 0 ≤ bn l k ∧ bn l k ≤ 255 := by have := (G.ix l k).toNat_lt; unfold bn; omega
theorem run_bn {P : Program} {t : TypeId} (ht : P.underlying t = some .string) (l : List UInt8) (k : Nat) (hk : k < l.length) (i : Int) (hi : i = k) (w : World) :
    (Instr.index t (.string (str l)) (.int .i64 i)).run P w = .ok (.int .u8 (bn l k)) w := run_sidx ht l k hk i hi w
/-- the digits of three bytes are right -/
def okD (x y z : Int) : Prop := (unbcd x).2 = 0 ∧ (unbcd y).2 = 0 ∧ (unbcd z).2 = 0 ∧ vB (unbcd x).1 (unbcd y).1 (unbcd z).1 = true
instance (x y z : Int) : Decidable (okD x y z) := by unfold okD; infer_instance
def dM (x y z : Int) : Int := if okD x y z then (unbcd x).1 else 0
def dS (x y z : Int) : Int := if okD x y z then (unbcd y).1 else 0
def dF (x y z : Int) : Int := if okD x y z then (unbcd z).1 else 0
def dE (x y z : Int) : Int := if okD x y z then 0 else 10
theorem d_yes {x y z : Int} (h : okD x y z) : dM x y z = (unbcd x).1 ∧ dS x y z = (unbcd y).1 ∧ dF x y z = (unbcd z).1 ∧ dE x y z = 0 := ⟨if_pos h, if_pos h, if_pos h, if_pos h⟩
theorem d_no {x y z : Int} (h : ¬ okD x y z) : dM x y z = 0 ∧ dS x y z = 0 ∧ dF x y z = 0 ∧ dE x y z = 10 := ⟨if_neg h, if_neg h, if_neg h, if_neg h⟩
theorem unbcd_01 (c : Int) : (unbcd c).2 = 0 ∨ (unbcd c).2 = 2 := by unfold unbcd; split <;> simp
abbrev mo (m s f : Int) : Obj := .cells #[.int .i64 m, .int .i64 s, .int .i64 f] 36
abbrev mc (m s f : Int) : List Value := [.int .i64 m, .int .i64 s, .int .i64 f]
abbrev MB (W : World) (g : Nat) (m s f : Int) : Prop := Bx W g 36 (mc m s f)
abbrev joinR (B g2 : Nat) (m s f : Int) : World → World → Prop := RegW B g2 36 3 (fun _ W => MB W g2 m s f)
def joinV (B g2 g4 : Nat) (m s f : Int) (i : Nat) (v : Value) (W : World) : Prop := match i with
  | 0 => v = msfv m s f
  | 1 => v = msfv m s f
  | 2 => v = .bool (vB m s f)
  | 3 => MB W g2 m s f
  | 4 => v = .bool (vB m s f)
  | _ => True
theorem joinV_keep (B g2 g4 : Nat) (m s f : Int) (i : Nat) (v : Value) (W W' : World) (hR : joinR B g2 m s f W W') (h : joinV B g2 g4 m s f i v W) : joinV B g2 g4 m s f i v W' := by
  by_cases h3 : i = 3
  · subst h3
    exact hR.2.2.2 0 h
  unfold joinV at h ⊢
  split at h <;> first | exact h | exact absurd rfl h3
theorem Bx.new2 (w : World) (o : Obj) (t : TypeId) (cs : List Value) (g : Nat) (hg : g = w.heap.size + 1) : Bx ((w.alloc o).alloc (.cells cs.toArray t)) g t cs := by
  have h := Bx.new (w.alloc o) t cs
  have e : (w.alloc o).heap.size = g := by rw [hg]; simp
  rwa [e] at h
set_option maxRecDepth 100000 in
set_option maxHeartbeats 2000000 in
theorem join_any (m s f : Int) (w : World) : Calls Tryz.prog 119 #[.agg #[.int .i64 m, .int .i64 s, .int .i64 f]] w (RV (.tuple #[msfv m s f, .bool (vB m s f)]) w) := by
  go_enter Tryz.func119, Tryz.ntmps119
  go_upto_region 2 with (fail)
  obtain ⟨g2, hg2⟩ : ∃ g, g = w.heap.size + 1 := ⟨_, rfl⟩
  obtain ⟨g4, hg4⟩ : ∃ g, g = w.heap.size + 1 + 1 := ⟨_, rfl⟩
  have hb0 := (Below.refl w.heap.size w).alloc (Nat.le_refl _) (.cells #[.int .i64 m, .int .i64 s, .int .i64 f] 207)
  have hs0 : (w.alloc (.cells #[.int .i64 m, .int .i64 s, .int .i64 f] 207)).heap.size = w.heap.size + 1 := by simp
  rw [← hg4, ← hg2]
  generalize w.alloc (.cells #[.int .i64 m, .int .i64 s, .int .i64 f] 207) = w1 at hb0 hs0 ⊢
  have hB2 : MB ((w1.alloc (mo 0 0 0)).alloc (mo m s f)) g2 0 0 0 := by rw [hg2, ← hs0]; exact (Bx.new w1 _ (mc 0 0 0)).alloc _
  have hB4 : MB ((w1.alloc (mo 0 0 0)).alloc (mo m s f)) g4 m s f := Bx.new2 w1 _ _ (mc m s f) g4 (by omega)
  have hle := (hb0.alloc hb0.size (mo 0 0 0)).alloc (by have := hb0.size; simp; omega) (mo m s f)
  generalize (w1.alloc (mo 0 0 0)).alloc (mo m s f) = w2 at hB2 hB4 hle ⊢
  have hgB : w.heap.size ≤ g2 := by omega
  have hg24 : g4 ≠ g2 := by omega
  clear hg2 hg4 hs0 hb0
  obtain ⟨B, hBB⟩ : ∃ B, B = w.heap.size := ⟨_, rfl⟩
  rw [← hBB] at hle hgB
  refine wp_region_inr (by kernel_rfl) (joinR B g2 m s f) (fun W => Below B w W ∧ MB W g4 m s f ∧ ∃ cs : List Value, cs.length = 3 ∧ Bx W g2 36 cs) (joinV B g2 g4 m s f) (fun _ => false) (by kernel_rfl) (fun W W' hR h => ⟨h.1.trans hR.1, (hR.2.1.2 g4 h.2.1.lt (fun e => hg24 (Option.some.inj e))).trans h.2.1, hR.2.2.1 h.2.2⟩) (joinV_keep B g2 g4 m s f) (⟨hle.drew, hB4, _, rfl, hB2⟩) ⟨?_, ?_, ?_, ?_, ?_, trivial⟩ ?_
  · intro a W hc hsz hold hdep
    have o4 : a.tmps.getD 4 undef = .pointer (some ⟨g4, 0, none⟩) := hold 4 (by kernel_rfl)
    have c0 := hc.2.1.cell (i := 0) rfl
    have c1 := hc.2.1.cell (i := 1) rfl
    have c2 := hc.2.1.cell (i := 2) rfl
    clear hsz hold hdep
    refine stepR_do rfl (wanted_none rfl) ?_
    refine stepR_val (v := msfv m s f) RegW.refl rfl fun K hK => ?_
    go_simp
    exact hK
  · intro a W hc hsz hold hdep
    have o4 : a.tmps.getD 4 undef = .pointer (some ⟨g4, 0, none⟩) := hold 4 (by kernel_rfl)
    have c0 := hc.2.1.cell (i := 0) rfl
    have c1 := hc.2.1.cell (i := 1) rfl
    have c2 := hc.2.1.cell (i := 2) rfl
    clear hsz hold hdep
    refine stepR_do rfl (wanted_none rfl) ?_
    refine stepR_val (v := msfv m s f) RegW.refl rfl fun K hK => ?_
    go_simp
    exact hK
  · intro a W hc hsz hold hdep
    have d1 : a.tmps.getD 13 undef = msfv m s f := hdep 1 (by kernel_rfl) rfl _ rfl
    have e1 : a.tmps[13]?.getD undef = msfv m s f := by rw [← Array.getD_eq_getD_getElem?]; exact d1
    clear hsz hold hdep
    refine stepR_do rfl (wanted_none rfl) ?_
    refine stepR_call (v := .bool (vB m s f)) (fun W' hb => RegW.call (fun _ _ _ hb h => h.call hb) (Nat.le_trans (Nat.le_of_eq hBB) hc.1.size) hb) (fun _ => rfl) fun K hK => ?_
    go_simp
    refine (avalid_any m s f _).mono ?_
    rintro e w' ⟨rfl, hb'⟩
    exact hK _ hb'
  · intro a W hc hsz hold hdep
    have o2 : a.tmps.getD 2 undef = .pointer (some ⟨g2, 0, none⟩) := hold 2 (by kernel_rfl)
    have d0 : a.tmps.getD 12 undef = msfv m s f := hdep 0 (by kernel_rfl) rfl _ rfl
    clear hsz hold hdep
    refine stepR_do rfl (wanted_none rfl) ?_
    obtain ⟨cs, hl, hB⟩ := hc.2.2
    obtain ⟨a0, a1, a2, rfl⟩ : ∃ a0 a1 a2, cs = [a0, a1, a2] := by
      match cs, hl with
      | [x, y, z], _ => exact ⟨x, y, z, rfl⟩
    have c0 := hB.cell (i := 0) rfl
    have c1 := hB.cell (i := 1) rfl
    have c2 := hB.cell (i := 2) rfl
    have hf := hB.free
    have hS : MB (setN W g2 0 (mc m s f)) g2 m s f := hB.setN (mc m s f) 0
    refine stepR_new (v := undef) (RegW.store hgB 0 (mc m s f) fun _ _ => hS) hS fun K hK => ?_
    clear hS hB
    go_simp
    exact hK
  · intro a W hc hsz hold hdep
    have d2 : a.tmps.getD 14 undef = .bool (vB m s f) := hdep 2 (by kernel_rfl) rfl _ rfl
    clear hsz hold hdep
    refine stepR_do rfl (wanted_none rfl) ?_
    refine stepR_val (v := .bool (vB m s f)) RegW.refl rfl fun K hK => ?_
    go_simp
    exact hK
  · intro a W hC hd hsz hold hval
    have d3 : a.tmps.getD 3 undef = .bool (vB m s f) := hval 4 _ rfl rfl
    have d2 : a.tmps.getD 2 undef = .pointer (some ⟨g2, 0, none⟩) := hold 2 (by kernel_rfl)
    clear hold
    obtain ⟨tm, df⟩ := a
    replace hd : df = [] := hd
    replace hsz : tm.size = 15 := hsz
    replace d3 : tm.getD 3 undef = .bool (vB m s f) := d3
    replace d2 : tm.getD 2 undef = .pointer (some ⟨g2, 0, none⟩) := d2
    subst hd
    have e : tm = #[tm.getD 0 undef, tm.getD 1 undef, tm.getD 2 undef, tm.getD 3 undef, tm.getD 4 undef, tm.getD 5 undef, tm.getD 6 undef, tm.getD 7 undef, tm.getD 8 undef, tm.getD 9 undef, tm.getD 10 undef, tm.getD 11 undef, tm.getD 12 undef, tm.getD 13 undef, tm.getD 14 undef] := arr_eq tm 15 hsz
    rw [d3, d2] at e
    clear d3 d2 hsz
    generalize tm.getD 0 undef = v0 at e
    generalize tm.getD 1 undef = v1 at e
    generalize tm.getD 4 undef = v4 at e
    generalize tm.getD 5 undef = v5 at e
    generalize tm.getD 6 undef = v6 at e
    generalize tm.getD 7 undef = v7 at e
    generalize tm.getD 8 undef = v8 at e
    generalize tm.getD 9 undef = v9 at e
    generalize tm.getD 10 undef = v10 at e
    generalize tm.getD 11 undef = v11 at e
    generalize tm.getD 12 undef = v12 at e
    generalize tm.getD 13 undef = v13 at e
    generalize tm.getD 14 undef = v14 at e
    subst e
    have hM : MB W g2 m s f := hval 3 _ rfl rfl
    have hle2 := hC.1
    rw [hBB] at hle2
    clear hval hC
    have c0 := hM.cell (i := 0) rfl
    have c1 := hM.cell (i := 1) rfl
    have c2 := hM.cell (i := 2) rfl
    clear hM
    go_wp2_with fail
    exact bodyPost_ret (v := .tuple #[msfv m s f, .bool (vB m s f)]) (by simp [results, Tryz.results119, go_sem, c0, c1, c2]) rfl ⟨rfl, hle2⟩
/-- three cells, the first 'i' of them filled -/
def c3 (i : Nat) (x y z : Int) : List Value := [.int .i64 (if 0 < i then x else 0), .int .i64 (if 1 < i then y else 0), .int .i64 (if 2 < i then z else 0)]
def okN (i : Nat) (x y z : Int) : Prop := (0 < i → (unbcd x).2 = 0) ∧ (1 < i → (unbcd y).2 = 0) ∧ (2 < i → (unbcd z).2 = 0)
theorem okD_not {x y z : Int} (h : (unbcd x).2 = 2 ∨ (unbcd y).2 = 2 ∨ (unbcd z).2 = 2) : ¬ okD x y z := fun e => by
  obtain ⟨e1, e2, e3, _⟩ := e
  omega
theorem zero_3i : ∀ w, (zeroValue 207).run Tryz.prog w = .ok (.agg #[.int .i64 0, .int .i64 0, .int .i64 0]) w := fun _ => by kernel_rfl
/-- the result of a reading of an address -/
def DecA (x y z : Int) (w : World) (e : Ending) (w' : World) : Prop := e = .returned (.tuple #[msfv (dM x y z) (dS x y z) (dF x y z), .int .i64 (dE x y z)]) ∧ Below w.heap.size w w'
theorem DecA.yes {x y z : Int} {w w' : World} (h : okD x y z) (hb : Below w.heap.size w w') {v : Value} (hv : v = .tuple #[msfv (unbcd x).1 (unbcd y).1 (unbcd z).1, .int .i64 0]) : DecA x y z w (.returned v) w' := by
  obtain ⟨h1, h2, h3, h4⟩ := d_yes h
  unfold DecA
  rw [h1, h2, h3, h4, hv]; exact ⟨rfl, hb⟩
theorem DecA.no {x y z : Int} {w w' : World} (h : ¬ okD x y z) (hb : Below w.heap.size w w') {v : Value} (hv : v = .tuple #[msfv 0 0 0, .int .i64 10]) : DecA x y z w (.returned v) w' := by
  obtain ⟨h1, h2, h3, h4⟩ := d_no h
  unfold DecA
  rw [h1, h2, h3, h4, hv]; exact ⟨rfl, hb⟩
set_option maxRecDepth 100000 in
set_option maxHeartbeats 4000000 in
theorem adec3_any (l : List UInt8) (w : World) (hl : l.length = 12) : Calls Tryz.prog 52 #[.string (str l), .int .i64 3] w (DecA (bn l 3) (bn l 4) (bn l 5) w) := by
  have hsz : (str l).size = 12 := by rw [str_size, hl]
  have hx0 := fun W => run_bn (P := Tryz.prog) Tryz.underlying9 l 3 (by omega) 3 rfl W
  have hx1 := fun W => run_bn (P := Tryz.prog) Tryz.underlying9 l 4 (by omega) 4 rfl W
  have hx2 := fun W => run_bn (P := Tryz.prog) Tryz.underlying9 l 5 (by omega) 5 rfl W
  obtain ⟨b0, b0'⟩ := bn_lt l 3
  obtain ⟨b1, b1'⟩ := bn_lt l 4
  obtain ⟨b2, b2'⟩ := bn_lt l 5
  clear hl
  generalize str l = S at hsz hx0 hx1 hx2 ⊢
  generalize bn l 3 = x at *
  generalize bn l 4 = y at *
  generalize bn l 5 = z at *
  have hz3 := zero_3i
  go_enter Tryz.func52, Tryz.ntmps52
  go_wp2_with fail
  clear hsz hz3
  obtain ⟨gR, hgR⟩ : ∃ g, g = w.heap.size := ⟨_, rfl⟩
  obtain ⟨gL, hgL⟩ : ∃ g, g = w.heap.size + 1 := ⟨_, rfl⟩
  have hR : MB ((w.alloc (mo 0 0 0)).alloc (.cells #[.int .i64 0, .int .i64 0, .int .i64 0] 207)) gR 0 0 0 := by rw [hgR]; exact (Bx.new w _ (mc 0 0 0)).alloc _
  have hL : Bx ((w.alloc (mo 0 0 0)).alloc (.cells #[.int .i64 0, .int .i64 0, .int .i64 0] 207)) gL 207 (c3 0 (unbcd x).1 (unbcd y).1 (unbcd z).1) := Bx.new2 w _ _ (mc 0 0 0) gL hgL
  have hle := ((Below.refl w.heap.size w).alloc (Nat.le_refl _) (mo 0 0 0)).alloc (by simp) (.cells #[.int .i64 0, .int .i64 0, .int .i64 0] 207)
  generalize (w.alloc (mo 0 0 0)).alloc (.cells #[.int .i64 0, .int .i64 0, .int .i64 0] 207) = w1 at hR hL hle ⊢
  have hgR' : w.heap.size ≤ gR := by omega
  have hgL' : w.heap.size ≤ gL := by omega
  have hne : gL ≠ gR := by omega
  simp only [← hgL]
  simp only [← hgR]
  obtain ⟨B, hBB⟩ : ∃ B, B = w.heap.size := ⟨_, rfl⟩
  rw [← hBB] at hle hgR' hgL'
  have HB := Lib.hid hBB
  clear hgR hgL hBB
  go_loopw [22] (fun vi wr => ∃ (i : Nat), i ≤ 3 ∧ vi = .int .i64 i ∧ Hid (okN i x y z) ∧ Hid (MB wr gR 0 0 0) ∧ Hid (Bx wr gL 207 (c3 i (unbcd x).1 (unbcd y).1 (unbcd z).1)) ∧ Below B w wr) (fun vi _ => 3 - (intOf vi).toNat)
  case atStart => exact ⟨0, by omega, rfl, Lib.hid ⟨fun h => by omega, fun h => by omega, fun h => by omega⟩, Lib.hid hR, Lib.hid hL, hle⟩
  case round =>
    clear hR hL hle
    obtain ⟨i, hi, rfl, HO, HR, HL, hb⟩ := hrel
    by_cases h3 : i = 3
    · subst h3
      have hO : (unbcd x).2 = 0 ∧ (unbcd y).2 = 0 ∧ (unbcd z).2 = 0 := ⟨HO.out.1 (by omega), HO.out.2.1 (by omega), HO.out.2.2 (by omega)⟩
      have HOK := Lib.hid hO
      have hL : Bx wr gL 207 (mc (unbcd x).1 (unbcd y).1 (unbcd z).1) := HL.out
      have c0 := hL.cell (i := 0) rfl
      have c1 := hL.cell (i := 1) rfl
      have c2 := hL.cell (i := 2) rfl
      have HJ := Lib.hid (fun W => join_any (unbcd x).1 (unbcd y).1 (unbcd z).1 W)
      clear hL hO hx0 hx1 hx2 HL HO hi
      have HY : vB (unbcd x).1 (unbcd y).1 (unbcd z).1 = true → okD x y z := fun h => ⟨HOK.out.1, HOK.out.2.1, HOK.out.2.2, h⟩
      have HN : vB (unbcd x).1 (unbcd y).1 (unbcd z).1 = false → ¬ okD x y z := fun h e => by rw [e.2.2.2] at h; cases h
      have HY := Lib.hid HY; have HN := Lib.hid HN
      have HZ : Hid (∀ W', Below B w W' → Below w.heap.size w W') := Lib.hid fun W' h => by rw [← HB.out]; exact h
      have hBs : B ≤ wr.heap.size := Nat.le_trans (Nat.le_of_eq HB.out) hb.size
      generalize hm1 : (unbcd x).1 = m at *
      generalize hm2 : (unbcd y).1 = s at *
      generalize hm3 : (unbcd z).1 = f at *
      have HM1 := Lib.hid hm1; have HM2 := Lib.hid hm2; have HM3 := Lib.hid hm3
      clear hm1 hm2 hm3
      go_wp2_with fail
      refine (HJ.out _).mono ?_
      rintro e w2 ⟨rfl, hb2⟩
      have hM2 := HR.out.call hb2
      have hle2 := hb.trans (hb2.mono hBs)
      have hs2 : B ≤ w2.heap.size := Nat.le_trans hBs hb2.size
      clear hb2 c0 c1 c2
      cases hv : vB m s f with
      | true =>
        have hok := HY.out hv
        have HK := Lib.hid hok
        clear hok
        have hf := hM2.free
        have hM4 : MB ((setN w2 gR 0 (mc m s f)).alloc (mo m s f)) gR m s f := (hM2.setN (mc m s f) 0).alloc _
        have hle4 : Below B w ((setN w2 gR 0 (mc m s f)).alloc (mo m s f)) := (Below.setN hgR' (mc m s f) 0 hle2).alloc (by simp [setN]; exact hs2) _
        have HM4 := Lib.hid hM4; have HLE := Lib.hid (HZ.out _ hle4)
        have q0 := hM2.cell (i := 0) rfl
        have q1 := hM2.cell (i := 1) rfl
        have q2 := hM2.cell (i := 2) rfl
        have hlt := hM2.lt
        clear hM4 hle4 hM2 hv hle2
        go_wp2_with fail
        have r0 := HM4.out.cell (i := 0) rfl
        have r1 := HM4.out.cell (i := 1) rfl
        have r2 := HM4.out.cell (i := 2) rfl
        simp only [setN, Nat.zero_add, Nat.reduceAdd] at r0 r1 r2
        exact bodyPost_ret (v := .tuple #[msfv m s f, .int .i64 0]) (by simp [results, Tryz.results52, go_sem, q0, q1, q2, hlt]) rfl (DecA.yes HK.out HLE.out (by rw [HM1.out, HM2.out, HM3.out]))
      | false =>
        have hok := HN.out hv
        have HK := Lib.hid hok
        clear hok
        have hf := hM2.free
        have hM4 : MB ((setN w2 gR 0 (mc 0 0 0)).alloc (mo m s f)) gR 0 0 0 := (hM2.setN (mc 0 0 0) 0).alloc _
        have hle4 : Below B w ((setN w2 gR 0 (mc 0 0 0)).alloc (mo m s f)) := (Below.setN hgR' (mc 0 0 0) 0 hle2).alloc (by simp [setN]; exact hs2) _
        have HM4 := Lib.hid hM4; have HLE := Lib.hid (HZ.out _ hle4)
        have q0 := hM2.cell (i := 0) rfl
        have q1 := hM2.cell (i := 1) rfl
        have q2 := hM2.cell (i := 2) rfl
        have hlt := hM2.lt
        clear hM4 hle4 hM2 hv hle2
        go_wp2_with fail
        have r0 := HM4.out.cell (i := 0) rfl
        have r1 := HM4.out.cell (i := 1) rfl
        have r2 := HM4.out.cell (i := 2) rfl
        simp only [setN, Nat.zero_add, Nat.reduceAdd] at r0 r1 r2
        exact bodyPost_ret (v := .tuple #[msfv 0 0 0, .int .i64 10]) (by simp [results, Tryz.results52, go_sem, q0, q1, q2, hlt]) rfl (DecA.no HK.out HLE.out rfl)
    by_cases h0 : i = 0
    · subst h0
      have HU := Lib.hid (fun W => unbcd_any x W b0 b0')
      have hL : Bx wr gL 207 (c3 0 (unbcd x).1 (unbcd y).1 (unbcd z).1) := HL.out
      have hbs := hb.size
      rcases unbcd_01 x with he | he
      · have HE := Lib.hid he
        clear he h3 HL
        have hf := hL.free
        have hlt := hL.lt
        have hq : wr.cell? ⟨gL, 0, none⟩ = some (.int .i64 0) := hL.cell (i := 0) rfl
        have HL2 : Hid (Bx (wr.setCell ⟨gL, 0, none⟩ (.int .i64 (unbcd x).1)) gL 207 (c3 1 (unbcd x).1 (unbcd y).1 (unbcd z).1)) := Lib.hid (hL.set 0 _)
        have HR2 : Hid (MB (wr.setCell ⟨gL, 0, none⟩ (.int .i64 (unbcd x).1)) gR 0 0 0) := Lib.hid (HR.out.far (p := ⟨gL, 0, none⟩) hne _)
        have hb2 : Below B w (wr.setCell ⟨gL, 0, none⟩ (.int .i64 (unbcd x).1)) := hb.setCell (p := ⟨gL, 0, none⟩) hgL' _
        have HU2 : Hid (∀ W, Calls Tryz.prog 118 #[.int .u8 x] W (R2 (.int .i64 (unbcd x).1) (.int .i64 0) W)) := Lib.hid (fun W => by have := HU.out W; rwa [HE.out] at this)
        clear hL HR HU hb hbs
        generalize (unbcd x).1 = uu at HL2 HR2 hb2 HU2
        go_wp2_with fail
        refine (HU2.out _).mono ?_
        rintro e w2 ⟨rfl, rfl⟩
        go_wp2_with fail
        first
        | (go_roundw
           case rel => exact ⟨1, by omega, by go_num, Lib.hid ⟨fun _ => HE.out, fun h => by omega, fun h => by omega⟩, HR2, HL2, hb2⟩
           case measure => simp [intOf])
        | exact ⟨⟨1, by omega, by go_num, Lib.hid ⟨fun _ => HE.out, fun h => by omega, fun h => by omega⟩, HR2, HL2, hb2⟩, by simp [intOf]⟩
      · have HE := Lib.hid he
        have HNO := Lib.hid (okD_not (x := x) (y := y) (z := z) (by first | exact .inl he | exact .inr (.inl he) | exact .inr (.inr he)))
        clear he h3 HL hL
        have hf := HR.out.free
        have hlt := HR.out.lt
        have q0 := HR.out.cell (i := 0) rfl
        have q1 := HR.out.cell (i := 1) rfl
        have q2 := HR.out.cell (i := 2) rfl
        have HR2 : Hid (MB (setN wr gR 0 (mc 0 0 0)) gR 0 0 0) := Lib.hid (HR.out.setN (mc 0 0 0) 0)
        have hb2 : Below B w (setN wr gR 0 (mc 0 0 0)) := Below.setN hgR' (mc 0 0 0) 0 hb
        rw [HB.out] at hb2
        have HLE := Lib.hid hb2
        have HU2 : Hid (∀ W, Calls Tryz.prog 118 #[.int .u8 x] W (R2 (.int .i64 (unbcd x).1) (.int .i64 2) W)) := Lib.hid (fun W => by have := HU.out W; rwa [HE.out] at this)
        clear HR HU hb hbs hb2
        generalize (unbcd x).1 = uu at HU2
        go_wp2_with fail
        refine (HU2.out _).mono ?_
        rintro e w2 ⟨rfl, rfl⟩
        go_wp2_with fail
        have r0 := HR2.out.cell (i := 0) rfl
        have r1 := HR2.out.cell (i := 1) rfl
        have r2 := HR2.out.cell (i := 2) rfl
        simp only [setN, Nat.zero_add, Nat.reduceAdd] at r0 r1 r2
        exact bodyPost_ret (v := .tuple #[msfv 0 0 0, .int .i64 10]) (by simp [results, Tryz.results52, go_sem, q0, q1, q2]) rfl (DecA.no HNO.out HLE.out rfl)
    by_cases h1 : i = 1
    · subst h1
      have HU := Lib.hid (fun W => unbcd_any y W b1 b1')
      have hL : Bx wr gL 207 (c3 1 (unbcd x).1 (unbcd y).1 (unbcd z).1) := HL.out
      have hbs := hb.size
      rcases unbcd_01 y with he | he
      · have HE := Lib.hid he
        clear he h3 HL
        have hf := hL.free
        have hlt := hL.lt
        have hq : wr.cell? ⟨gL, 1, none⟩ = some (.int .i64 0) := hL.cell (i := 1) rfl
        have HL2 : Hid (Bx (wr.setCell ⟨gL, 1, none⟩ (.int .i64 (unbcd y).1)) gL 207 (c3 2 (unbcd x).1 (unbcd y).1 (unbcd z).1)) := Lib.hid (hL.set 1 _)
        have HR2 : Hid (MB (wr.setCell ⟨gL, 1, none⟩ (.int .i64 (unbcd y).1)) gR 0 0 0) := Lib.hid (HR.out.far (p := ⟨gL, 1, none⟩) hne _)
        have hb2 : Below B w (wr.setCell ⟨gL, 1, none⟩ (.int .i64 (unbcd y).1)) := hb.setCell (p := ⟨gL, 1, none⟩) hgL' _
        have HU2 : Hid (∀ W, Calls Tryz.prog 118 #[.int .u8 y] W (R2 (.int .i64 (unbcd y).1) (.int .i64 0) W)) := Lib.hid (fun W => by have := HU.out W; rwa [HE.out] at this)
        clear hL HR HU hb hbs
        generalize (unbcd y).1 = uu at HL2 HR2 hb2 HU2
        go_wp2_with fail
        refine (HU2.out _).mono ?_
        rintro e w2 ⟨rfl, rfl⟩
        go_wp2_with fail
        first
        | (go_roundw
           case rel => exact ⟨2, by omega, by go_num, Lib.hid ⟨fun _ => HO.out.1 (by omega), fun _ => HE.out, fun h => by omega⟩, HR2, HL2, hb2⟩
           case measure => simp [intOf])
        | exact ⟨⟨2, by omega, by go_num, Lib.hid ⟨fun _ => HO.out.1 (by omega), fun _ => HE.out, fun h => by omega⟩, HR2, HL2, hb2⟩, by simp [intOf]⟩
      · have HE := Lib.hid he
        have HNO := Lib.hid (okD_not (x := x) (y := y) (z := z) (by first | exact .inl he | exact .inr (.inl he) | exact .inr (.inr he)))
        clear he h3 HL hL
        have hf := HR.out.free
        have hlt := HR.out.lt
        have q0 := HR.out.cell (i := 0) rfl
        have q1 := HR.out.cell (i := 1) rfl
        have q2 := HR.out.cell (i := 2) rfl
        have HR2 : Hid (MB (setN wr gR 0 (mc 0 0 0)) gR 0 0 0) := Lib.hid (HR.out.setN (mc 0 0 0) 0)
        have hb2 : Below B w (setN wr gR 0 (mc 0 0 0)) := Below.setN hgR' (mc 0 0 0) 0 hb
        rw [HB.out] at hb2
        have HLE := Lib.hid hb2
        have HU2 : Hid (∀ W, Calls Tryz.prog 118 #[.int .u8 y] W (R2 (.int .i64 (unbcd y).1) (.int .i64 2) W)) := Lib.hid (fun W => by have := HU.out W; rwa [HE.out] at this)
        clear HR HU hb hbs hb2
        generalize (unbcd y).1 = uu at HU2
        go_wp2_with fail
        refine (HU2.out _).mono ?_
        rintro e w2 ⟨rfl, rfl⟩
        go_wp2_with fail
        have r0 := HR2.out.cell (i := 0) rfl
        have r1 := HR2.out.cell (i := 1) rfl
        have r2 := HR2.out.cell (i := 2) rfl
        simp only [setN, Nat.zero_add, Nat.reduceAdd] at r0 r1 r2
        exact bodyPost_ret (v := .tuple #[msfv 0 0 0, .int .i64 10]) (by simp [results, Tryz.results52, go_sem, q0, q1, q2]) rfl (DecA.no HNO.out HLE.out rfl)
    by_cases h2 : i = 2
    · subst h2
      have HU := Lib.hid (fun W => unbcd_any z W b2 b2')
      have hL : Bx wr gL 207 (c3 2 (unbcd x).1 (unbcd y).1 (unbcd z).1) := HL.out
      have hbs := hb.size
      rcases unbcd_01 z with he | he
      · have HE := Lib.hid he
        clear he h3 HL
        have hf := hL.free
        have hlt := hL.lt
        have hq : wr.cell? ⟨gL, 2, none⟩ = some (.int .i64 0) := hL.cell (i := 2) rfl
        have HL2 : Hid (Bx (wr.setCell ⟨gL, 2, none⟩ (.int .i64 (unbcd z).1)) gL 207 (c3 3 (unbcd x).1 (unbcd y).1 (unbcd z).1)) := Lib.hid (hL.set 2 _)
        have HR2 : Hid (MB (wr.setCell ⟨gL, 2, none⟩ (.int .i64 (unbcd z).1)) gR 0 0 0) := Lib.hid (HR.out.far (p := ⟨gL, 2, none⟩) hne _)
        have hb2 : Below B w (wr.setCell ⟨gL, 2, none⟩ (.int .i64 (unbcd z).1)) := hb.setCell (p := ⟨gL, 2, none⟩) hgL' _
        have HU2 : Hid (∀ W, Calls Tryz.prog 118 #[.int .u8 z] W (R2 (.int .i64 (unbcd z).1) (.int .i64 0) W)) := Lib.hid (fun W => by have := HU.out W; rwa [HE.out] at this)
        clear hL HR HU hb hbs
        generalize (unbcd z).1 = uu at HL2 HR2 hb2 HU2
        go_wp2_with fail
        refine (HU2.out _).mono ?_
        rintro e w2 ⟨rfl, rfl⟩
        go_wp2_with fail
        first
        | (go_roundw
           case rel => exact ⟨3, by omega, by go_num, Lib.hid ⟨fun _ => HO.out.1 (by omega), fun _ => HO.out.2.1 (by omega), fun _ => HE.out⟩, HR2, HL2, hb2⟩
           case measure => simp [intOf])
        | exact ⟨⟨3, by omega, by go_num, Lib.hid ⟨fun _ => HO.out.1 (by omega), fun _ => HO.out.2.1 (by omega), fun _ => HE.out⟩, HR2, HL2, hb2⟩, by simp [intOf]⟩
      · have HE := Lib.hid he
        have HNO := Lib.hid (okD_not (x := x) (y := y) (z := z) (by first | exact .inl he | exact .inr (.inl he) | exact .inr (.inr he)))
        clear he h3 HL hL
        have hf := HR.out.free
        have hlt := HR.out.lt
        have q0 := HR.out.cell (i := 0) rfl
        have q1 := HR.out.cell (i := 1) rfl
        have q2 := HR.out.cell (i := 2) rfl
        have HR2 : Hid (MB (setN wr gR 0 (mc 0 0 0)) gR 0 0 0) := Lib.hid (HR.out.setN (mc 0 0 0) 0)
        have hb2 : Below B w (setN wr gR 0 (mc 0 0 0)) := Below.setN hgR' (mc 0 0 0) 0 hb
        rw [HB.out] at hb2
        have HLE := Lib.hid hb2
        have HU2 : Hid (∀ W, Calls Tryz.prog 118 #[.int .u8 z] W (R2 (.int .i64 (unbcd z).1) (.int .i64 2) W)) := Lib.hid (fun W => by have := HU.out W; rwa [HE.out] at this)
        clear HR HU hb hbs hb2
        generalize (unbcd z).1 = uu at HU2
        go_wp2_with fail
        refine (HU2.out _).mono ?_
        rintro e w2 ⟨rfl, rfl⟩
        go_wp2_with fail
        have r0 := HR2.out.cell (i := 0) rfl
        have r1 := HR2.out.cell (i := 1) rfl
        have r2 := HR2.out.cell (i := 2) rfl
        simp only [setN, Nat.zero_add, Nat.reduceAdd] at r0 r1 r2
        exact bodyPost_ret (v := .tuple #[msfv 0 0 0, .int .i64 10]) (by simp [results, Tryz.results52, go_sem, q0, q1, q2]) rfl (DecA.no HNO.out HLE.out rfl)
    omega
set_option maxRecDepth 100000 in
set_option maxHeartbeats 4000000 in
theorem adec7_any (l : List UInt8) (w : World) (hl : l.length = 12) : Calls Tryz.prog 52 #[.string (str l), .int .i64 7] w (DecA (bn l 7) (bn l 8) (bn l 9) w) := by
  have hsz : (str l).size = 12 := by rw [str_size, hl]
  have hx0 := fun W => run_bn (P := Tryz.prog) Tryz.underlying9 l 7 (by omega) 7 rfl W
  have hx1 := fun W => run_bn (P := Tryz.prog) Tryz.underlying9 l 8 (by omega) 8 rfl W
  have hx2 := fun W => run_bn (P := Tryz.prog) Tryz.underlying9 l 9 (by omega) 9 rfl W
  obtain ⟨b0, b0'⟩ := bn_lt l 7
  obtain ⟨b1, b1'⟩ := bn_lt l 8
  obtain ⟨b2, b2'⟩ := bn_lt l 9
  clear hl
  generalize str l = S at hsz hx0 hx1 hx2 ⊢
  generalize bn l 7 = x at *
  generalize bn l 8 = y at *
  generalize bn l 9 = z at *
  have hz3 := zero_3i
  go_enter Tryz.func52, Tryz.ntmps52
  go_wp2_with fail
  clear hsz hz3
  obtain ⟨gR, hgR⟩ : ∃ g, g = w.heap.size := ⟨_, rfl⟩
  obtain ⟨gL, hgL⟩ : ∃ g, g = w.heap.size + 1 := ⟨_, rfl⟩
  have hR : MB ((w.alloc (mo 0 0 0)).alloc (.cells #[.int .i64 0, .int .i64 0, .int .i64 0] 207)) gR 0 0 0 := by rw [hgR]; exact (Bx.new w _ (mc 0 0 0)).alloc _
  have hL : Bx ((w.alloc (mo 0 0 0)).alloc (.cells #[.int .i64 0, .int .i64 0, .int .i64 0] 207)) gL 207 (c3 0 (unbcd x).1 (unbcd y).1 (unbcd z).1) := Bx.new2 w _ _ (mc 0 0 0) gL hgL
  have hle := ((Below.refl w.heap.size w).alloc (Nat.le_refl _) (mo 0 0 0)).alloc (by simp) (.cells #[.int .i64 0, .int .i64 0, .int .i64 0] 207)
  generalize (w.alloc (mo 0 0 0)).alloc (.cells #[.int .i64 0, .int .i64 0, .int .i64 0] 207) = w1 at hR hL hle ⊢
  have hgR' : w.heap.size ≤ gR := by omega
  have hgL' : w.heap.size ≤ gL := by omega
  have hne : gL ≠ gR := by omega
  simp only [← hgL]
  simp only [← hgR]
  obtain ⟨B, hBB⟩ : ∃ B, B = w.heap.size := ⟨_, rfl⟩
  rw [← hBB] at hle hgR' hgL'
  have HB := Lib.hid hBB
  clear hgR hgL hBB
  go_loopw [22] (fun vi wr => ∃ (i : Nat), i ≤ 3 ∧ vi = .int .i64 i ∧ Hid (okN i x y z) ∧ Hid (MB wr gR 0 0 0) ∧ Hid (Bx wr gL 207 (c3 i (unbcd x).1 (unbcd y).1 (unbcd z).1)) ∧ Below B w wr) (fun vi _ => 3 - (intOf vi).toNat)
  case atStart => exact ⟨0, by omega, rfl, Lib.hid ⟨fun h => by omega, fun h => by omega, fun h => by omega⟩, Lib.hid hR, Lib.hid hL, hle⟩
  case round =>
    clear hR hL hle
    obtain ⟨i, hi, rfl, HO, HR, HL, hb⟩ := hrel
    by_cases h3 : i = 3
    · subst h3
      have hO : (unbcd x).2 = 0 ∧ (unbcd y).2 = 0 ∧ (unbcd z).2 = 0 := ⟨HO.out.1 (by omega), HO.out.2.1 (by omega), HO.out.2.2 (by omega)⟩
      have HOK := Lib.hid hO
      have hL : Bx wr gL 207 (mc (unbcd x).1 (unbcd y).1 (unbcd z).1) := HL.out
      have c0 := hL.cell (i := 0) rfl
      have c1 := hL.cell (i := 1) rfl
      have c2 := hL.cell (i := 2) rfl
      have HJ := Lib.hid (fun W => join_any (unbcd x).1 (unbcd y).1 (unbcd z).1 W)
      clear hL hO hx0 hx1 hx2 HL HO hi
      have HY : vB (unbcd x).1 (unbcd y).1 (unbcd z).1 = true → okD x y z := fun h => ⟨HOK.out.1, HOK.out.2.1, HOK.out.2.2, h⟩
      have HN : vB (unbcd x).1 (unbcd y).1 (unbcd z).1 = false → ¬ okD x y z := fun h e => by rw [e.2.2.2] at h; cases h
      have HY := Lib.hid HY; have HN := Lib.hid HN
      have HZ : Hid (∀ W', Below B w W' → Below w.heap.size w W') := Lib.hid fun W' h => by rw [← HB.out]; exact h
      have hBs : B ≤ wr.heap.size := Nat.le_trans (Nat.le_of_eq HB.out) hb.size
      generalize hm1 : (unbcd x).1 = m at *
      generalize hm2 : (unbcd y).1 = s at *
      generalize hm3 : (unbcd z).1 = f at *
      have HM1 := Lib.hid hm1; have HM2 := Lib.hid hm2; have HM3 := Lib.hid hm3
      clear hm1 hm2 hm3
      go_wp2_with fail
      refine (HJ.out _).mono ?_
      rintro e w2 ⟨rfl, hb2⟩
      have hM2 := HR.out.call hb2
      have hle2 := hb.trans (hb2.mono hBs)
      have hs2 : B ≤ w2.heap.size := Nat.le_trans hBs hb2.size
      clear hb2 c0 c1 c2
      cases hv : vB m s f with
      | true =>
        have hok := HY.out hv
        have HK := Lib.hid hok
        clear hok
        have hf := hM2.free
        have hM4 : MB ((setN w2 gR 0 (mc m s f)).alloc (mo m s f)) gR m s f := (hM2.setN (mc m s f) 0).alloc _
        have hle4 : Below B w ((setN w2 gR 0 (mc m s f)).alloc (mo m s f)) := (Below.setN hgR' (mc m s f) 0 hle2).alloc (by simp [setN]; exact hs2) _
        have HM4 := Lib.hid hM4; have HLE := Lib.hid (HZ.out _ hle4)
        have q0 := hM2.cell (i := 0) rfl
        have q1 := hM2.cell (i := 1) rfl
        have q2 := hM2.cell (i := 2) rfl
        have hlt := hM2.lt
        clear hM4 hle4 hM2 hv hle2
        go_wp2_with fail
        have r0 := HM4.out.cell (i := 0) rfl
        have r1 := HM4.out.cell (i := 1) rfl
        have r2 := HM4.out.cell (i := 2) rfl
        simp only [setN, Nat.zero_add, Nat.reduceAdd] at r0 r1 r2
        exact bodyPost_ret (v := .tuple #[msfv m s f, .int .i64 0]) (by simp [results, Tryz.results52, go_sem, q0, q1, q2, hlt]) rfl (DecA.yes HK.out HLE.out (by rw [HM1.out, HM2.out, HM3.out]))
      | false =>
        have hok := HN.out hv
        have HK := Lib.hid hok
        clear hok
        have hf := hM2.free
        have hM4 : MB ((setN w2 gR 0 (mc 0 0 0)).alloc (mo m s f)) gR 0 0 0 := (hM2.setN (mc 0 0 0) 0).alloc _
        have hle4 : Below B w ((setN w2 gR 0 (mc 0 0 0)).alloc (mo m s f)) := (Below.setN hgR' (mc 0 0 0) 0 hle2).alloc (by simp [setN]; exact hs2) _
        have HM4 := Lib.hid hM4; have HLE := Lib.hid (HZ.out _ hle4)
        have q0 := hM2.cell (i := 0) rfl
        have q1 := hM2.cell (i := 1) rfl
        have q2 := hM2.cell (i := 2) rfl
        have hlt := hM2.lt
        clear hM4 hle4 hM2 hv hle2
        go_wp2_with fail
        have r0 := HM4.out.cell (i := 0) rfl
        have r1 := HM4.out.cell (i := 1) rfl
        have r2 := HM4.out.cell (i := 2) rfl
        simp only [setN, Nat.zero_add, Nat.reduceAdd] at r0 r1 r2
        exact bodyPost_ret (v := .tuple #[msfv 0 0 0, .int .i64 10]) (by simp [results, Tryz.results52, go_sem, q0, q1, q2, hlt]) rfl (DecA.no HK.out HLE.out rfl)
    by_cases h0 : i = 0
    · subst h0
      have HU := Lib.hid (fun W => unbcd_any x W b0 b0')
      have hL : Bx wr gL 207 (c3 0 (unbcd x).1 (unbcd y).1 (unbcd z).1) := HL.out
      have hbs := hb.size
      rcases unbcd_01 x with he | he
      · have HE := Lib.hid he
        clear he h3 HL
        have hf := hL.free
        have hlt := hL.lt
        have hq : wr.cell? ⟨gL, 0, none⟩ = some (.int .i64 0) := hL.cell (i := 0) rfl
        have HL2 : Hid (Bx (wr.setCell ⟨gL, 0, none⟩ (.int .i64 (unbcd x).1)) gL 207 (c3 1 (unbcd x).1 (unbcd y).1 (unbcd z).1)) := Lib.hid (hL.set 0 _)
        have HR2 : Hid (MB (wr.setCell ⟨gL, 0, none⟩ (.int .i64 (unbcd x).1)) gR 0 0 0) := Lib.hid (HR.out.far (p := ⟨gL, 0, none⟩) hne _)
        have hb2 : Below B w (wr.setCell ⟨gL, 0, none⟩ (.int .i64 (unbcd x).1)) := hb.setCell (p := ⟨gL, 0, none⟩) hgL' _
        have HU2 : Hid (∀ W, Calls Tryz.prog 118 #[.int .u8 x] W (R2 (.int .i64 (unbcd x).1) (.int .i64 0) W)) := Lib.hid (fun W => by have := HU.out W; rwa [HE.out] at this)
        clear hL HR HU hb hbs
        generalize (unbcd x).1 = uu at HL2 HR2 hb2 HU2
        go_wp2_with fail
        refine (HU2.out _).mono ?_
        rintro e w2 ⟨rfl, rfl⟩
        go_wp2_with fail
        first
        | (go_roundw
           case rel => exact ⟨1, by omega, by go_num, Lib.hid ⟨fun _ => HE.out, fun h => by omega, fun h => by omega⟩, HR2, HL2, hb2⟩
           case measure => simp [intOf])
        | exact ⟨⟨1, by omega, by go_num, Lib.hid ⟨fun _ => HE.out, fun h => by omega, fun h => by omega⟩, HR2, HL2, hb2⟩, by simp [intOf]⟩
      · have HE := Lib.hid he
        have HNO := Lib.hid (okD_not (x := x) (y := y) (z := z) (by first | exact .inl he | exact .inr (.inl he) | exact .inr (.inr he)))
        clear he h3 HL hL
        have hf := HR.out.free
        have hlt := HR.out.lt
        have q0 := HR.out.cell (i := 0) rfl
        have q1 := HR.out.cell (i := 1) rfl
        have q2 := HR.out.cell (i := 2) rfl
        have HR2 : Hid (MB (setN wr gR 0 (mc 0 0 0)) gR 0 0 0) := Lib.hid (HR.out.setN (mc 0 0 0) 0)
        have hb2 : Below B w (setN wr gR 0 (mc 0 0 0)) := Below.setN hgR' (mc 0 0 0) 0 hb
        rw [HB.out] at hb2
        have HLE := Lib.hid hb2
        have HU2 : Hid (∀ W, Calls Tryz.prog 118 #[.int .u8 x] W (R2 (.int .i64 (unbcd x).1) (.int .i64 2) W)) := Lib.hid (fun W => by have := HU.out W; rwa [HE.out] at this)
        clear HR HU hb hbs hb2
        generalize (unbcd x).1 = uu at HU2
        go_wp2_with fail
        refine (HU2.out _).mono ?_
        rintro e w2 ⟨rfl, rfl⟩
        go_wp2_with fail
        have r0 := HR2.out.cell (i := 0) rfl
        have r1 := HR2.out.cell (i := 1) rfl
        have r2 := HR2.out.cell (i := 2) rfl
        simp only [setN, Nat.zero_add, Nat.reduceAdd] at r0 r1 r2
        exact bodyPost_ret (v := .tuple #[msfv 0 0 0, .int .i64 10]) (by simp [results, Tryz.results52, go_sem, q0, q1, q2]) rfl (DecA.no HNO.out HLE.out rfl)
    by_cases h1 : i = 1
    · subst h1
      have HU := Lib.hid (fun W => unbcd_any y W b1 b1')
      have hL : Bx wr gL 207 (c3 1 (unbcd x).1 (unbcd y).1 (unbcd z).1) := HL.out
      have hbs := hb.size
      rcases unbcd_01 y with he | he
      · have HE := Lib.hid he
        clear he h3 HL
        have hf := hL.free
        have hlt := hL.lt
        have hq : wr.cell? ⟨gL, 1, none⟩ = some (.int .i64 0) := hL.cell (i := 1) rfl
        have HL2 : Hid (Bx (wr.setCell ⟨gL, 1, none⟩ (.int .i64 (unbcd y).1)) gL 207 (c3 2 (unbcd x).1 (unbcd y).1 (unbcd z).1)) := Lib.hid (hL.set 1 _)
        have HR2 : Hid (MB (wr.setCell ⟨gL, 1, none⟩ (.int .i64 (unbcd y).1)) gR 0 0 0) := Lib.hid (HR.out.far (p := ⟨gL, 1, none⟩) hne _)
        have hb2 : Below B w (wr.setCell ⟨gL, 1, none⟩ (.int .i64 (unbcd y).1)) := hb.setCell (p := ⟨gL, 1, none⟩) hgL' _
        have HU2 : Hid (∀ W, Calls Tryz.prog 118 #[.int .u8 y] W (R2 (.int .i64 (unbcd y).1) (.int .i64 0) W)) := Lib.hid (fun W => by have := HU.out W; rwa [HE.out] at this)
        clear hL HR HU hb hbs
        generalize (unbcd y).1 = uu at HL2 HR2 hb2 HU2
        go_wp2_with fail
        refine (HU2.out _).mono ?_
        rintro e w2 ⟨rfl, rfl⟩
        go_wp2_with fail
        first
        | (go_roundw
           case rel => exact ⟨2, by omega, by go_num, Lib.hid ⟨fun _ => HO.out.1 (by omega), fun _ => HE.out, fun h => by omega⟩, HR2, HL2, hb2⟩
           case measure => simp [intOf])
        | exact ⟨⟨2, by omega, by go_num, Lib.hid ⟨fun _ => HO.out.1 (by omega), fun _ => HE.out, fun h => by omega⟩, HR2, HL2, hb2⟩, by simp [intOf]⟩
      · have HE := Lib.hid he
        have HNO := Lib.hid (okD_not (x := x) (y := y) (z := z) (by first | exact .inl he | exact .inr (.inl he) | exact .inr (.inr he)))
        clear he h3 HL hL
        have hf := HR.out.free
        have hlt := HR.out.lt
        have q0 := HR.out.cell (i := 0) rfl
        have q1 := HR.out.cell (i := 1) rfl
        have q2 := HR.out.cell (i := 2) rfl
        have HR2 : Hid (MB (setN wr gR 0 (mc 0 0 0)) gR 0 0 0) := Lib.hid (HR.out.setN (mc 0 0 0) 0)
        have hb2 : Below B w (setN wr gR 0 (mc 0 0 0)) := Below.setN hgR' (mc 0 0 0) 0 hb
        rw [HB.out] at hb2
        have HLE := Lib.hid hb2
        have HU2 : Hid (∀ W, Calls Tryz.prog 118 #[.int .u8 y] W (R2 (.int .i64 (unbcd y).1) (.int .i64 2) W)) := Lib.hid (fun W => by have := HU.out W; rwa [HE.out] at this)
        clear HR HU hb hbs hb2
        generalize (unbcd y).1 = uu at HU2
        go_wp2_with fail
        refine (HU2.out _).mono ?_
        rintro e w2 ⟨rfl, rfl⟩
        go_wp2_with fail
        have r0 := HR2.out.cell (i := 0) rfl
        have r1 := HR2.out.cell (i := 1) rfl
        have r2 := HR2.out.cell (i := 2) rfl
        simp only [setN, Nat.zero_add, Nat.reduceAdd] at r0 r1 r2
        exact bodyPost_ret (v := .tuple #[msfv 0 0 0, .int .i64 10]) (by simp [results, Tryz.results52, go_sem, q0, q1, q2]) rfl (DecA.no HNO.out HLE.out rfl)
    by_cases h2 : i = 2
    · subst h2
      have HU := Lib.hid (fun W => unbcd_any z W b2 b2')
      have hL : Bx wr gL 207 (c3 2 (unbcd x).1 (unbcd y).1 (unbcd z).1) := HL.out
      have hbs := hb.size
      rcases unbcd_01 z with he | he
      · have HE := Lib.hid he
        clear he h3 HL
        have hf := hL.free
        have hlt := hL.lt
        have hq : wr.cell? ⟨gL, 2, none⟩ = some (.int .i64 0) := hL.cell (i := 2) rfl
        have HL2 : Hid (Bx (wr.setCell ⟨gL, 2, none⟩ (.int .i64 (unbcd z).1)) gL 207 (c3 3 (unbcd x).1 (unbcd y).1 (unbcd z).1)) := Lib.hid (hL.set 2 _)
        have HR2 : Hid (MB (wr.setCell ⟨gL, 2, none⟩ (.int .i64 (unbcd z).1)) gR 0 0 0) := Lib.hid (HR.out.far (p := ⟨gL, 2, none⟩) hne _)
        have hb2 : Below B w (wr.setCell ⟨gL, 2, none⟩ (.int .i64 (unbcd z).1)) := hb.setCell (p := ⟨gL, 2, none⟩) hgL' _
        have HU2 : Hid (∀ W, Calls Tryz.prog 118 #[.int .u8 z] W (R2 (.int .i64 (unbcd z).1) (.int .i64 0) W)) := Lib.hid (fun W => by have := HU.out W; rwa [HE.out] at this)
        clear hL HR HU hb hbs
        generalize (unbcd z).1 = uu at HL2 HR2 hb2 HU2
        go_wp2_with fail
        refine (HU2.out _).mono ?_
        rintro e w2 ⟨rfl, rfl⟩
        go_wp2_with fail
        first
        | (go_roundw
           case rel => exact ⟨3, by omega, by go_num, Lib.hid ⟨fun _ => HO.out.1 (by omega), fun _ => HO.out.2.1 (by omega), fun _ => HE.out⟩, HR2, HL2, hb2⟩
           case measure => simp [intOf])
        | exact ⟨⟨3, by omega, by go_num, Lib.hid ⟨fun _ => HO.out.1 (by omega), fun _ => HO.out.2.1 (by omega), fun _ => HE.out⟩, HR2, HL2, hb2⟩, by simp [intOf]⟩
      · have HE := Lib.hid he
        have HNO := Lib.hid (okD_not (x := x) (y := y) (z := z) (by first | exact .inl he | exact .inr (.inl he) | exact .inr (.inr he)))
        clear he h3 HL hL
        have hf := HR.out.free
        have hlt := HR.out.lt
        have q0 := HR.out.cell (i := 0) rfl
        have q1 := HR.out.cell (i := 1) rfl
        have q2 := HR.out.cell (i := 2) rfl
        have HR2 : Hid (MB (setN wr gR 0 (mc 0 0 0)) gR 0 0 0) := Lib.hid (HR.out.setN (mc 0 0 0) 0)
        have hb2 : Below B w (setN wr gR 0 (mc 0 0 0)) := Below.setN hgR' (mc 0 0 0) 0 hb
        rw [HB.out] at hb2
        have HLE := Lib.hid hb2
        have HU2 : Hid (∀ W, Calls Tryz.prog 118 #[.int .u8 z] W (R2 (.int .i64 (unbcd z).1) (.int .i64 2) W)) := Lib.hid (fun W => by have := HU.out W; rwa [HE.out] at this)
        clear HR HU hb hbs hb2
        generalize (unbcd z).1 = uu at HU2
        go_wp2_with fail
        refine (HU2.out _).mono ?_
        rintro e w2 ⟨rfl, rfl⟩
        go_wp2_with fail
        have r0 := HR2.out.cell (i := 0) rfl
        have r1 := HR2.out.cell (i := 1) rfl
        have r2 := HR2.out.cell (i := 2) rfl
        simp only [setN, Nat.zero_add, Nat.reduceAdd] at r0 r1 r2
        exact bodyPost_ret (v := .tuple #[msfv 0 0 0, .int .i64 10]) (by simp [results, Tryz.results52, go_sem, q0, q1, q2]) rfl (DecA.no HNO.out HLE.out rfl)
    omega
end Go.Proofs.YtflmjdjkfognjaaGreat.W10
