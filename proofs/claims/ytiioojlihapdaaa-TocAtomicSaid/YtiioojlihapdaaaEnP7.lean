/- Chapter 14: Load and Save of both walked. -/
import Derived.Test.YtiioojlihapdaaaEnP6
import Derived.Outline
/- Chapter 14: current of both walked. -/
namespace Go.Proofs.Ytiioojlihapdaaa.E1
open Go.RowKit W10
set_option linter.unusedVariables false

/-- whether the slot A is the current one; whether there is one; its string -/
def curA (cap : Int) (a b : List UInt8) : Bool := okD cap a && (!okD cap b || decide (seqD b ≤ seqD a))
def curO (cap : Int) (a b : List UInt8) : Bool := okD cap a || okD cap b
def curS (cap : Int) (a b : List UInt8) : List UInt8 := if curA cap a b = true then a else b
theorem curS_ok {cap : Int} {a b : List UInt8} (h : curO cap a b = true) : okD cap (curS cap a b) = true := by
  unfold curS curA curO at *
  cases ha : okD cap a <;> cases hb : okD cap b <;> simp_all
  split <;> assumption
/-- the table of a slot is held in 'v', its number is 'q' -/
def TabP (s : List UInt8) (cl : Int) (fin : Bool) (ts : List T.Trk) (q : Int) : Prop := cl = clD s ∧ fin = finD s ∧ ts = tksD s (cntD s) ∧ q = seqD s
def CurP (cap : Int) (a b : List UInt8) (w : World) (e : Ending) (w' : World) : Prop :=
  ∃ (cl : Int) (fin : Bool) (v : Value) (ts : List T.Trk) (q : Int), e = .returned (.tuple #[tval cl fin v, .int .i64 q, .bool (curA cap a b), .bool (curO cap a b)]) ∧ RdK w' v ts ∧ Below w.heap.size w w' ∧ (curO cap a b = true → TabP (curS cap a b) cl fin ts q)
abbrev sval (a b : List UInt8) : Value := .agg #[.string (str a), .string (str b)]
/-- the slots' box, the result's box -/
structure CuW (w0 : World) (a b : List UInt8) (W : World) : Prop where
  s : Bx W w0.heap.size 54 [.string (str a), .string (str b)]
  z : Bx W (w0.heap.size + 1) 24 [.int .i64 0, .bool false, .slice none 0 0]
  le : Below w0.heap.size w0 W
theorem CuW.call {w0 W W' : World} {a b : List UInt8} (h : CuW w0 a b W) (hb : Below W.heap.size W W') : CuW w0 a b W' := ⟨h.s.call hb, h.z.call hb, h.le.trans (hb.mono h.le.size)⟩
theorem CuW.new (w0 : World) (a b : List UInt8) : CuW w0 a b ((w0.alloc (.cells #[.string (str a), .string (str b)] 54)).alloc (.cells #[.int .i64 0, .bool false, .slice none 0 0] 24)) :=
  ⟨(Bx.new w0 _ _).alloc _, by have := Bx.new (w0.alloc (.cells #[.string (str a), .string (str b)] 54)) 24 [.int .i64 0, .bool false, .slice none 0 0]; rw [World.size_alloc] at this; exact this, ((Below.refl _ _).alloc (Nat.le_refl _) _).alloc (by simp) _⟩
/-- a table that is read stays, while another one's box is written -/
theorem RdK.put3 {W : World} {g : Nat} {v : Value} {ts : List T.Trk} (h : RdK W v ts) (hb : Bx W g 24 [.int .i64 0, .bool false, .slice none 0 0]) (a b c : Value) : RdK (((W.setCell ⟨g, 0, none⟩ a).setCell ⟨g, 1, none⟩ b).setCell ⟨g, 2, none⟩ c) v ts := by
  obtain ⟨ad, cap, bb, off, rfl, hac, hcell⟩ := h
  refine ⟨ad, cap, bb, off, rfl, hac, fun i hi => ⟨(hcell i hi).1, fun j u hu => ?_⟩⟩
  have h6 := (hcell i hi).2 j u hu
  have hne : g ≠ bb := by
    rintro rfl
    have h7 := (hcell i hi).2
    have hx := h7 0 _ rfl
    have hy := h7 1 _ rfl
    have hz := h7 2 _ rfl
    rw [cell_of_row _ _ _ _ _ _ hb] at hx hy hz
    generalize off + i * 7 = k at hx hy hz
    match k with
    | 0 => simp at hy
    | 1 => simp at hx
    | 2 => simp at hx
    | k + 3 => simp at hx
  have e : ∀ (W : World) (m : Nat) (x : Value), (W.setCell ⟨g, m, none⟩ x).cell? ⟨bb, off + i * 7 + j, none⟩ = W.cell? ⟨bb, off + i * 7 + j, none⟩ := fun W m x => World.cell?_setCell_other W _ _ _ (fun e => hne (congrArg Addr.block e))
  rw [e, e, e]
  exact h6
set_option maxRecDepth 100000 in
set_option maxHeartbeats 2000000 in
theorem pcur_ff (cap : Int) (a b : List UInt8) (w : World) (hla : a.length ≤ 20000) (hlb : b.length ≤ 20000) (HOA : Hid (okD cap a = false)) (HOB : Hid (okD cap b = false)) : Calls Try.prog 47 #[.int .i64 cap, sval a b] w (CurP cap a b w) := by
  have HA : Hid (curA cap a b = false) := Lib.hid (by unfold curA; rw [HOA.out, HOB.out]; simp)
  have HO : Hid (curO cap a b = false) := Lib.hid (by unfold curO; rw [HOA.out, HOB.out]; rfl)
  have HS : Hid (curS cap a b = b) := Lib.hid (by unfold curS; rw [HA.out]; rfl)
  have HDA := Lib.hid (fun W => decode_any cap a W (by omega))
  have HDB := Lib.hid (fun W => decode_any cap b W (by omega))
  have HCW := Lib.hid (CuW.new w a b)
  clear hla hlb
  go_enter Try.func47, Try.ntmps47
  go_upto_region 1 with (fail)
  have hcw := HCW.out
  generalize (w.alloc (.cells #[.string (str a), .string (str b)] 54)).alloc (.cells #[.int .i64 0, .bool false, .slice none 0 0] 24) = w1 at hcw ⊢
  have s0 := hcw.s.cell (i := 0) rfl
  go_wp2_with fail
  refine (HDA.out _).mono ?_
  rintro e w2 ⟨cl1, fin1, v1, ts1, q1, rfl, hr1, hb2, ht1⟩
  rw [HOA.out]
  obtain ⟨a1, c1, rfl, _⟩ := RdS.form hr1
  have hcw2 := hcw.call hb2
  clear s0 hcw hb2
  have HT1 := Lib.hid ht1
  clear ht1
  have hcw3 := hcw2.call ((Below.refl w2.heap.size w2).alloc (Nat.le_refl _) (.cells #[.int .i64 cl1, .bool fin1, .slice a1 ts1.length c1] 24))
  have hB1 := Bx.new w2 24 [.int .i64 cl1, .bool fin1, .slice a1 ts1.length c1]
  have hr2 := hr1.keep ((Below.refl w2.heap.size w2).alloc (Nat.le_refl _) (.cells #[.int .i64 cl1, .bool fin1, .slice a1 ts1.length c1] 24))
  clear hcw2 hr1
  go_upto_region 2 with (fail)
  obtain ⟨g1, hg1⟩ : ∃ g1, g1 = w2.heap.size := ⟨_, rfl⟩
  rw [← hg1] at hB1
  simp only [← hg1]
  generalize w2.alloc (.cells #[.int .i64 cl1, .bool fin1, .slice a1 ts1.length c1] 24) = w3 at hcw3 hB1 hr2 ⊢
  clear hg1
  have s1 := hcw3.s.cell (i := 1) rfl
  go_wp2_with fail
  refine (HDB.out _).mono ?_
  rintro e w4 ⟨cl2, fin2, v2, ts2, q2, rfl, hr3, hb4, ht2⟩
  obtain ⟨a2, c2, rfl, _⟩ := RdS.form hr3
  have hcw4 := hcw3.call hb4
  have hB2 := hB1.call hb4
  have hr4 := hr2.keep hb4
  have HT2 := Lib.hid ht2
  have hlt4 := hB2.lt
  clear s1 hcw3 hb4 hB1 hr2 ht2
  rw [HOB.out]
  have hcw5 := hcw4.call ((Below.refl w4.heap.size w4).alloc (Nat.le_refl _) (.cells #[.int .i64 cl2, .bool fin2, .slice a2 ts2.length c2] 24))
  have hB5 := hB2.alloc (.cells #[.int .i64 cl2, .bool fin2, .slice a2 ts2.length c2] 24)
  have hB6 := Bx.new w4 24 [.int .i64 cl2, .bool fin2, .slice a2 ts2.length c2]
  have hr5 := hr4.keep ((Below.refl w4.heap.size w4).alloc (Nat.le_refl _) (.cells #[.int .i64 cl2, .bool fin2, .slice a2 ts2.length c2] 24))
  have hr6 := hr3.keep ((Below.refl w4.heap.size w4).alloc (Nat.le_refl _) (.cells #[.int .i64 cl2, .bool fin2, .slice a2 ts2.length c2] 24))
  clear hcw4 hB2 hr4 hr3
  go_upto_region 3 with (fail)
  obtain ⟨g2, hg2⟩ : ∃ g2, g2 = w4.heap.size := ⟨_, rfl⟩
  rw [← hg2] at hB6 hlt4
  simp only [← hg2]
  generalize w4.alloc (.cells #[.int .i64 cl2, .bool fin2, .slice a2 ts2.length c2] 24) = w5 at hcw5 hB5 hB6 hr5 hr6 ⊢
  clear hg2
  have z0 := hcw5.z.cell (i := 0) rfl
  have z1 := hcw5.z.cell (i := 1) rfl
  have z2 := hcw5.z.cell (i := 2) rfl
  have zf := hcw5.z.free
  have zl := hcw5.z.lt
  have x0 := hB5.cell (i := 0) rfl
  have x1 := hB5.cell (i := 1) rfl
  have x2 := hB5.cell (i := 2) rfl
  have y0 := hB6.cell (i := 0) rfl
  have y1 := hB6.cell (i := 1) rfl
  have y2 := hB6.cell (i := 2) rfl
  have HLE := Lib.hid hcw5.le
  have HR5 := Lib.hid (RdK.put3 hr5 hcw5.z)
  have HR6 := Lib.hid (RdK.put3 hr6 hcw5.z)
  clear hcw5 hB5 hB6 hr5 hr6
  go_wp2_with fail
  refine bodyPost_ret (v := .tuple #[tval cl2 fin2 (.slice a2 ts2.length c2), .int .i64 q2, .bool false, .bool false]) (by simp [results, Try.results47, go_sem, z0, z1, z2]) rfl ?_
  exact ⟨cl2, fin2, _, ts2, q2, by rw [HA.out, HO.out], HR6.out _ _ _, ((HLE.out.setCell (by simp) _).setCell (by simp) _).setCell (by simp) _, fun h => by rw [HS.out]; first | exact HT2.out HOB.out | (rw [HO.out] at h; cases h)⟩
set_option maxRecDepth 100000 in
set_option maxHeartbeats 2000000 in
theorem pcur_ft (cap : Int) (a b : List UInt8) (w : World) (hla : a.length ≤ 20000) (hlb : b.length ≤ 20000) (HOA : Hid (okD cap a = false)) (HOB : Hid (okD cap b = true)) : Calls Try.prog 47 #[.int .i64 cap, sval a b] w (CurP cap a b w) := by
  have HA : Hid (curA cap a b = false) := Lib.hid (by unfold curA; rw [HOA.out, HOB.out]; simp)
  have HO : Hid (curO cap a b = true) := Lib.hid (by unfold curO; rw [HOA.out, HOB.out]; rfl)
  have HS : Hid (curS cap a b = b) := Lib.hid (by unfold curS; rw [HA.out]; rfl)
  have HDA := Lib.hid (fun W => decode_any cap a W (by omega))
  have HDB := Lib.hid (fun W => decode_any cap b W (by omega))
  have HCW := Lib.hid (CuW.new w a b)
  clear hla hlb
  go_enter Try.func47, Try.ntmps47
  go_upto_region 1 with (fail)
  have hcw := HCW.out
  generalize (w.alloc (.cells #[.string (str a), .string (str b)] 54)).alloc (.cells #[.int .i64 0, .bool false, .slice none 0 0] 24) = w1 at hcw ⊢
  have s0 := hcw.s.cell (i := 0) rfl
  go_wp2_with fail
  refine (HDA.out _).mono ?_
  rintro e w2 ⟨cl1, fin1, v1, ts1, q1, rfl, hr1, hb2, ht1⟩
  rw [HOA.out]
  obtain ⟨a1, c1, rfl, _⟩ := RdS.form hr1
  have hcw2 := hcw.call hb2
  clear s0 hcw hb2
  have HT1 := Lib.hid ht1
  clear ht1
  have hcw3 := hcw2.call ((Below.refl w2.heap.size w2).alloc (Nat.le_refl _) (.cells #[.int .i64 cl1, .bool fin1, .slice a1 ts1.length c1] 24))
  have hB1 := Bx.new w2 24 [.int .i64 cl1, .bool fin1, .slice a1 ts1.length c1]
  have hr2 := hr1.keep ((Below.refl w2.heap.size w2).alloc (Nat.le_refl _) (.cells #[.int .i64 cl1, .bool fin1, .slice a1 ts1.length c1] 24))
  clear hcw2 hr1
  go_upto_region 2 with (fail)
  obtain ⟨g1, hg1⟩ : ∃ g1, g1 = w2.heap.size := ⟨_, rfl⟩
  rw [← hg1] at hB1
  simp only [← hg1]
  generalize w2.alloc (.cells #[.int .i64 cl1, .bool fin1, .slice a1 ts1.length c1] 24) = w3 at hcw3 hB1 hr2 ⊢
  clear hg1
  have s1 := hcw3.s.cell (i := 1) rfl
  go_wp2_with fail
  refine (HDB.out _).mono ?_
  rintro e w4 ⟨cl2, fin2, v2, ts2, q2, rfl, hr3, hb4, ht2⟩
  obtain ⟨a2, c2, rfl, _⟩ := RdS.form hr3
  have hcw4 := hcw3.call hb4
  have hB2 := hB1.call hb4
  have hr4 := hr2.keep hb4
  have HT2 := Lib.hid ht2
  have hlt4 := hB2.lt
  clear s1 hcw3 hb4 hB1 hr2 ht2
  rw [HOB.out]
  have hcw5 := hcw4.call ((Below.refl w4.heap.size w4).alloc (Nat.le_refl _) (.cells #[.int .i64 cl2, .bool fin2, .slice a2 ts2.length c2] 24))
  have hB5 := hB2.alloc (.cells #[.int .i64 cl2, .bool fin2, .slice a2 ts2.length c2] 24)
  have hB6 := Bx.new w4 24 [.int .i64 cl2, .bool fin2, .slice a2 ts2.length c2]
  have hr5 := hr4.keep ((Below.refl w4.heap.size w4).alloc (Nat.le_refl _) (.cells #[.int .i64 cl2, .bool fin2, .slice a2 ts2.length c2] 24))
  have hr6 := hr3.keep ((Below.refl w4.heap.size w4).alloc (Nat.le_refl _) (.cells #[.int .i64 cl2, .bool fin2, .slice a2 ts2.length c2] 24))
  clear hcw4 hB2 hr4 hr3
  go_upto_region 3 with (fail)
  obtain ⟨g2, hg2⟩ : ∃ g2, g2 = w4.heap.size := ⟨_, rfl⟩
  rw [← hg2] at hB6 hlt4
  simp only [← hg2]
  generalize w4.alloc (.cells #[.int .i64 cl2, .bool fin2, .slice a2 ts2.length c2] 24) = w5 at hcw5 hB5 hB6 hr5 hr6 ⊢
  clear hg2
  have z0 := hcw5.z.cell (i := 0) rfl
  have z1 := hcw5.z.cell (i := 1) rfl
  have z2 := hcw5.z.cell (i := 2) rfl
  have zf := hcw5.z.free
  have zl := hcw5.z.lt
  have x0 := hB5.cell (i := 0) rfl
  have x1 := hB5.cell (i := 1) rfl
  have x2 := hB5.cell (i := 2) rfl
  have y0 := hB6.cell (i := 0) rfl
  have y1 := hB6.cell (i := 1) rfl
  have y2 := hB6.cell (i := 2) rfl
  have HLE := Lib.hid hcw5.le
  have HR5 := Lib.hid (RdK.put3 hr5 hcw5.z)
  have HR6 := Lib.hid (RdK.put3 hr6 hcw5.z)
  clear hcw5 hB5 hB6 hr5 hr6
  go_wp2_with fail
  refine bodyPost_ret (v := .tuple #[tval cl2 fin2 (.slice a2 ts2.length c2), .int .i64 q2, .bool false, .bool true]) (by simp [results, Try.results47, go_sem, z0, z1, z2]) rfl ?_
  exact ⟨cl2, fin2, _, ts2, q2, by rw [HA.out, HO.out], HR6.out _ _ _, ((HLE.out.setCell (by simp) _).setCell (by simp) _).setCell (by simp) _, fun h => by rw [HS.out]; first | exact HT2.out HOB.out | (rw [HO.out] at h; cases h)⟩
set_option maxRecDepth 100000 in
set_option maxHeartbeats 2000000 in
theorem pcur_tf (cap : Int) (a b : List UInt8) (w : World) (hla : a.length ≤ 20000) (hlb : b.length ≤ 20000) (HOA : Hid (okD cap a = true)) (HOB : Hid (okD cap b = false)) : Calls Try.prog 47 #[.int .i64 cap, sval a b] w (CurP cap a b w) := by
  have HA : Hid (curA cap a b = true) := Lib.hid (by unfold curA; rw [HOA.out, HOB.out]; simp)
  have HO : Hid (curO cap a b = true) := Lib.hid (by unfold curO; rw [HOA.out, HOB.out]; rfl)
  have HS : Hid (curS cap a b = a) := Lib.hid (by unfold curS; rw [HA.out]; rfl)
  have HDA := Lib.hid (fun W => decode_any cap a W (by omega))
  have HDB := Lib.hid (fun W => decode_any cap b W (by omega))
  have HCW := Lib.hid (CuW.new w a b)
  clear hla hlb
  go_enter Try.func47, Try.ntmps47
  go_upto_region 1 with (fail)
  have hcw := HCW.out
  generalize (w.alloc (.cells #[.string (str a), .string (str b)] 54)).alloc (.cells #[.int .i64 0, .bool false, .slice none 0 0] 24) = w1 at hcw ⊢
  have s0 := hcw.s.cell (i := 0) rfl
  go_wp2_with fail
  refine (HDA.out _).mono ?_
  rintro e w2 ⟨cl1, fin1, v1, ts1, q1, rfl, hr1, hb2, ht1⟩
  rw [HOA.out]
  obtain ⟨a1, c1, rfl, _⟩ := RdS.form hr1
  have hcw2 := hcw.call hb2
  clear s0 hcw hb2
  have HT1 := Lib.hid ht1
  clear ht1
  have hcw3 := hcw2.call ((Below.refl w2.heap.size w2).alloc (Nat.le_refl _) (.cells #[.int .i64 cl1, .bool fin1, .slice a1 ts1.length c1] 24))
  have hB1 := Bx.new w2 24 [.int .i64 cl1, .bool fin1, .slice a1 ts1.length c1]
  have hr2 := hr1.keep ((Below.refl w2.heap.size w2).alloc (Nat.le_refl _) (.cells #[.int .i64 cl1, .bool fin1, .slice a1 ts1.length c1] 24))
  clear hcw2 hr1
  go_upto_region 2 with (fail)
  obtain ⟨g1, hg1⟩ : ∃ g1, g1 = w2.heap.size := ⟨_, rfl⟩
  rw [← hg1] at hB1
  simp only [← hg1]
  generalize w2.alloc (.cells #[.int .i64 cl1, .bool fin1, .slice a1 ts1.length c1] 24) = w3 at hcw3 hB1 hr2 ⊢
  clear hg1
  have s1 := hcw3.s.cell (i := 1) rfl
  go_wp2_with fail
  refine (HDB.out _).mono ?_
  rintro e w4 ⟨cl2, fin2, v2, ts2, q2, rfl, hr3, hb4, ht2⟩
  obtain ⟨a2, c2, rfl, _⟩ := RdS.form hr3
  have hcw4 := hcw3.call hb4
  have hB2 := hB1.call hb4
  have hr4 := hr2.keep hb4
  have HT2 := Lib.hid ht2
  have hlt4 := hB2.lt
  clear s1 hcw3 hb4 hB1 hr2 ht2
  rw [HOB.out]
  have hcw5 := hcw4.call ((Below.refl w4.heap.size w4).alloc (Nat.le_refl _) (.cells #[.int .i64 cl2, .bool fin2, .slice a2 ts2.length c2] 24))
  have hB5 := hB2.alloc (.cells #[.int .i64 cl2, .bool fin2, .slice a2 ts2.length c2] 24)
  have hB6 := Bx.new w4 24 [.int .i64 cl2, .bool fin2, .slice a2 ts2.length c2]
  have hr5 := hr4.keep ((Below.refl w4.heap.size w4).alloc (Nat.le_refl _) (.cells #[.int .i64 cl2, .bool fin2, .slice a2 ts2.length c2] 24))
  have hr6 := hr3.keep ((Below.refl w4.heap.size w4).alloc (Nat.le_refl _) (.cells #[.int .i64 cl2, .bool fin2, .slice a2 ts2.length c2] 24))
  clear hcw4 hB2 hr4 hr3
  go_upto_region 3 with (fail)
  obtain ⟨g2, hg2⟩ : ∃ g2, g2 = w4.heap.size := ⟨_, rfl⟩
  rw [← hg2] at hB6 hlt4
  simp only [← hg2]
  generalize w4.alloc (.cells #[.int .i64 cl2, .bool fin2, .slice a2 ts2.length c2] 24) = w5 at hcw5 hB5 hB6 hr5 hr6 ⊢
  clear hg2
  have z0 := hcw5.z.cell (i := 0) rfl
  have z1 := hcw5.z.cell (i := 1) rfl
  have z2 := hcw5.z.cell (i := 2) rfl
  have zf := hcw5.z.free
  have zl := hcw5.z.lt
  have x0 := hB5.cell (i := 0) rfl
  have x1 := hB5.cell (i := 1) rfl
  have x2 := hB5.cell (i := 2) rfl
  have y0 := hB6.cell (i := 0) rfl
  have y1 := hB6.cell (i := 1) rfl
  have y2 := hB6.cell (i := 2) rfl
  have HLE := Lib.hid hcw5.le
  have HR5 := Lib.hid (RdK.put3 hr5 hcw5.z)
  have HR6 := Lib.hid (RdK.put3 hr6 hcw5.z)
  clear hcw5 hB5 hB6 hr5 hr6
  go_wp2_with fail
  refine bodyPost_ret (v := .tuple #[tval cl1 fin1 (.slice a1 ts1.length c1), .int .i64 q1, .bool true, .bool true]) (by simp [results, Try.results47, go_sem, z0, z1, z2]) rfl ?_
  exact ⟨cl1, fin1, _, ts1, q1, by rw [HA.out, HO.out], HR5.out _ _ _, ((HLE.out.setCell (by simp) _).setCell (by simp) _).setCell (by simp) _, fun h => by rw [HS.out]; first | exact HT1.out HOA.out | (rw [HO.out] at h; cases h)⟩
set_option maxRecDepth 100000 in
set_option maxHeartbeats 2000000 in
theorem pcur_tt1 (cap : Int) (a b : List UInt8) (w : World) (hla : a.length ≤ 20000) (hlb : b.length ≤ 20000) (HOA : Hid (okD cap a = true)) (HOB : Hid (okD cap b = true)) (hs : seqD b ≤ seqD a) : Calls Try.prog 47 #[.int .i64 cap, sval a b] w (CurP cap a b w) := by
  have HA : Hid (curA cap a b = true) := Lib.hid (by unfold curA; rw [HOA.out, HOB.out]; simp <;> omega)
  have HO : Hid (curO cap a b = true) := Lib.hid (by unfold curO; rw [HOA.out, HOB.out]; rfl)
  have HS : Hid (curS cap a b = a) := Lib.hid (by unfold curS; rw [HA.out]; rfl)
  have HDA := Lib.hid (fun W => decode_any cap a W (by omega))
  have HDB := Lib.hid (fun W => decode_any cap b W (by omega))
  have HCW := Lib.hid (CuW.new w a b)
  clear hla hlb
  go_enter Try.func47, Try.ntmps47
  go_upto_region 1 with (fail)
  have hcw := HCW.out
  generalize (w.alloc (.cells #[.string (str a), .string (str b)] 54)).alloc (.cells #[.int .i64 0, .bool false, .slice none 0 0] 24) = w1 at hcw ⊢
  have s0 := hcw.s.cell (i := 0) rfl
  go_wp2_with fail
  refine (HDA.out _).mono ?_
  rintro e w2 ⟨cl1, fin1, v1, ts1, q1, rfl, hr1, hb2, ht1⟩
  rw [HOA.out]
  obtain ⟨a1, c1, rfl, _⟩ := RdS.form hr1
  have hcw2 := hcw.call hb2
  clear s0 hcw hb2
  have HT1 := Lib.hid ht1
  clear ht1
  have hcw3 := hcw2.call ((Below.refl w2.heap.size w2).alloc (Nat.le_refl _) (.cells #[.int .i64 cl1, .bool fin1, .slice a1 ts1.length c1] 24))
  have hB1 := Bx.new w2 24 [.int .i64 cl1, .bool fin1, .slice a1 ts1.length c1]
  have hr2 := hr1.keep ((Below.refl w2.heap.size w2).alloc (Nat.le_refl _) (.cells #[.int .i64 cl1, .bool fin1, .slice a1 ts1.length c1] 24))
  clear hcw2 hr1
  go_upto_region 2 with (fail)
  obtain ⟨g1, hg1⟩ : ∃ g1, g1 = w2.heap.size := ⟨_, rfl⟩
  rw [← hg1] at hB1
  simp only [← hg1]
  generalize w2.alloc (.cells #[.int .i64 cl1, .bool fin1, .slice a1 ts1.length c1] 24) = w3 at hcw3 hB1 hr2 ⊢
  clear hg1
  have s1 := hcw3.s.cell (i := 1) rfl
  go_wp2_with fail
  refine (HDB.out _).mono ?_
  rintro e w4 ⟨cl2, fin2, v2, ts2, q2, rfl, hr3, hb4, ht2⟩
  obtain ⟨a2, c2, rfl, _⟩ := RdS.form hr3
  have hcw4 := hcw3.call hb4
  have hB2 := hB1.call hb4
  have hr4 := hr2.keep hb4
  have HT2 := Lib.hid ht2
  have hlt4 := hB2.lt
  clear s1 hcw3 hb4 hB1 hr2 ht2
  rw [HOB.out]
  have hcw5 := hcw4.call ((Below.refl w4.heap.size w4).alloc (Nat.le_refl _) (.cells #[.int .i64 cl2, .bool fin2, .slice a2 ts2.length c2] 24))
  have hB5 := hB2.alloc (.cells #[.int .i64 cl2, .bool fin2, .slice a2 ts2.length c2] 24)
  have hB6 := Bx.new w4 24 [.int .i64 cl2, .bool fin2, .slice a2 ts2.length c2]
  have hr5 := hr4.keep ((Below.refl w4.heap.size w4).alloc (Nat.le_refl _) (.cells #[.int .i64 cl2, .bool fin2, .slice a2 ts2.length c2] 24))
  have hr6 := hr3.keep ((Below.refl w4.heap.size w4).alloc (Nat.le_refl _) (.cells #[.int .i64 cl2, .bool fin2, .slice a2 ts2.length c2] 24))
  clear hcw4 hB2 hr4 hr3
  go_upto_region 3 with (fail)
  obtain ⟨g2, hg2⟩ : ∃ g2, g2 = w4.heap.size := ⟨_, rfl⟩
  rw [← hg2] at hB6 hlt4
  simp only [← hg2]
  generalize w4.alloc (.cells #[.int .i64 cl2, .bool fin2, .slice a2 ts2.length c2] 24) = w5 at hcw5 hB5 hB6 hr5 hr6 ⊢
  clear hg2
  have z0 := hcw5.z.cell (i := 0) rfl
  have z1 := hcw5.z.cell (i := 1) rfl
  have z2 := hcw5.z.cell (i := 2) rfl
  have zf := hcw5.z.free
  have zl := hcw5.z.lt
  have x0 := hB5.cell (i := 0) rfl
  have x1 := hB5.cell (i := 1) rfl
  have x2 := hB5.cell (i := 2) rfl
  have y0 := hB6.cell (i := 0) rfl
  have y1 := hB6.cell (i := 1) rfl
  have y2 := hB6.cell (i := 2) rfl
  have HLE := Lib.hid hcw5.le
  have HR5 := Lib.hid (RdK.put3 hr5 hcw5.z)
  have HR6 := Lib.hid (RdK.put3 hr6 hcw5.z)
  have e1 : q1 = seqD a := (HT1.out HOA.out).2.2.2
  have e2 : q2 = seqD b := (HT2.out HOB.out).2.2.2
  have hge : q2 ≤ q1 := by rw [e1, e2]; omega
  clear e1 e2
  clear hcw5 hB5 hB6 hr5 hr6
  go_wp2_with fail
  refine bodyPost_ret (v := .tuple #[tval cl1 fin1 (.slice a1 ts1.length c1), .int .i64 q1, .bool true, .bool true]) (by simp [results, Try.results47, go_sem, z0, z1, z2]) rfl ?_
  exact ⟨cl1, fin1, _, ts1, q1, by rw [HA.out, HO.out], HR5.out _ _ _, ((HLE.out.setCell (by simp) _).setCell (by simp) _).setCell (by simp) _, fun h => by rw [HS.out]; first | exact HT1.out HOA.out | (rw [HO.out] at h; cases h)⟩
set_option maxRecDepth 100000 in
set_option maxHeartbeats 2000000 in
theorem pcur_tt2 (cap : Int) (a b : List UInt8) (w : World) (hla : a.length ≤ 20000) (hlb : b.length ≤ 20000) (HOA : Hid (okD cap a = true)) (HOB : Hid (okD cap b = true)) (hs : ¬ seqD b ≤ seqD a) : Calls Try.prog 47 #[.int .i64 cap, sval a b] w (CurP cap a b w) := by
  have HA : Hid (curA cap a b = false) := Lib.hid (by unfold curA; rw [HOA.out, HOB.out]; simp <;> omega)
  have HO : Hid (curO cap a b = true) := Lib.hid (by unfold curO; rw [HOA.out, HOB.out]; rfl)
  have HS : Hid (curS cap a b = b) := Lib.hid (by unfold curS; rw [HA.out]; rfl)
  have HDA := Lib.hid (fun W => decode_any cap a W (by omega))
  have HDB := Lib.hid (fun W => decode_any cap b W (by omega))
  have HCW := Lib.hid (CuW.new w a b)
  clear hla hlb
  go_enter Try.func47, Try.ntmps47
  go_upto_region 1 with (fail)
  have hcw := HCW.out
  generalize (w.alloc (.cells #[.string (str a), .string (str b)] 54)).alloc (.cells #[.int .i64 0, .bool false, .slice none 0 0] 24) = w1 at hcw ⊢
  have s0 := hcw.s.cell (i := 0) rfl
  go_wp2_with fail
  refine (HDA.out _).mono ?_
  rintro e w2 ⟨cl1, fin1, v1, ts1, q1, rfl, hr1, hb2, ht1⟩
  rw [HOA.out]
  obtain ⟨a1, c1, rfl, _⟩ := RdS.form hr1
  have hcw2 := hcw.call hb2
  clear s0 hcw hb2
  have HT1 := Lib.hid ht1
  clear ht1
  have hcw3 := hcw2.call ((Below.refl w2.heap.size w2).alloc (Nat.le_refl _) (.cells #[.int .i64 cl1, .bool fin1, .slice a1 ts1.length c1] 24))
  have hB1 := Bx.new w2 24 [.int .i64 cl1, .bool fin1, .slice a1 ts1.length c1]
  have hr2 := hr1.keep ((Below.refl w2.heap.size w2).alloc (Nat.le_refl _) (.cells #[.int .i64 cl1, .bool fin1, .slice a1 ts1.length c1] 24))
  clear hcw2 hr1
  go_upto_region 2 with (fail)
  obtain ⟨g1, hg1⟩ : ∃ g1, g1 = w2.heap.size := ⟨_, rfl⟩
  rw [← hg1] at hB1
  simp only [← hg1]
  generalize w2.alloc (.cells #[.int .i64 cl1, .bool fin1, .slice a1 ts1.length c1] 24) = w3 at hcw3 hB1 hr2 ⊢
  clear hg1
  have s1 := hcw3.s.cell (i := 1) rfl
  go_wp2_with fail
  refine (HDB.out _).mono ?_
  rintro e w4 ⟨cl2, fin2, v2, ts2, q2, rfl, hr3, hb4, ht2⟩
  obtain ⟨a2, c2, rfl, _⟩ := RdS.form hr3
  have hcw4 := hcw3.call hb4
  have hB2 := hB1.call hb4
  have hr4 := hr2.keep hb4
  have HT2 := Lib.hid ht2
  have hlt4 := hB2.lt
  clear s1 hcw3 hb4 hB1 hr2 ht2
  rw [HOB.out]
  have hcw5 := hcw4.call ((Below.refl w4.heap.size w4).alloc (Nat.le_refl _) (.cells #[.int .i64 cl2, .bool fin2, .slice a2 ts2.length c2] 24))
  have hB5 := hB2.alloc (.cells #[.int .i64 cl2, .bool fin2, .slice a2 ts2.length c2] 24)
  have hB6 := Bx.new w4 24 [.int .i64 cl2, .bool fin2, .slice a2 ts2.length c2]
  have hr5 := hr4.keep ((Below.refl w4.heap.size w4).alloc (Nat.le_refl _) (.cells #[.int .i64 cl2, .bool fin2, .slice a2 ts2.length c2] 24))
  have hr6 := hr3.keep ((Below.refl w4.heap.size w4).alloc (Nat.le_refl _) (.cells #[.int .i64 cl2, .bool fin2, .slice a2 ts2.length c2] 24))
  clear hcw4 hB2 hr4 hr3
  go_upto_region 3 with (fail)
  obtain ⟨g2, hg2⟩ : ∃ g2, g2 = w4.heap.size := ⟨_, rfl⟩
  rw [← hg2] at hB6 hlt4
  simp only [← hg2]
  generalize w4.alloc (.cells #[.int .i64 cl2, .bool fin2, .slice a2 ts2.length c2] 24) = w5 at hcw5 hB5 hB6 hr5 hr6 ⊢
  clear hg2
  have z0 := hcw5.z.cell (i := 0) rfl
  have z1 := hcw5.z.cell (i := 1) rfl
  have z2 := hcw5.z.cell (i := 2) rfl
  have zf := hcw5.z.free
  have zl := hcw5.z.lt
  have x0 := hB5.cell (i := 0) rfl
  have x1 := hB5.cell (i := 1) rfl
  have x2 := hB5.cell (i := 2) rfl
  have y0 := hB6.cell (i := 0) rfl
  have y1 := hB6.cell (i := 1) rfl
  have y2 := hB6.cell (i := 2) rfl
  have HLE := Lib.hid hcw5.le
  have HR5 := Lib.hid (RdK.put3 hr5 hcw5.z)
  have HR6 := Lib.hid (RdK.put3 hr6 hcw5.z)
  have e1 : q1 = seqD a := (HT1.out HOA.out).2.2.2
  have e2 : q2 = seqD b := (HT2.out HOB.out).2.2.2
  have hge : ¬ q2 ≤ q1 := by rw [e1, e2]; omega
  clear e1 e2
  clear hcw5 hB5 hB6 hr5 hr6
  go_wp2_with fail
  refine bodyPost_ret (v := .tuple #[tval cl2 fin2 (.slice a2 ts2.length c2), .int .i64 q2, .bool false, .bool true]) (by simp [results, Try.results47, go_sem, z0, z1, z2]) rfl ?_
  exact ⟨cl2, fin2, _, ts2, q2, by rw [HA.out, HO.out], HR6.out _ _ _, ((HLE.out.setCell (by simp) _).setCell (by simp) _).setCell (by simp) _, fun h => by rw [HS.out]; first | exact HT2.out HOB.out | (rw [HO.out] at h; cases h)⟩
theorem pcurrent_any (cap : Int) (a b : List UInt8) (w : World) (hla : a.length ≤ 20000) (hlb : b.length ≤ 20000) : Calls Try.prog 47 #[.int .i64 cap, sval a b] w (CurP cap a b w) := by
  cases ha : okD cap a with
  | false =>
    cases hb : okD cap b with
    | false => exact pcur_ff cap a b w hla hlb ha hb
    | true => exact pcur_ft cap a b w hla hlb ha hb
  | true =>
    cases hb : okD cap b with
    | false => exact pcur_tf cap a b w hla hlb ha hb
    | true =>
      by_cases hs : seqD b ≤ seqD a
      · exact pcur_tt1 cap a b w hla hlb ha hb hs
      · exact pcur_tt2 cap a b w hla hlb ha hb hs
set_option maxRecDepth 100000 in
set_option maxHeartbeats 2000000 in
theorem rcur_ff (cap : Int) (a b : List UInt8) (w : World) (hla : a.length ≤ 20000) (hlb : b.length ≤ 20000) (HOA : Hid (okD cap a = false)) (HOB : Hid (okD cap b = false)) : Calls Try.prog 48 #[.int .i64 cap, sval a b] w (CurP cap a b w) := by
  have HA : Hid (curA cap a b = false) := Lib.hid (by unfold curA; rw [HOA.out, HOB.out]; simp)
  have HO : Hid (curO cap a b = false) := Lib.hid (by unfold curO; rw [HOA.out, HOB.out]; rfl)
  have HS : Hid (curS cap a b = b) := Lib.hid (by unfold curS; rw [HA.out]; rfl)
  have HDA := Lib.hid (fun W => rdecode_any cap a W (by omega))
  have HDB := Lib.hid (fun W => rdecode_any cap b W (by omega))
  have HCW := Lib.hid (CuW.new w a b)
  clear hla hlb
  go_enter Try.func48, Try.ntmps48
  go_upto_region 1 with (fail)
  have hcw := HCW.out
  generalize (w.alloc (.cells #[.string (str a), .string (str b)] 54)).alloc (.cells #[.int .i64 0, .bool false, .slice none 0 0] 24) = w1 at hcw ⊢
  have s0 := hcw.s.cell (i := 0) rfl
  go_wp2_with fail
  refine (HDA.out _).mono ?_
  rintro e w2 ⟨cl1, fin1, v1, ts1, q1, rfl, hr1, hb2, ht1⟩
  rw [HOA.out]
  obtain ⟨a1, c1, rfl, _⟩ := RdS.form hr1
  have hcw2 := hcw.call hb2
  clear s0 hcw hb2
  have HT1 := Lib.hid ht1
  clear ht1
  have hcw3 := hcw2.call ((Below.refl w2.heap.size w2).alloc (Nat.le_refl _) (.cells #[.int .i64 cl1, .bool fin1, .slice a1 ts1.length c1] 24))
  have hB1 := Bx.new w2 24 [.int .i64 cl1, .bool fin1, .slice a1 ts1.length c1]
  have hr2 := hr1.keep ((Below.refl w2.heap.size w2).alloc (Nat.le_refl _) (.cells #[.int .i64 cl1, .bool fin1, .slice a1 ts1.length c1] 24))
  clear hcw2 hr1
  go_upto_region 2 with (fail)
  obtain ⟨g1, hg1⟩ : ∃ g1, g1 = w2.heap.size := ⟨_, rfl⟩
  rw [← hg1] at hB1
  simp only [← hg1]
  generalize w2.alloc (.cells #[.int .i64 cl1, .bool fin1, .slice a1 ts1.length c1] 24) = w3 at hcw3 hB1 hr2 ⊢
  clear hg1
  have s1 := hcw3.s.cell (i := 1) rfl
  go_wp2_with fail
  refine (HDB.out _).mono ?_
  rintro e w4 ⟨cl2, fin2, v2, ts2, q2, rfl, hr3, hb4, ht2⟩
  obtain ⟨a2, c2, rfl, _⟩ := RdS.form hr3
  have hcw4 := hcw3.call hb4
  have hB2 := hB1.call hb4
  have hr4 := hr2.keep hb4
  have HT2 := Lib.hid ht2
  have hlt4 := hB2.lt
  clear s1 hcw3 hb4 hB1 hr2 ht2
  rw [HOB.out]
  have hcw5 := hcw4.call ((Below.refl w4.heap.size w4).alloc (Nat.le_refl _) (.cells #[.int .i64 cl2, .bool fin2, .slice a2 ts2.length c2] 24))
  have hB5 := hB2.alloc (.cells #[.int .i64 cl2, .bool fin2, .slice a2 ts2.length c2] 24)
  have hB6 := Bx.new w4 24 [.int .i64 cl2, .bool fin2, .slice a2 ts2.length c2]
  have hr5 := hr4.keep ((Below.refl w4.heap.size w4).alloc (Nat.le_refl _) (.cells #[.int .i64 cl2, .bool fin2, .slice a2 ts2.length c2] 24))
  have hr6 := hr3.keep ((Below.refl w4.heap.size w4).alloc (Nat.le_refl _) (.cells #[.int .i64 cl2, .bool fin2, .slice a2 ts2.length c2] 24))
  clear hcw4 hB2 hr4 hr3
  go_upto_region 3 with (fail)
  obtain ⟨g2, hg2⟩ : ∃ g2, g2 = w4.heap.size := ⟨_, rfl⟩
  rw [← hg2] at hB6 hlt4
  simp only [← hg2]
  generalize w4.alloc (.cells #[.int .i64 cl2, .bool fin2, .slice a2 ts2.length c2] 24) = w5 at hcw5 hB5 hB6 hr5 hr6 ⊢
  clear hg2
  have z0 := hcw5.z.cell (i := 0) rfl
  have z1 := hcw5.z.cell (i := 1) rfl
  have z2 := hcw5.z.cell (i := 2) rfl
  have zf := hcw5.z.free
  have zl := hcw5.z.lt
  have x0 := hB5.cell (i := 0) rfl
  have x1 := hB5.cell (i := 1) rfl
  have x2 := hB5.cell (i := 2) rfl
  have y0 := hB6.cell (i := 0) rfl
  have y1 := hB6.cell (i := 1) rfl
  have y2 := hB6.cell (i := 2) rfl
  have HLE := Lib.hid hcw5.le
  have HR5 := Lib.hid (RdK.put3 hr5 hcw5.z)
  have HR6 := Lib.hid (RdK.put3 hr6 hcw5.z)
  clear hcw5 hB5 hB6 hr5 hr6
  go_wp2_with fail
  refine bodyPost_ret (v := .tuple #[tval cl2 fin2 (.slice a2 ts2.length c2), .int .i64 q2, .bool false, .bool false]) (by simp [results, Try.results48, go_sem, z0, z1, z2]) rfl ?_
  exact ⟨cl2, fin2, _, ts2, q2, by rw [HA.out, HO.out], HR6.out _ _ _, ((HLE.out.setCell (by simp) _).setCell (by simp) _).setCell (by simp) _, fun h => by rw [HS.out]; first | exact HT2.out HOB.out | (rw [HO.out] at h; cases h)⟩
set_option maxRecDepth 100000 in
set_option maxHeartbeats 2000000 in
theorem rcur_ft (cap : Int) (a b : List UInt8) (w : World) (hla : a.length ≤ 20000) (hlb : b.length ≤ 20000) (HOA : Hid (okD cap a = false)) (HOB : Hid (okD cap b = true)) : Calls Try.prog 48 #[.int .i64 cap, sval a b] w (CurP cap a b w) := by
  have HA : Hid (curA cap a b = false) := Lib.hid (by unfold curA; rw [HOA.out, HOB.out]; simp)
  have HO : Hid (curO cap a b = true) := Lib.hid (by unfold curO; rw [HOA.out, HOB.out]; rfl)
  have HS : Hid (curS cap a b = b) := Lib.hid (by unfold curS; rw [HA.out]; rfl)
  have HDA := Lib.hid (fun W => rdecode_any cap a W (by omega))
  have HDB := Lib.hid (fun W => rdecode_any cap b W (by omega))
  have HCW := Lib.hid (CuW.new w a b)
  clear hla hlb
  go_enter Try.func48, Try.ntmps48
  go_upto_region 1 with (fail)
  have hcw := HCW.out
  generalize (w.alloc (.cells #[.string (str a), .string (str b)] 54)).alloc (.cells #[.int .i64 0, .bool false, .slice none 0 0] 24) = w1 at hcw ⊢
  have s0 := hcw.s.cell (i := 0) rfl
  go_wp2_with fail
  refine (HDA.out _).mono ?_
  rintro e w2 ⟨cl1, fin1, v1, ts1, q1, rfl, hr1, hb2, ht1⟩
  rw [HOA.out]
  obtain ⟨a1, c1, rfl, _⟩ := RdS.form hr1
  have hcw2 := hcw.call hb2
  clear s0 hcw hb2
  have HT1 := Lib.hid ht1
  clear ht1
  have hcw3 := hcw2.call ((Below.refl w2.heap.size w2).alloc (Nat.le_refl _) (.cells #[.int .i64 cl1, .bool fin1, .slice a1 ts1.length c1] 24))
  have hB1 := Bx.new w2 24 [.int .i64 cl1, .bool fin1, .slice a1 ts1.length c1]
  have hr2 := hr1.keep ((Below.refl w2.heap.size w2).alloc (Nat.le_refl _) (.cells #[.int .i64 cl1, .bool fin1, .slice a1 ts1.length c1] 24))
  clear hcw2 hr1
  go_upto_region 2 with (fail)
  obtain ⟨g1, hg1⟩ : ∃ g1, g1 = w2.heap.size := ⟨_, rfl⟩
  rw [← hg1] at hB1
  simp only [← hg1]
  generalize w2.alloc (.cells #[.int .i64 cl1, .bool fin1, .slice a1 ts1.length c1] 24) = w3 at hcw3 hB1 hr2 ⊢
  clear hg1
  have s1 := hcw3.s.cell (i := 1) rfl
  go_wp2_with fail
  refine (HDB.out _).mono ?_
  rintro e w4 ⟨cl2, fin2, v2, ts2, q2, rfl, hr3, hb4, ht2⟩
  obtain ⟨a2, c2, rfl, _⟩ := RdS.form hr3
  have hcw4 := hcw3.call hb4
  have hB2 := hB1.call hb4
  have hr4 := hr2.keep hb4
  have HT2 := Lib.hid ht2
  have hlt4 := hB2.lt
  clear s1 hcw3 hb4 hB1 hr2 ht2
  rw [HOB.out]
  have hcw5 := hcw4.call ((Below.refl w4.heap.size w4).alloc (Nat.le_refl _) (.cells #[.int .i64 cl2, .bool fin2, .slice a2 ts2.length c2] 24))
  have hB5 := hB2.alloc (.cells #[.int .i64 cl2, .bool fin2, .slice a2 ts2.length c2] 24)
  have hB6 := Bx.new w4 24 [.int .i64 cl2, .bool fin2, .slice a2 ts2.length c2]
  have hr5 := hr4.keep ((Below.refl w4.heap.size w4).alloc (Nat.le_refl _) (.cells #[.int .i64 cl2, .bool fin2, .slice a2 ts2.length c2] 24))
  have hr6 := hr3.keep ((Below.refl w4.heap.size w4).alloc (Nat.le_refl _) (.cells #[.int .i64 cl2, .bool fin2, .slice a2 ts2.length c2] 24))
  clear hcw4 hB2 hr4 hr3
  go_upto_region 3 with (fail)
  obtain ⟨g2, hg2⟩ : ∃ g2, g2 = w4.heap.size := ⟨_, rfl⟩
  rw [← hg2] at hB6 hlt4
  simp only [← hg2]
  generalize w4.alloc (.cells #[.int .i64 cl2, .bool fin2, .slice a2 ts2.length c2] 24) = w5 at hcw5 hB5 hB6 hr5 hr6 ⊢
  clear hg2
  have z0 := hcw5.z.cell (i := 0) rfl
  have z1 := hcw5.z.cell (i := 1) rfl
  have z2 := hcw5.z.cell (i := 2) rfl
  have zf := hcw5.z.free
  have zl := hcw5.z.lt
  have x0 := hB5.cell (i := 0) rfl
  have x1 := hB5.cell (i := 1) rfl
  have x2 := hB5.cell (i := 2) rfl
  have y0 := hB6.cell (i := 0) rfl
  have y1 := hB6.cell (i := 1) rfl
  have y2 := hB6.cell (i := 2) rfl
  have HLE := Lib.hid hcw5.le
  have HR5 := Lib.hid (RdK.put3 hr5 hcw5.z)
  have HR6 := Lib.hid (RdK.put3 hr6 hcw5.z)
  clear hcw5 hB5 hB6 hr5 hr6
  go_wp2_with fail
  refine bodyPost_ret (v := .tuple #[tval cl2 fin2 (.slice a2 ts2.length c2), .int .i64 q2, .bool false, .bool true]) (by simp [results, Try.results48, go_sem, z0, z1, z2]) rfl ?_
  exact ⟨cl2, fin2, _, ts2, q2, by rw [HA.out, HO.out], HR6.out _ _ _, ((HLE.out.setCell (by simp) _).setCell (by simp) _).setCell (by simp) _, fun h => by rw [HS.out]; first | exact HT2.out HOB.out | (rw [HO.out] at h; cases h)⟩
set_option maxRecDepth 100000 in
set_option maxHeartbeats 2000000 in
theorem rcur_tf (cap : Int) (a b : List UInt8) (w : World) (hla : a.length ≤ 20000) (hlb : b.length ≤ 20000) (HOA : Hid (okD cap a = true)) (HOB : Hid (okD cap b = false)) : Calls Try.prog 48 #[.int .i64 cap, sval a b] w (CurP cap a b w) := by
  have HA : Hid (curA cap a b = true) := Lib.hid (by unfold curA; rw [HOA.out, HOB.out]; simp)
  have HO : Hid (curO cap a b = true) := Lib.hid (by unfold curO; rw [HOA.out, HOB.out]; rfl)
  have HS : Hid (curS cap a b = a) := Lib.hid (by unfold curS; rw [HA.out]; rfl)
  have HDA := Lib.hid (fun W => rdecode_any cap a W (by omega))
  have HDB := Lib.hid (fun W => rdecode_any cap b W (by omega))
  have HCW := Lib.hid (CuW.new w a b)
  clear hla hlb
  go_enter Try.func48, Try.ntmps48
  go_upto_region 1 with (fail)
  have hcw := HCW.out
  generalize (w.alloc (.cells #[.string (str a), .string (str b)] 54)).alloc (.cells #[.int .i64 0, .bool false, .slice none 0 0] 24) = w1 at hcw ⊢
  have s0 := hcw.s.cell (i := 0) rfl
  go_wp2_with fail
  refine (HDA.out _).mono ?_
  rintro e w2 ⟨cl1, fin1, v1, ts1, q1, rfl, hr1, hb2, ht1⟩
  rw [HOA.out]
  obtain ⟨a1, c1, rfl, _⟩ := RdS.form hr1
  have hcw2 := hcw.call hb2
  clear s0 hcw hb2
  have HT1 := Lib.hid ht1
  clear ht1
  have hcw3 := hcw2.call ((Below.refl w2.heap.size w2).alloc (Nat.le_refl _) (.cells #[.int .i64 cl1, .bool fin1, .slice a1 ts1.length c1] 24))
  have hB1 := Bx.new w2 24 [.int .i64 cl1, .bool fin1, .slice a1 ts1.length c1]
  have hr2 := hr1.keep ((Below.refl w2.heap.size w2).alloc (Nat.le_refl _) (.cells #[.int .i64 cl1, .bool fin1, .slice a1 ts1.length c1] 24))
  clear hcw2 hr1
  go_upto_region 2 with (fail)
  obtain ⟨g1, hg1⟩ : ∃ g1, g1 = w2.heap.size := ⟨_, rfl⟩
  rw [← hg1] at hB1
  simp only [← hg1]
  generalize w2.alloc (.cells #[.int .i64 cl1, .bool fin1, .slice a1 ts1.length c1] 24) = w3 at hcw3 hB1 hr2 ⊢
  clear hg1
  have s1 := hcw3.s.cell (i := 1) rfl
  go_wp2_with fail
  refine (HDB.out _).mono ?_
  rintro e w4 ⟨cl2, fin2, v2, ts2, q2, rfl, hr3, hb4, ht2⟩
  obtain ⟨a2, c2, rfl, _⟩ := RdS.form hr3
  have hcw4 := hcw3.call hb4
  have hB2 := hB1.call hb4
  have hr4 := hr2.keep hb4
  have HT2 := Lib.hid ht2
  have hlt4 := hB2.lt
  clear s1 hcw3 hb4 hB1 hr2 ht2
  rw [HOB.out]
  have hcw5 := hcw4.call ((Below.refl w4.heap.size w4).alloc (Nat.le_refl _) (.cells #[.int .i64 cl2, .bool fin2, .slice a2 ts2.length c2] 24))
  have hB5 := hB2.alloc (.cells #[.int .i64 cl2, .bool fin2, .slice a2 ts2.length c2] 24)
  have hB6 := Bx.new w4 24 [.int .i64 cl2, .bool fin2, .slice a2 ts2.length c2]
  have hr5 := hr4.keep ((Below.refl w4.heap.size w4).alloc (Nat.le_refl _) (.cells #[.int .i64 cl2, .bool fin2, .slice a2 ts2.length c2] 24))
  have hr6 := hr3.keep ((Below.refl w4.heap.size w4).alloc (Nat.le_refl _) (.cells #[.int .i64 cl2, .bool fin2, .slice a2 ts2.length c2] 24))
  clear hcw4 hB2 hr4 hr3
  go_upto_region 3 with (fail)
  obtain ⟨g2, hg2⟩ : ∃ g2, g2 = w4.heap.size := ⟨_, rfl⟩
  rw [← hg2] at hB6 hlt4
  simp only [← hg2]
  generalize w4.alloc (.cells #[.int .i64 cl2, .bool fin2, .slice a2 ts2.length c2] 24) = w5 at hcw5 hB5 hB6 hr5 hr6 ⊢
  clear hg2
  have z0 := hcw5.z.cell (i := 0) rfl
  have z1 := hcw5.z.cell (i := 1) rfl
  have z2 := hcw5.z.cell (i := 2) rfl
  have zf := hcw5.z.free
  have zl := hcw5.z.lt
  have x0 := hB5.cell (i := 0) rfl
  have x1 := hB5.cell (i := 1) rfl
  have x2 := hB5.cell (i := 2) rfl
  have y0 := hB6.cell (i := 0) rfl
  have y1 := hB6.cell (i := 1) rfl
  have y2 := hB6.cell (i := 2) rfl
  have HLE := Lib.hid hcw5.le
  have HR5 := Lib.hid (RdK.put3 hr5 hcw5.z)
  have HR6 := Lib.hid (RdK.put3 hr6 hcw5.z)
  clear hcw5 hB5 hB6 hr5 hr6
  go_wp2_with fail
  refine bodyPost_ret (v := .tuple #[tval cl1 fin1 (.slice a1 ts1.length c1), .int .i64 q1, .bool true, .bool true]) (by simp [results, Try.results48, go_sem, z0, z1, z2]) rfl ?_
  exact ⟨cl1, fin1, _, ts1, q1, by rw [HA.out, HO.out], HR5.out _ _ _, ((HLE.out.setCell (by simp) _).setCell (by simp) _).setCell (by simp) _, fun h => by rw [HS.out]; first | exact HT1.out HOA.out | (rw [HO.out] at h; cases h)⟩
set_option maxRecDepth 100000 in
set_option maxHeartbeats 2000000 in
theorem rcur_tt1 (cap : Int) (a b : List UInt8) (w : World) (hla : a.length ≤ 20000) (hlb : b.length ≤ 20000) (HOA : Hid (okD cap a = true)) (HOB : Hid (okD cap b = true)) (hs : seqD b ≤ seqD a) : Calls Try.prog 48 #[.int .i64 cap, sval a b] w (CurP cap a b w) := by
  have HA : Hid (curA cap a b = true) := Lib.hid (by unfold curA; rw [HOA.out, HOB.out]; simp <;> omega)
  have HO : Hid (curO cap a b = true) := Lib.hid (by unfold curO; rw [HOA.out, HOB.out]; rfl)
  have HS : Hid (curS cap a b = a) := Lib.hid (by unfold curS; rw [HA.out]; rfl)
  have HDA := Lib.hid (fun W => rdecode_any cap a W (by omega))
  have HDB := Lib.hid (fun W => rdecode_any cap b W (by omega))
  have HCW := Lib.hid (CuW.new w a b)
  clear hla hlb
  go_enter Try.func48, Try.ntmps48
  go_upto_region 1 with (fail)
  have hcw := HCW.out
  generalize (w.alloc (.cells #[.string (str a), .string (str b)] 54)).alloc (.cells #[.int .i64 0, .bool false, .slice none 0 0] 24) = w1 at hcw ⊢
  have s0 := hcw.s.cell (i := 0) rfl
  go_wp2_with fail
  refine (HDA.out _).mono ?_
  rintro e w2 ⟨cl1, fin1, v1, ts1, q1, rfl, hr1, hb2, ht1⟩
  rw [HOA.out]
  obtain ⟨a1, c1, rfl, _⟩ := RdS.form hr1
  have hcw2 := hcw.call hb2
  clear s0 hcw hb2
  have HT1 := Lib.hid ht1
  clear ht1
  have hcw3 := hcw2.call ((Below.refl w2.heap.size w2).alloc (Nat.le_refl _) (.cells #[.int .i64 cl1, .bool fin1, .slice a1 ts1.length c1] 24))
  have hB1 := Bx.new w2 24 [.int .i64 cl1, .bool fin1, .slice a1 ts1.length c1]
  have hr2 := hr1.keep ((Below.refl w2.heap.size w2).alloc (Nat.le_refl _) (.cells #[.int .i64 cl1, .bool fin1, .slice a1 ts1.length c1] 24))
  clear hcw2 hr1
  go_upto_region 2 with (fail)
  obtain ⟨g1, hg1⟩ : ∃ g1, g1 = w2.heap.size := ⟨_, rfl⟩
  rw [← hg1] at hB1
  simp only [← hg1]
  generalize w2.alloc (.cells #[.int .i64 cl1, .bool fin1, .slice a1 ts1.length c1] 24) = w3 at hcw3 hB1 hr2 ⊢
  clear hg1
  have s1 := hcw3.s.cell (i := 1) rfl
  go_wp2_with fail
  refine (HDB.out _).mono ?_
  rintro e w4 ⟨cl2, fin2, v2, ts2, q2, rfl, hr3, hb4, ht2⟩
  obtain ⟨a2, c2, rfl, _⟩ := RdS.form hr3
  have hcw4 := hcw3.call hb4
  have hB2 := hB1.call hb4
  have hr4 := hr2.keep hb4
  have HT2 := Lib.hid ht2
  have hlt4 := hB2.lt
  clear s1 hcw3 hb4 hB1 hr2 ht2
  rw [HOB.out]
  have hcw5 := hcw4.call ((Below.refl w4.heap.size w4).alloc (Nat.le_refl _) (.cells #[.int .i64 cl2, .bool fin2, .slice a2 ts2.length c2] 24))
  have hB5 := hB2.alloc (.cells #[.int .i64 cl2, .bool fin2, .slice a2 ts2.length c2] 24)
  have hB6 := Bx.new w4 24 [.int .i64 cl2, .bool fin2, .slice a2 ts2.length c2]
  have hr5 := hr4.keep ((Below.refl w4.heap.size w4).alloc (Nat.le_refl _) (.cells #[.int .i64 cl2, .bool fin2, .slice a2 ts2.length c2] 24))
  have hr6 := hr3.keep ((Below.refl w4.heap.size w4).alloc (Nat.le_refl _) (.cells #[.int .i64 cl2, .bool fin2, .slice a2 ts2.length c2] 24))
  clear hcw4 hB2 hr4 hr3
  go_upto_region 3 with (fail)
  obtain ⟨g2, hg2⟩ : ∃ g2, g2 = w4.heap.size := ⟨_, rfl⟩
  rw [← hg2] at hB6 hlt4
  simp only [← hg2]
  generalize w4.alloc (.cells #[.int .i64 cl2, .bool fin2, .slice a2 ts2.length c2] 24) = w5 at hcw5 hB5 hB6 hr5 hr6 ⊢
  clear hg2
  have z0 := hcw5.z.cell (i := 0) rfl
  have z1 := hcw5.z.cell (i := 1) rfl
  have z2 := hcw5.z.cell (i := 2) rfl
  have zf := hcw5.z.free
  have zl := hcw5.z.lt
  have x0 := hB5.cell (i := 0) rfl
  have x1 := hB5.cell (i := 1) rfl
  have x2 := hB5.cell (i := 2) rfl
  have y0 := hB6.cell (i := 0) rfl
  have y1 := hB6.cell (i := 1) rfl
  have y2 := hB6.cell (i := 2) rfl
  have HLE := Lib.hid hcw5.le
  have HR5 := Lib.hid (RdK.put3 hr5 hcw5.z)
  have HR6 := Lib.hid (RdK.put3 hr6 hcw5.z)
  have e1 : q1 = seqD a := (HT1.out HOA.out).2.2.2
  have e2 : q2 = seqD b := (HT2.out HOB.out).2.2.2
  have hge : q2 ≤ q1 := by rw [e1, e2]; omega
  clear e1 e2
  clear hcw5 hB5 hB6 hr5 hr6
  go_wp2_with fail
  refine bodyPost_ret (v := .tuple #[tval cl1 fin1 (.slice a1 ts1.length c1), .int .i64 q1, .bool true, .bool true]) (by simp [results, Try.results48, go_sem, z0, z1, z2]) rfl ?_
  exact ⟨cl1, fin1, _, ts1, q1, by rw [HA.out, HO.out], HR5.out _ _ _, ((HLE.out.setCell (by simp) _).setCell (by simp) _).setCell (by simp) _, fun h => by rw [HS.out]; first | exact HT1.out HOA.out | (rw [HO.out] at h; cases h)⟩
set_option maxRecDepth 100000 in
set_option maxHeartbeats 2000000 in
theorem rcur_tt2 (cap : Int) (a b : List UInt8) (w : World) (hla : a.length ≤ 20000) (hlb : b.length ≤ 20000) (HOA : Hid (okD cap a = true)) (HOB : Hid (okD cap b = true)) (hs : ¬ seqD b ≤ seqD a) : Calls Try.prog 48 #[.int .i64 cap, sval a b] w (CurP cap a b w) := by
  have HA : Hid (curA cap a b = false) := Lib.hid (by unfold curA; rw [HOA.out, HOB.out]; simp <;> omega)
  have HO : Hid (curO cap a b = true) := Lib.hid (by unfold curO; rw [HOA.out, HOB.out]; rfl)
  have HS : Hid (curS cap a b = b) := Lib.hid (by unfold curS; rw [HA.out]; rfl)
  have HDA := Lib.hid (fun W => rdecode_any cap a W (by omega))
  have HDB := Lib.hid (fun W => rdecode_any cap b W (by omega))
  have HCW := Lib.hid (CuW.new w a b)
  clear hla hlb
  go_enter Try.func48, Try.ntmps48
  go_upto_region 1 with (fail)
  have hcw := HCW.out
  generalize (w.alloc (.cells #[.string (str a), .string (str b)] 54)).alloc (.cells #[.int .i64 0, .bool false, .slice none 0 0] 24) = w1 at hcw ⊢
  have s0 := hcw.s.cell (i := 0) rfl
  go_wp2_with fail
  refine (HDA.out _).mono ?_
  rintro e w2 ⟨cl1, fin1, v1, ts1, q1, rfl, hr1, hb2, ht1⟩
  rw [HOA.out]
  obtain ⟨a1, c1, rfl, _⟩ := RdS.form hr1
  have hcw2 := hcw.call hb2
  clear s0 hcw hb2
  have HT1 := Lib.hid ht1
  clear ht1
  have hcw3 := hcw2.call ((Below.refl w2.heap.size w2).alloc (Nat.le_refl _) (.cells #[.int .i64 cl1, .bool fin1, .slice a1 ts1.length c1] 24))
  have hB1 := Bx.new w2 24 [.int .i64 cl1, .bool fin1, .slice a1 ts1.length c1]
  have hr2 := hr1.keep ((Below.refl w2.heap.size w2).alloc (Nat.le_refl _) (.cells #[.int .i64 cl1, .bool fin1, .slice a1 ts1.length c1] 24))
  clear hcw2 hr1
  go_upto_region 2 with (fail)
  obtain ⟨g1, hg1⟩ : ∃ g1, g1 = w2.heap.size := ⟨_, rfl⟩
  rw [← hg1] at hB1
  simp only [← hg1]
  generalize w2.alloc (.cells #[.int .i64 cl1, .bool fin1, .slice a1 ts1.length c1] 24) = w3 at hcw3 hB1 hr2 ⊢
  clear hg1
  have s1 := hcw3.s.cell (i := 1) rfl
  go_wp2_with fail
  refine (HDB.out _).mono ?_
  rintro e w4 ⟨cl2, fin2, v2, ts2, q2, rfl, hr3, hb4, ht2⟩
  obtain ⟨a2, c2, rfl, _⟩ := RdS.form hr3
  have hcw4 := hcw3.call hb4
  have hB2 := hB1.call hb4
  have hr4 := hr2.keep hb4
  have HT2 := Lib.hid ht2
  have hlt4 := hB2.lt
  clear s1 hcw3 hb4 hB1 hr2 ht2
  rw [HOB.out]
  have hcw5 := hcw4.call ((Below.refl w4.heap.size w4).alloc (Nat.le_refl _) (.cells #[.int .i64 cl2, .bool fin2, .slice a2 ts2.length c2] 24))
  have hB5 := hB2.alloc (.cells #[.int .i64 cl2, .bool fin2, .slice a2 ts2.length c2] 24)
  have hB6 := Bx.new w4 24 [.int .i64 cl2, .bool fin2, .slice a2 ts2.length c2]
  have hr5 := hr4.keep ((Below.refl w4.heap.size w4).alloc (Nat.le_refl _) (.cells #[.int .i64 cl2, .bool fin2, .slice a2 ts2.length c2] 24))
  have hr6 := hr3.keep ((Below.refl w4.heap.size w4).alloc (Nat.le_refl _) (.cells #[.int .i64 cl2, .bool fin2, .slice a2 ts2.length c2] 24))
  clear hcw4 hB2 hr4 hr3
  go_upto_region 3 with (fail)
  obtain ⟨g2, hg2⟩ : ∃ g2, g2 = w4.heap.size := ⟨_, rfl⟩
  rw [← hg2] at hB6 hlt4
  simp only [← hg2]
  generalize w4.alloc (.cells #[.int .i64 cl2, .bool fin2, .slice a2 ts2.length c2] 24) = w5 at hcw5 hB5 hB6 hr5 hr6 ⊢
  clear hg2
  have z0 := hcw5.z.cell (i := 0) rfl
  have z1 := hcw5.z.cell (i := 1) rfl
  have z2 := hcw5.z.cell (i := 2) rfl
  have zf := hcw5.z.free
  have zl := hcw5.z.lt
  have x0 := hB5.cell (i := 0) rfl
  have x1 := hB5.cell (i := 1) rfl
  have x2 := hB5.cell (i := 2) rfl
  have y0 := hB6.cell (i := 0) rfl
  have y1 := hB6.cell (i := 1) rfl
  have y2 := hB6.cell (i := 2) rfl
  have HLE := Lib.hid hcw5.le
  have HR5 := Lib.hid (RdK.put3 hr5 hcw5.z)
  have HR6 := Lib.hid (RdK.put3 hr6 hcw5.z)
  have e1 : q1 = seqD a := (HT1.out HOA.out).2.2.2
  have e2 : q2 = seqD b := (HT2.out HOB.out).2.2.2
  have hge : ¬ q2 ≤ q1 := by rw [e1, e2]; omega
  clear e1 e2
  clear hcw5 hB5 hB6 hr5 hr6
  go_wp2_with fail
  refine bodyPost_ret (v := .tuple #[tval cl2 fin2 (.slice a2 ts2.length c2), .int .i64 q2, .bool false, .bool true]) (by simp [results, Try.results48, go_sem, z0, z1, z2]) rfl ?_
  exact ⟨cl2, fin2, _, ts2, q2, by rw [HA.out, HO.out], HR6.out _ _ _, ((HLE.out.setCell (by simp) _).setCell (by simp) _).setCell (by simp) _, fun h => by rw [HS.out]; first | exact HT2.out HOB.out | (rw [HO.out] at h; cases h)⟩
theorem rcurrent_any (cap : Int) (a b : List UInt8) (w : World) (hla : a.length ≤ 20000) (hlb : b.length ≤ 20000) : Calls Try.prog 48 #[.int .i64 cap, sval a b] w (CurP cap a b w) := by
  cases ha : okD cap a with
  | false =>
    cases hb : okD cap b with
    | false => exact rcur_ff cap a b w hla hlb ha hb
    | true => exact rcur_ft cap a b w hla hlb ha hb
  | true =>
    cases hb : okD cap b with
    | false => exact rcur_tf cap a b w hla hlb ha hb
    | true =>
      by_cases hs : seqD b ≤ seqD a
      · exact rcur_tt1 cap a b w hla hlb ha hb hs
      · exact rcur_tt2 cap a b w hla hlb ha hb hs
end Go.Proofs.Ytiioojlihapdaaa.E1
namespace Go.Proofs.Ytiioojlihapdaaa.E1
open Go.RowKit W10
set_option linter.unusedVariables false

def loadR (cap : Int) (a b : List UInt8) : Res × Int :=
  if ¬ (1 ≤ cap ∧ cap ≤ 449849) then (Res.bad 1, 0) else if curO cap a b = false then (Res.bad 6, 0) else (⟨clD (curS cap a b), finD (curS cap a b), tksD (curS cap a b) (cntD (curS cap a b)), 0⟩, seqD (curS cap a b))
def LoadP (r : Res × Int) (w : World) (e : Ending) (w' : World) : Prop := ∃ v, e = .returned (.tuple #[tval r.1.cl r.1.fin v, .int .i64 r.2, .int .i64 r.1.code]) ∧ RdK w' v r.1.l ∧ Below w.heap.size w w'
/-- the number that is saved next -/
def nextQ (cap : Int) (a b : List UInt8) : Int := if curO cap a b = true then (seqD (curS cap a b) : Int) + 1 else 0
def saveR (cap : Int) (a b : List UInt8) (cl : Int) (fin : Bool) (l : List T.Trk) : (List UInt8 × List UInt8) × Int :=
  if T.validB cap cl fin l = false then (([], []), 1) else if 2147483647 < nextQ cap a b then (([], []), 7) else
    (if curA cap a b = true then (a, encE (nextQ cap a b) cl fin l) else (encE (nextQ cap a b) cl fin l, b), 0)
def SaveP (r : (List UInt8 × List UInt8) × Int) (w : World) (e : Ending) (w' : World) : Prop := e = .returned (.tuple #[sval r.1.1 r.1.2, .int .i64 r.2]) ∧ Below w.heap.size w w'
theorem nextQ_nn (cap : Int) (a b : List UInt8) : 0 ≤ nextQ cap a b ∧ nextQ cap a b ≤ 4294967297 := by
  unfold nextQ
  split
  · have := rdE_lt (curS cap a b) 4 4 (by omega)
    unfold seqD
    omega
  · omega
/-- the boxes of Save -/
structure SvW (w0 : World) (a b : List UInt8) (cl : Int) (fin : Bool) (sv : Value) (W : World) : Prop where
  s : Bx W w0.heap.size 54 [.string (str a), .string (str b)]
  t : Bx W (w0.heap.size + 1) 24 [.int .i64 cl, .bool fin, sv]
  z : Bx W (w0.heap.size + 2) 54 [.string ⟨#[]⟩, .string ⟨#[]⟩]
  le : Below w0.heap.size w0 W
theorem SvW.call {w0 W W' : World} {a b : List UInt8} {cl : Int} {fin : Bool} {sv : Value} (h : SvW w0 a b cl fin sv W) (hb : Below W.heap.size W W') : SvW w0 a b cl fin sv W' := ⟨h.s.call hb, h.t.call hb, h.z.call hb, h.le.trans (hb.mono h.le.size)⟩
theorem SvW.new (w0 : World) (a b : List UInt8) (cl : Int) (fin : Bool) (sv : Value) : SvW w0 a b cl fin sv (((w0.alloc (.cells #[.string (str a), .string (str b)] 54)).alloc (.cells #[.int .i64 cl, .bool fin, sv] 24)).alloc (.cells #[.string ⟨#[]⟩, .string ⟨#[]⟩] 54)) :=
  ⟨((Bx.new w0 _ _).alloc _).alloc _, by have := (Bx.new (w0.alloc (.cells #[.string (str a), .string (str b)] 54)) 24 [.int .i64 cl, .bool fin, sv]).alloc (.cells #[.string ⟨#[]⟩, .string ⟨#[]⟩] 54); rw [World.size_alloc] at this; exact this,
    by have := Bx.new ((w0.alloc (.cells #[.string (str a), .string (str b)] 54)).alloc (.cells #[.int .i64 cl, .bool fin, sv] 24)) 54 [.string ⟨#[]⟩, .string ⟨#[]⟩]; rw [World.size_alloc, World.size_alloc] at this; exact this,
    (((Below.refl _ _).alloc (Nat.le_refl _) _).alloc (by simp) _).alloc (by simp; omega) _⟩
set_option maxRecDepth 100000 in
set_option maxHeartbeats 1000000 in
theorem pload_cap0 (cap : Int) (a b : List UInt8) (w : World) (hc : cap < 1) : Calls Try.prog 23 #[.int .i64 cap, sval a b] w (LoadP (Res.bad 1, 0) w) := by
  have HCP : Hid (decide (1 ≤ cap ∧ cap ≤ 449849) = false) := Lib.hid (decide_eq_false (by omega))
  go_enter Try.func23, Try.ntmps23
  go_wp2_with fail
  refine bodyPost_ret (v := .tuple #[tval 0 false (.slice none 0 0), .int .i64 0, .int .i64 1]) (by simp [results, Try.results23, go_sem]) rfl ⟨_, rfl, RdK.nil _, ?_⟩
  exact ((Below.refl _ _).alloc (Nat.le_refl _) _).alloc (by simp) _
set_option maxRecDepth 100000 in
set_option maxHeartbeats 1000000 in
theorem pload_cap1 (cap : Int) (a b : List UInt8) (w : World) (hc : 449849 < cap) : Calls Try.prog 23 #[.int .i64 cap, sval a b] w (LoadP (Res.bad 1, 0) w) := by
  have HCP : Hid (decide (1 ≤ cap ∧ cap ≤ 449849) = false) := Lib.hid (decide_eq_false (by omega))
  have hc2 : ¬ cap < 1 := by omega
  go_enter Try.func23, Try.ntmps23
  go_wp2_with fail
  refine bodyPost_ret (v := .tuple #[tval 0 false (.slice none 0 0), .int .i64 0, .int .i64 1]) (by simp [results, Try.results23, go_sem]) rfl ⟨_, rfl, RdK.nil _, ?_⟩
  exact ((Below.refl _ _).alloc (Nat.le_refl _) _).alloc (by simp) _
set_option maxRecDepth 100000 in
set_option maxHeartbeats 1000000 in
theorem pload_false (cap : Int) (a b : List UInt8) (w : World) (hla : a.length ≤ 20000) (hlb : b.length ≤ 20000) (hc : 1 ≤ cap) (hc2 : cap ≤ 449849) (HO : Hid (curO cap a b = false)) : Calls Try.prog 23 #[.int .i64 cap, sval a b] w (LoadP (Res.bad 6, 0) w) := by
  have HCP : Hid (decide (1 ≤ cap ∧ cap ≤ 449849) = true) := Lib.hid (decide_eq_true ⟨hc, hc2⟩)
  have HCU := Lib.hid (fun W => pcurrent_any cap a b W hla hlb)
  have HCW := Lib.hid (CuW.new w a b)
  have hd1 : ¬ cap < 1 := by omega
  have hd2 : ¬ 449849 < cap := by omega
  clear hla hlb
  go_enter Try.func23, Try.ntmps23
  go_upto_region 1 with (fail)
  have hcw := HCW.out
  generalize (w.alloc (.cells #[.string (str a), .string (str b)] 54)).alloc (.cells #[.int .i64 0, .bool false, .slice none 0 0] 24) = w1 at hcw ⊢
  have s0 := hcw.s.cell (i := 0) rfl
  have s1 := hcw.s.cell (i := 1) rfl
  go_wp2_with fail
  refine (HCU.out _).mono ?_
  rintro e w2 ⟨cl1, fin1, v1, ts1, q1, rfl, hr1, hb2, ht1⟩
  rw [HO.out]
  obtain ⟨a1, c1, rfl, _⟩ := RdS.form hr1
  have hcw2 := hcw.call hb2
  have HT1 : Hid (curO cap a b = true → TabP (curS cap a b) cl1 fin1 ts1 q1) := Lib.hid ht1
  clear s0 s1 hcw hb2 ht1
  have hcw3 := hcw2.call ((Below.refl w2.heap.size w2).alloc (Nat.le_refl _) (.cells #[.int .i64 cl1, .bool fin1, .slice a1 ts1.length c1] 24))
  have hB1 := Bx.new w2 24 [.int .i64 cl1, .bool fin1, .slice a1 ts1.length c1]
  have hr2 := hr1.keep ((Below.refl w2.heap.size w2).alloc (Nat.le_refl _) (.cells #[.int .i64 cl1, .bool fin1, .slice a1 ts1.length c1] 24))
  clear hcw2 hr1
  go_upto_region 4 with (fail)
  obtain ⟨g1, hg1⟩ : ∃ g1, g1 = w2.heap.size := ⟨_, rfl⟩
  rw [← hg1] at hB1
  simp only [← hg1]
  generalize w2.alloc (.cells #[.int .i64 cl1, .bool fin1, .slice a1 ts1.length c1] 24) = w5 at hcw3 hB1 hr2 ⊢
  clear hg1
  have z0 := hcw3.z.cell (i := 0) rfl
  have z1 := hcw3.z.cell (i := 1) rfl
  have z2 := hcw3.z.cell (i := 2) rfl
  have zf := hcw3.z.free
  have zl := hcw3.z.lt
  have x0 := hB1.cell (i := 0) rfl
  have x1 := hB1.cell (i := 1) rfl
  have x2 := hB1.cell (i := 2) rfl
  have HLE := Lib.hid hcw3.le
  have HR5 := Lib.hid (RdK.put3 hr2 hcw3.z)
  clear hcw3 hB1 hr2
  go_wp2_with fail
  refine bodyPost_ret (v := .tuple #[tval 0 false (.slice none 0 0), .int .i64 0, .int .i64 6]) (by simp [results, Try.results23, go_sem, z0, z1, z2]) rfl ⟨_, rfl, RdK.nil _, ?_⟩
  exact ((HLE.out.setCell (by simp) _).setCell (by simp) _).setCell (by simp) _
set_option maxRecDepth 100000 in
set_option maxHeartbeats 1000000 in
theorem pload_true (cap : Int) (a b : List UInt8) (w : World) (hla : a.length ≤ 20000) (hlb : b.length ≤ 20000) (hc : 1 ≤ cap) (hc2 : cap ≤ 449849) (HO : Hid (curO cap a b = true)) : Calls Try.prog 23 #[.int .i64 cap, sval a b] w (LoadP (⟨clD (curS cap a b), finD (curS cap a b), tksD (curS cap a b) (cntD (curS cap a b)), 0⟩, seqD (curS cap a b)) w) := by
  have HCP : Hid (decide (1 ≤ cap ∧ cap ≤ 449849) = true) := Lib.hid (decide_eq_true ⟨hc, hc2⟩)
  have HCU := Lib.hid (fun W => pcurrent_any cap a b W hla hlb)
  have HCW := Lib.hid (CuW.new w a b)
  have hd1 : ¬ cap < 1 := by omega
  have hd2 : ¬ 449849 < cap := by omega
  clear hla hlb
  go_enter Try.func23, Try.ntmps23
  go_upto_region 1 with (fail)
  have hcw := HCW.out
  generalize (w.alloc (.cells #[.string (str a), .string (str b)] 54)).alloc (.cells #[.int .i64 0, .bool false, .slice none 0 0] 24) = w1 at hcw ⊢
  have s0 := hcw.s.cell (i := 0) rfl
  have s1 := hcw.s.cell (i := 1) rfl
  go_wp2_with fail
  refine (HCU.out _).mono ?_
  rintro e w2 ⟨cl1, fin1, v1, ts1, q1, rfl, hr1, hb2, ht1⟩
  rw [HO.out]
  obtain ⟨a1, c1, rfl, _⟩ := RdS.form hr1
  have hcw2 := hcw.call hb2
  have HT1 : Hid (curO cap a b = true → TabP (curS cap a b) cl1 fin1 ts1 q1) := Lib.hid ht1
  clear s0 s1 hcw hb2 ht1
  have hcw3 := hcw2.call ((Below.refl w2.heap.size w2).alloc (Nat.le_refl _) (.cells #[.int .i64 cl1, .bool fin1, .slice a1 ts1.length c1] 24))
  have hB1 := Bx.new w2 24 [.int .i64 cl1, .bool fin1, .slice a1 ts1.length c1]
  have hr2 := hr1.keep ((Below.refl w2.heap.size w2).alloc (Nat.le_refl _) (.cells #[.int .i64 cl1, .bool fin1, .slice a1 ts1.length c1] 24))
  clear hcw2 hr1
  go_upto_region 4 with (fail)
  obtain ⟨g1, hg1⟩ : ∃ g1, g1 = w2.heap.size := ⟨_, rfl⟩
  rw [← hg1] at hB1
  simp only [← hg1]
  generalize w2.alloc (.cells #[.int .i64 cl1, .bool fin1, .slice a1 ts1.length c1] 24) = w5 at hcw3 hB1 hr2 ⊢
  clear hg1
  have z0 := hcw3.z.cell (i := 0) rfl
  have z1 := hcw3.z.cell (i := 1) rfl
  have z2 := hcw3.z.cell (i := 2) rfl
  have zf := hcw3.z.free
  have zl := hcw3.z.lt
  have x0 := hB1.cell (i := 0) rfl
  have x1 := hB1.cell (i := 1) rfl
  have x2 := hB1.cell (i := 2) rfl
  have HLE := Lib.hid hcw3.le
  have HR5 := Lib.hid (RdK.put3 hr2 hcw3.z)
  clear hcw3 hB1 hr2
  go_wp2_with fail
  refine bodyPost_ret (v := .tuple #[tval cl1 fin1 (.slice a1 ts1.length c1), .int .i64 q1, .int .i64 0]) (by simp [results, Try.results23, go_sem, z0, z1, z2]) rfl ?_
  obtain ⟨e1, e2, e3, e4⟩ := HT1.out HO.out
  subst e1 e2 e3 e4
  exact ⟨_, rfl, HR5.out _ _ _, ((HLE.out.setCell (by simp) _).setCell (by simp) _).setCell (by simp) _⟩
theorem pload_any (cap : Int) (a b : List UInt8) (w : World) (hla : a.length ≤ 20000) (hlb : b.length ≤ 20000) : Calls Try.prog 23 #[.int .i64 cap, sval a b] w (LoadP (loadR cap a b) w) := by
  unfold loadR
  by_cases h1 : cap < 1
  · rw [if_pos (by omega)]
    exact pload_cap0 cap a b w h1
  by_cases h2 : 449849 < cap
  · rw [if_pos (by omega)]
    exact pload_cap1 cap a b w h2
  rw [if_neg (by omega)]
  cases ho : curO cap a b with
  | false =>
    rw [if_pos rfl]
    exact pload_false cap a b w hla hlb (by omega) (by omega) ho
  | true =>
    rw [if_neg (by decide)]
    exact pload_true cap a b w hla hlb (by omega) (by omega) ho
set_option maxRecDepth 100000 in
set_option maxHeartbeats 1000000 in
theorem rload_cap0 (cap : Int) (a b : List UInt8) (w : World) (hc : cap < 1) : Calls Try.prog 24 #[.int .i64 cap, sval a b] w (LoadP (Res.bad 1, 0) w) := by
  have HCP : Hid (decide (1 ≤ cap ∧ cap ≤ 449849) = false) := Lib.hid (decide_eq_false (by omega))
  go_enter Try.func24, Try.ntmps24
  go_wp2_with fail
  refine (capable_any _ _).mono ?_
  rintro e w9 ⟨rfl, rfl⟩
  rw [HCP.out]
  go_wp2_with fail
  refine bodyPost_ret (v := .tuple #[tval 0 false (.slice none 0 0), .int .i64 0, .int .i64 1]) (by simp [results, Try.results24, go_sem]) rfl ⟨_, rfl, RdK.nil _, ?_⟩
  exact ((Below.refl _ _).alloc (Nat.le_refl _) _).alloc (by simp) _
set_option maxRecDepth 100000 in
set_option maxHeartbeats 1000000 in
theorem rload_cap1 (cap : Int) (a b : List UInt8) (w : World) (hc : 449849 < cap) : Calls Try.prog 24 #[.int .i64 cap, sval a b] w (LoadP (Res.bad 1, 0) w) := by
  have HCP : Hid (decide (1 ≤ cap ∧ cap ≤ 449849) = false) := Lib.hid (decide_eq_false (by omega))
  have hc2 : ¬ cap < 1 := by omega
  go_enter Try.func24, Try.ntmps24
  go_wp2_with fail
  refine (capable_any _ _).mono ?_
  rintro e w9 ⟨rfl, rfl⟩
  rw [HCP.out]
  go_wp2_with fail
  refine bodyPost_ret (v := .tuple #[tval 0 false (.slice none 0 0), .int .i64 0, .int .i64 1]) (by simp [results, Try.results24, go_sem]) rfl ⟨_, rfl, RdK.nil _, ?_⟩
  exact ((Below.refl _ _).alloc (Nat.le_refl _) _).alloc (by simp) _
set_option maxRecDepth 100000 in
set_option maxHeartbeats 1000000 in
theorem rload_false (cap : Int) (a b : List UInt8) (w : World) (hla : a.length ≤ 20000) (hlb : b.length ≤ 20000) (hc : 1 ≤ cap) (hc2 : cap ≤ 449849) (HO : Hid (curO cap a b = false)) : Calls Try.prog 24 #[.int .i64 cap, sval a b] w (LoadP (Res.bad 6, 0) w) := by
  have HCP : Hid (decide (1 ≤ cap ∧ cap ≤ 449849) = true) := Lib.hid (decide_eq_true ⟨hc, hc2⟩)
  have HCU := Lib.hid (fun W => rcurrent_any cap a b W hla hlb)
  have HCW := Lib.hid (CuW.new w a b)
  have hd1 : ¬ cap < 1 := by omega
  have hd2 : ¬ 449849 < cap := by omega
  clear hla hlb
  go_enter Try.func24, Try.ntmps24
  go_upto_region 1 with (fail)
  have hcw := HCW.out
  generalize (w.alloc (.cells #[.string (str a), .string (str b)] 54)).alloc (.cells #[.int .i64 0, .bool false, .slice none 0 0] 24) = w1 at hcw ⊢
  have s0 := hcw.s.cell (i := 0) rfl
  have s1 := hcw.s.cell (i := 1) rfl
  go_wp2_with fail
  refine (capable_any _ _).mono ?_
  rintro e w9 ⟨rfl, rfl⟩
  rw [HCP.out]
  go_wp2_with fail
  refine (HCU.out _).mono ?_
  rintro e w2 ⟨cl1, fin1, v1, ts1, q1, rfl, hr1, hb2, ht1⟩
  rw [HO.out]
  obtain ⟨a1, c1, rfl, _⟩ := RdS.form hr1
  have hcw2 := hcw.call hb2
  have HT1 : Hid (curO cap a b = true → TabP (curS cap a b) cl1 fin1 ts1 q1) := Lib.hid ht1
  clear s0 s1 hcw hb2 ht1
  have hcw3 := hcw2.call ((Below.refl w2.heap.size w2).alloc (Nat.le_refl _) (.cells #[.int .i64 cl1, .bool fin1, .slice a1 ts1.length c1] 24))
  have hB1 := Bx.new w2 24 [.int .i64 cl1, .bool fin1, .slice a1 ts1.length c1]
  have hr2 := hr1.keep ((Below.refl w2.heap.size w2).alloc (Nat.le_refl _) (.cells #[.int .i64 cl1, .bool fin1, .slice a1 ts1.length c1] 24))
  clear hcw2 hr1
  go_upto_region 4 with (fail)
  obtain ⟨g1, hg1⟩ : ∃ g1, g1 = w2.heap.size := ⟨_, rfl⟩
  rw [← hg1] at hB1
  simp only [← hg1]
  generalize w2.alloc (.cells #[.int .i64 cl1, .bool fin1, .slice a1 ts1.length c1] 24) = w5 at hcw3 hB1 hr2 ⊢
  clear hg1
  have z0 := hcw3.z.cell (i := 0) rfl
  have z1 := hcw3.z.cell (i := 1) rfl
  have z2 := hcw3.z.cell (i := 2) rfl
  have zf := hcw3.z.free
  have zl := hcw3.z.lt
  have x0 := hB1.cell (i := 0) rfl
  have x1 := hB1.cell (i := 1) rfl
  have x2 := hB1.cell (i := 2) rfl
  have HLE := Lib.hid hcw3.le
  have HR5 := Lib.hid (RdK.put3 hr2 hcw3.z)
  clear hcw3 hB1 hr2
  go_wp2_with fail
  refine bodyPost_ret (v := .tuple #[tval 0 false (.slice none 0 0), .int .i64 0, .int .i64 6]) (by simp [results, Try.results24, go_sem, z0, z1, z2]) rfl ⟨_, rfl, RdK.nil _, ?_⟩
  exact ((HLE.out.setCell (by simp) _).setCell (by simp) _).setCell (by simp) _
set_option maxRecDepth 100000 in
set_option maxHeartbeats 1000000 in
theorem rload_true (cap : Int) (a b : List UInt8) (w : World) (hla : a.length ≤ 20000) (hlb : b.length ≤ 20000) (hc : 1 ≤ cap) (hc2 : cap ≤ 449849) (HO : Hid (curO cap a b = true)) : Calls Try.prog 24 #[.int .i64 cap, sval a b] w (LoadP (⟨clD (curS cap a b), finD (curS cap a b), tksD (curS cap a b) (cntD (curS cap a b)), 0⟩, seqD (curS cap a b)) w) := by
  have HCP : Hid (decide (1 ≤ cap ∧ cap ≤ 449849) = true) := Lib.hid (decide_eq_true ⟨hc, hc2⟩)
  have HCU := Lib.hid (fun W => rcurrent_any cap a b W hla hlb)
  have HCW := Lib.hid (CuW.new w a b)
  have hd1 : ¬ cap < 1 := by omega
  have hd2 : ¬ 449849 < cap := by omega
  clear hla hlb
  go_enter Try.func24, Try.ntmps24
  go_upto_region 1 with (fail)
  have hcw := HCW.out
  generalize (w.alloc (.cells #[.string (str a), .string (str b)] 54)).alloc (.cells #[.int .i64 0, .bool false, .slice none 0 0] 24) = w1 at hcw ⊢
  have s0 := hcw.s.cell (i := 0) rfl
  have s1 := hcw.s.cell (i := 1) rfl
  go_wp2_with fail
  refine (capable_any _ _).mono ?_
  rintro e w9 ⟨rfl, rfl⟩
  rw [HCP.out]
  go_wp2_with fail
  refine (HCU.out _).mono ?_
  rintro e w2 ⟨cl1, fin1, v1, ts1, q1, rfl, hr1, hb2, ht1⟩
  rw [HO.out]
  obtain ⟨a1, c1, rfl, _⟩ := RdS.form hr1
  have hcw2 := hcw.call hb2
  have HT1 : Hid (curO cap a b = true → TabP (curS cap a b) cl1 fin1 ts1 q1) := Lib.hid ht1
  clear s0 s1 hcw hb2 ht1
  have hcw3 := hcw2.call ((Below.refl w2.heap.size w2).alloc (Nat.le_refl _) (.cells #[.int .i64 cl1, .bool fin1, .slice a1 ts1.length c1] 24))
  have hB1 := Bx.new w2 24 [.int .i64 cl1, .bool fin1, .slice a1 ts1.length c1]
  have hr2 := hr1.keep ((Below.refl w2.heap.size w2).alloc (Nat.le_refl _) (.cells #[.int .i64 cl1, .bool fin1, .slice a1 ts1.length c1] 24))
  clear hcw2 hr1
  go_upto_region 4 with (fail)
  obtain ⟨g1, hg1⟩ : ∃ g1, g1 = w2.heap.size := ⟨_, rfl⟩
  rw [← hg1] at hB1
  simp only [← hg1]
  generalize w2.alloc (.cells #[.int .i64 cl1, .bool fin1, .slice a1 ts1.length c1] 24) = w5 at hcw3 hB1 hr2 ⊢
  clear hg1
  have z0 := hcw3.z.cell (i := 0) rfl
  have z1 := hcw3.z.cell (i := 1) rfl
  have z2 := hcw3.z.cell (i := 2) rfl
  have zf := hcw3.z.free
  have zl := hcw3.z.lt
  have x0 := hB1.cell (i := 0) rfl
  have x1 := hB1.cell (i := 1) rfl
  have x2 := hB1.cell (i := 2) rfl
  have HLE := Lib.hid hcw3.le
  have HR5 := Lib.hid (RdK.put3 hr2 hcw3.z)
  clear hcw3 hB1 hr2
  go_wp2_with fail
  refine bodyPost_ret (v := .tuple #[tval cl1 fin1 (.slice a1 ts1.length c1), .int .i64 q1, .int .i64 0]) (by simp [results, Try.results24, go_sem, z0, z1, z2]) rfl ?_
  obtain ⟨e1, e2, e3, e4⟩ := HT1.out HO.out
  subst e1 e2 e3 e4
  exact ⟨_, rfl, HR5.out _ _ _, ((HLE.out.setCell (by simp) _).setCell (by simp) _).setCell (by simp) _⟩
theorem rload_any (cap : Int) (a b : List UInt8) (w : World) (hla : a.length ≤ 20000) (hlb : b.length ≤ 20000) : Calls Try.prog 24 #[.int .i64 cap, sval a b] w (LoadP (loadR cap a b) w) := by
  unfold loadR
  by_cases h1 : cap < 1
  · rw [if_pos (by omega)]
    exact rload_cap0 cap a b w h1
  by_cases h2 : 449849 < cap
  · rw [if_pos (by omega)]
    exact rload_cap1 cap a b w h2
  rw [if_neg (by omega)]
  cases ho : curO cap a b with
  | false =>
    rw [if_pos rfl]
    exact rload_false cap a b w hla hlb (by omega) (by omega) ho
  | true =>
    rw [if_neg (by decide)]
    exact rload_true cap a b w hla hlb (by omega) (by omega) ho
set_option maxRecDepth 100000 in
set_option maxHeartbeats 1000000 in
theorem psave_bad (cap : Int) (a b : List UInt8) (cl : Int) (fin : Bool) (sv : Value) (l : List T.Trk) (w : World) (hr : RdK w sv l) (hf : Fine l) (hv : T.validB cap cl fin l = false) : Calls Try.prog 25 #[.int .i64 cap, sval a b, tval cl fin sv] w (SaveP (([], []), 1) w) := by
  have hsw := SvW.new w a b cl fin sv
  have HV := Lib.hid (valid_fine cap cl fin sv l _ (hr.keep hsw.le) hf)
  rw [hv] at HV
  have HSW := Lib.hid hsw
  obtain ⟨a1, c1, rfl, _⟩ := RdS.form hr
  clear hv hsw hr hf
  go_enter Try.func25, Try.ntmps25
  go_wp2_with fail
  refine HV.out.mono ?_
  rintro e w1 ⟨rfl, hb1⟩
  have hsw1 := HSW.out.call hb1
  have z0 := hsw1.z.cell (i := 0) rfl
  have z1 := hsw1.z.cell (i := 1) rfl
  have zf := hsw1.z.free
  have zl := hsw1.z.lt
  have HLE := Lib.hid hsw1.le
  clear hsw1 hb1
  go_wp2_with fail
  refine bodyPost_ret (v := .tuple #[sval [] [], .int .i64 1]) (by simp [results, Try.results25, go_sem, z0, z1, str]) rfl ⟨rfl, ?_⟩
  exact (HLE.out.setCell (by simp <;> omega) _).setCell (by simp <;> omega) _
set_option maxRecDepth 100000 in
set_option maxHeartbeats 2000000 in
theorem psave_fff (cap : Int) (a b : List UInt8) (cl : Int) (fin : Bool) (sv : Value) (l : List T.Trk) (w : World) (hr : RdK w sv l) (hf : Fine l) (hv : T.validB cap cl fin l = true) (hcl : cl ≤ 9223372036854775807) (hla : a.length ≤ 20000) (hlb : b.length ≤ 20000) (HO : Hid (curO cap a b = false)) (HA : Hid (curA cap a b = false)) : Calls Try.prog 25 #[.int .i64 cap, sval a b, tval cl fin sv] w (SaveP ((encE 0 cl fin l, b), 0) w) := by
  have hsw := SvW.new w a b cl fin sv
  have HV := Lib.hid (valid_fine cap cl fin sv l _ (hr.keep hsw.le) hf)
  rw [hv] at HV
  have HEN := Lib.hid (fun q W hW => encodeT_any cap q cl fin sv l W hW hf hcl)
  have HER : Hid (encodeR cap 0 cl fin l = (encE 0 cl fin l, 0)) := Lib.hid (by
    unfold encodeR
    rw [hv, if_neg (by decide)]
    rw [if_pos (by omega)])
  have HCU := Lib.hid (fun W => pcurrent_any cap a b W hla hlb)
  have HSW := Lib.hid hsw
  have HR := Lib.hid hr
  obtain ⟨a1, c1, rfl, _⟩ := RdS.form hr
  clear hv hsw hr hf hla hlb hcl
  obtain ⟨E, hE⟩ : ∃ E, E = encE 0 cl fin l := ⟨_, rfl⟩
  rw [← hE] at HER
  rw [← hE]
  clear hE
  go_enter Try.func25, Try.ntmps25
  go_upto_region 1 with (fail)
  have hsw := HSW.out
  generalize ((w.alloc (.cells #[.string (str a), .string (str b)] 54)).alloc (.cells #[.int .i64 cl, .bool fin, .slice a1 l.length c1] 24)).alloc (.cells #[.string ⟨#[]⟩, .string ⟨#[]⟩] 54) = w1 at hsw HV ⊢
  have t0 := hsw.t.cell (i := 0) rfl
  have t1 := hsw.t.cell (i := 1) rfl
  have t2 := hsw.t.cell (i := 2) rfl
  go_wp2_with fail
  refine HV.out.mono ?_
  rintro e w2 ⟨rfl, hb2⟩
  have hsw2 := hsw.call hb2
  have s0 := hsw2.s.cell (i := 0) rfl
  have s1 := hsw2.s.cell (i := 1) rfl
  clear t0 t1 t2 hsw hb2 HV HSW
  go_wp2_with fail
  refine (HCU.out _).mono ?_
  rintro e w3 ⟨cl2, fin2, v2, ts2, q2, rfl, hr2, hb3, ht2⟩
  rw [HO.out]
  rw [HA.out]
  obtain ⟨a2, c2, rfl, _⟩ := RdS.form hr2
  have hsw3 := hsw2.call (hb3.trans ((Below.refl w3.heap.size w3).alloc (Nat.le_refl _) (.cells #[.int .i64 cl2, .bool fin2, .slice a2 ts2.length c2] 24) |>.mono hb3.size))
  clear s0 s1 hsw2 hb3 ht2 hr2
  go_upto_region 4 with (fail)
  generalize w3.alloc (.cells #[.int .i64 cl2, .bool fin2, .slice a2 ts2.length c2] 24) = w4 at hsw3 ⊢
  have t0 := hsw3.t.cell (i := 0) rfl
  have t1 := hsw3.t.cell (i := 1) rfl
  have t2 := hsw3.t.cell (i := 2) rfl
  have HRK := HR.out.keep hsw3.le
  go_wp2_with fail
  refine (HEN.out _ _ HRK).mono ?_
  rw [HER.out]
  rintro e w5 ⟨rfl, hb5⟩
  have hsw5 := hsw3.call hb5
  have s0 := hsw5.s.cell (i := 0) rfl
  have s1 := hsw5.s.cell (i := 1) rfl
  have sf := hsw5.s.free
  have z0 := hsw5.z.cell (i := 0) rfl
  have z1 := hsw5.z.cell (i := 1) rfl
  have zf := hsw5.z.free
  have zl := hsw5.z.lt
  have HLE := Lib.hid hsw5.le
  clear t0 t1 t2 hsw3 hb5 hsw5 HRK
  go_wp2_with fail
  refine bodyPost_ret (v := .tuple #[sval E b, .int .i64 0]) (by simp [results, Try.results25, go_sem, z0, z1, str]) rfl ⟨rfl, ?_⟩
  exact ((HLE.out.setCell (by simp <;> omega) _).setCell (by simp <;> omega) _).setCell (by simp <;> omega) _
set_option maxRecDepth 100000 in
set_option maxHeartbeats 2000000 in
theorem psave_tff (cap : Int) (a b : List UInt8) (cl : Int) (fin : Bool) (sv : Value) (l : List T.Trk) (w : World) (hr : RdK w sv l) (hf : Fine l) (hv : T.validB cap cl fin l = true) (hcl : cl ≤ 9223372036854775807) (hla : a.length ≤ 20000) (hlb : b.length ≤ 20000) (HO : Hid (curO cap a b = true)) (HA : Hid (curA cap a b = false)) (hq : ¬ 2147483647 < (seqD (curS cap a b) : Int) + 1) : Calls Try.prog 25 #[.int .i64 cap, sval a b, tval cl fin sv] w (SaveP ((encE ((seqD (curS cap a b) : Int) + 1) cl fin l, b), 0) w) := by
  have hsw := SvW.new w a b cl fin sv
  have HV := Lib.hid (valid_fine cap cl fin sv l _ (hr.keep hsw.le) hf)
  rw [hv] at HV
  have HEN := Lib.hid (fun q W hW => encodeT_any cap q cl fin sv l W hW hf hcl)
  have HER : Hid (encodeR cap ((seqD (curS cap a b) : Int) + 1) cl fin l = (encE ((seqD (curS cap a b) : Int) + 1) cl fin l, 0)) := Lib.hid (by
    unfold encodeR
    rw [hv, if_neg (by decide)]
    rw [if_pos (by omega)])
  have HCU := Lib.hid (fun W => pcurrent_any cap a b W hla hlb)
  have HSW := Lib.hid hsw
  have HR := Lib.hid hr
  obtain ⟨a1, c1, rfl, _⟩ := RdS.form hr
  clear hv hsw hr hf hla hlb hcl hq
  obtain ⟨E, hE⟩ : ∃ E, E = encE ((seqD (curS cap a b) : Int) + 1) cl fin l := ⟨_, rfl⟩
  rw [← hE] at HER
  rw [← hE]
  clear hE
  go_enter Try.func25, Try.ntmps25
  go_upto_region 1 with (fail)
  have hsw := HSW.out
  generalize ((w.alloc (.cells #[.string (str a), .string (str b)] 54)).alloc (.cells #[.int .i64 cl, .bool fin, .slice a1 l.length c1] 24)).alloc (.cells #[.string ⟨#[]⟩, .string ⟨#[]⟩] 54) = w1 at hsw HV ⊢
  have t0 := hsw.t.cell (i := 0) rfl
  have t1 := hsw.t.cell (i := 1) rfl
  have t2 := hsw.t.cell (i := 2) rfl
  go_wp2_with fail
  refine HV.out.mono ?_
  rintro e w2 ⟨rfl, hb2⟩
  have hsw2 := hsw.call hb2
  have s0 := hsw2.s.cell (i := 0) rfl
  have s1 := hsw2.s.cell (i := 1) rfl
  clear t0 t1 t2 hsw hb2 HV HSW
  go_wp2_with fail
  refine (HCU.out _).mono ?_
  rintro e w3 ⟨cl2, fin2, v2, ts2, q2, rfl, hr2, hb3, ht2⟩
  rw [HO.out]
  rw [HA.out]
  obtain ⟨a2, c2, rfl, _⟩ := RdS.form hr2
  have hsw3 := hsw2.call (hb3.trans ((Below.refl w3.heap.size w3).alloc (Nat.le_refl _) (.cells #[.int .i64 cl2, .bool fin2, .slice a2 ts2.length c2] 24) |>.mono hb3.size))
  have hq2 : q2 = seqD (curS cap a b) := (ht2 HO.out).2.2.2
  subst hq2
  have hqb := rdE_lt (curS cap a b) 4 4 (by omega)
  have hqc : (0 : Int) ≤ seqD (curS cap a b) ∧ (seqD (curS cap a b) : Int) < 4294967296 := ⟨by omega, by unfold seqD; omega⟩
  have hqc1 := hqc.1
  have hqc2 := hqc.2
  clear hqb hqc
  clear s0 s1 hsw2 hb3 ht2 hr2
  go_upto_region 4 with (fail)
  generalize w3.alloc (.cells #[.int .i64 cl2, .bool fin2, .slice a2 ts2.length c2] 24) = w4 at hsw3 ⊢
  have t0 := hsw3.t.cell (i := 0) rfl
  have t1 := hsw3.t.cell (i := 1) rfl
  have t2 := hsw3.t.cell (i := 2) rfl
  have HRK := HR.out.keep hsw3.le
  go_wp2_with fail
  refine (HEN.out _ _ HRK).mono ?_
  rw [HER.out]
  rintro e w5 ⟨rfl, hb5⟩
  have hsw5 := hsw3.call hb5
  have s0 := hsw5.s.cell (i := 0) rfl
  have s1 := hsw5.s.cell (i := 1) rfl
  have sf := hsw5.s.free
  have z0 := hsw5.z.cell (i := 0) rfl
  have z1 := hsw5.z.cell (i := 1) rfl
  have zf := hsw5.z.free
  have zl := hsw5.z.lt
  have HLE := Lib.hid hsw5.le
  clear t0 t1 t2 hsw3 hb5 hsw5 HRK
  go_wp2_with fail
  refine bodyPost_ret (v := .tuple #[sval E b, .int .i64 0]) (by simp [results, Try.results25, go_sem, z0, z1, str]) rfl ⟨rfl, ?_⟩
  exact ((HLE.out.setCell (by simp <;> omega) _).setCell (by simp <;> omega) _).setCell (by simp <;> omega) _
set_option maxRecDepth 100000 in
set_option maxHeartbeats 2000000 in
theorem psave_tft (cap : Int) (a b : List UInt8) (cl : Int) (fin : Bool) (sv : Value) (l : List T.Trk) (w : World) (hr : RdK w sv l) (hf : Fine l) (hv : T.validB cap cl fin l = true) (hcl : cl ≤ 9223372036854775807) (hla : a.length ≤ 20000) (hlb : b.length ≤ 20000) (HO : Hid (curO cap a b = true)) (HA : Hid (curA cap a b = true)) (hq : ¬ 2147483647 < (seqD (curS cap a b) : Int) + 1) : Calls Try.prog 25 #[.int .i64 cap, sval a b, tval cl fin sv] w (SaveP ((a, encE ((seqD (curS cap a b) : Int) + 1) cl fin l), 0) w) := by
  have hsw := SvW.new w a b cl fin sv
  have HV := Lib.hid (valid_fine cap cl fin sv l _ (hr.keep hsw.le) hf)
  rw [hv] at HV
  have HEN := Lib.hid (fun q W hW => encodeT_any cap q cl fin sv l W hW hf hcl)
  have HER : Hid (encodeR cap ((seqD (curS cap a b) : Int) + 1) cl fin l = (encE ((seqD (curS cap a b) : Int) + 1) cl fin l, 0)) := Lib.hid (by
    unfold encodeR
    rw [hv, if_neg (by decide)]
    rw [if_pos (by omega)])
  have HCU := Lib.hid (fun W => pcurrent_any cap a b W hla hlb)
  have HSW := Lib.hid hsw
  have HR := Lib.hid hr
  obtain ⟨a1, c1, rfl, _⟩ := RdS.form hr
  clear hv hsw hr hf hla hlb hcl hq
  obtain ⟨E, hE⟩ : ∃ E, E = encE ((seqD (curS cap a b) : Int) + 1) cl fin l := ⟨_, rfl⟩
  rw [← hE] at HER
  rw [← hE]
  clear hE
  go_enter Try.func25, Try.ntmps25
  go_upto_region 1 with (fail)
  have hsw := HSW.out
  generalize ((w.alloc (.cells #[.string (str a), .string (str b)] 54)).alloc (.cells #[.int .i64 cl, .bool fin, .slice a1 l.length c1] 24)).alloc (.cells #[.string ⟨#[]⟩, .string ⟨#[]⟩] 54) = w1 at hsw HV ⊢
  have t0 := hsw.t.cell (i := 0) rfl
  have t1 := hsw.t.cell (i := 1) rfl
  have t2 := hsw.t.cell (i := 2) rfl
  go_wp2_with fail
  refine HV.out.mono ?_
  rintro e w2 ⟨rfl, hb2⟩
  have hsw2 := hsw.call hb2
  have s0 := hsw2.s.cell (i := 0) rfl
  have s1 := hsw2.s.cell (i := 1) rfl
  clear t0 t1 t2 hsw hb2 HV HSW
  go_wp2_with fail
  refine (HCU.out _).mono ?_
  rintro e w3 ⟨cl2, fin2, v2, ts2, q2, rfl, hr2, hb3, ht2⟩
  rw [HO.out]
  rw [HA.out]
  obtain ⟨a2, c2, rfl, _⟩ := RdS.form hr2
  have hsw3 := hsw2.call (hb3.trans ((Below.refl w3.heap.size w3).alloc (Nat.le_refl _) (.cells #[.int .i64 cl2, .bool fin2, .slice a2 ts2.length c2] 24) |>.mono hb3.size))
  have hq2 : q2 = seqD (curS cap a b) := (ht2 HO.out).2.2.2
  subst hq2
  have hqb := rdE_lt (curS cap a b) 4 4 (by omega)
  have hqc : (0 : Int) ≤ seqD (curS cap a b) ∧ (seqD (curS cap a b) : Int) < 4294967296 := ⟨by omega, by unfold seqD; omega⟩
  have hqc1 := hqc.1
  have hqc2 := hqc.2
  clear hqb hqc
  clear s0 s1 hsw2 hb3 ht2 hr2
  go_upto_region 4 with (fail)
  generalize w3.alloc (.cells #[.int .i64 cl2, .bool fin2, .slice a2 ts2.length c2] 24) = w4 at hsw3 ⊢
  have t0 := hsw3.t.cell (i := 0) rfl
  have t1 := hsw3.t.cell (i := 1) rfl
  have t2 := hsw3.t.cell (i := 2) rfl
  have HRK := HR.out.keep hsw3.le
  go_wp2_with fail
  refine (HEN.out _ _ HRK).mono ?_
  rw [HER.out]
  rintro e w5 ⟨rfl, hb5⟩
  have hsw5 := hsw3.call hb5
  have s0 := hsw5.s.cell (i := 0) rfl
  have s1 := hsw5.s.cell (i := 1) rfl
  have sf := hsw5.s.free
  have z0 := hsw5.z.cell (i := 0) rfl
  have z1 := hsw5.z.cell (i := 1) rfl
  have zf := hsw5.z.free
  have zl := hsw5.z.lt
  have HLE := Lib.hid hsw5.le
  clear t0 t1 t2 hsw3 hb5 hsw5 HRK
  go_wp2_with fail
  refine bodyPost_ret (v := .tuple #[sval a E, .int .i64 0]) (by simp [results, Try.results25, go_sem, z0, z1, str]) rfl ⟨rfl, ?_⟩
  exact ((HLE.out.setCell (by simp <;> omega) _).setCell (by simp <;> omega) _).setCell (by simp <;> omega) _
set_option maxRecDepth 100000 in
set_option maxHeartbeats 2000000 in
theorem psave_ttf (cap : Int) (a b : List UInt8) (cl : Int) (fin : Bool) (sv : Value) (l : List T.Trk) (w : World) (hr : RdK w sv l) (hf : Fine l) (hv : T.validB cap cl fin l = true) (hcl : cl ≤ 9223372036854775807) (hla : a.length ≤ 20000) (hlb : b.length ≤ 20000) (HO : Hid (curO cap a b = true)) (hq : 2147483647 < (seqD (curS cap a b) : Int) + 1) : Calls Try.prog 25 #[.int .i64 cap, sval a b, tval cl fin sv] w (SaveP (([], []), 7) w) := by
  have hsw := SvW.new w a b cl fin sv
  have HV := Lib.hid (valid_fine cap cl fin sv l _ (hr.keep hsw.le) hf)
  rw [hv] at HV
  have HEN := Lib.hid (fun q W hW => encodeT_any cap q cl fin sv l W hW hf hcl)
  have HER : Hid (encodeR cap ((seqD (curS cap a b) : Int) + 1) cl fin l = ([], 2)) := Lib.hid (by
    unfold encodeR
    rw [hv, if_neg (by decide)]
    rw [if_neg (by omega)])
  have HCU := Lib.hid (fun W => pcurrent_any cap a b W hla hlb)
  have HSW := Lib.hid hsw
  have HR := Lib.hid hr
  obtain ⟨a1, c1, rfl, _⟩ := RdS.form hr
  clear hv hsw hr hf hla hlb hcl hq
  go_enter Try.func25, Try.ntmps25
  go_upto_region 1 with (fail)
  have hsw := HSW.out
  generalize ((w.alloc (.cells #[.string (str a), .string (str b)] 54)).alloc (.cells #[.int .i64 cl, .bool fin, .slice a1 l.length c1] 24)).alloc (.cells #[.string ⟨#[]⟩, .string ⟨#[]⟩] 54) = w1 at hsw HV ⊢
  have t0 := hsw.t.cell (i := 0) rfl
  have t1 := hsw.t.cell (i := 1) rfl
  have t2 := hsw.t.cell (i := 2) rfl
  go_wp2_with fail
  refine HV.out.mono ?_
  rintro e w2 ⟨rfl, hb2⟩
  have hsw2 := hsw.call hb2
  have s0 := hsw2.s.cell (i := 0) rfl
  have s1 := hsw2.s.cell (i := 1) rfl
  clear t0 t1 t2 hsw hb2 HV HSW
  go_wp2_with fail
  refine (HCU.out _).mono ?_
  rintro e w3 ⟨cl2, fin2, v2, ts2, q2, rfl, hr2, hb3, ht2⟩
  rw [HO.out]
  obtain ⟨a2, c2, rfl, _⟩ := RdS.form hr2
  have hsw3 := hsw2.call (hb3.trans ((Below.refl w3.heap.size w3).alloc (Nat.le_refl _) (.cells #[.int .i64 cl2, .bool fin2, .slice a2 ts2.length c2] 24) |>.mono hb3.size))
  have hq2 : q2 = seqD (curS cap a b) := (ht2 HO.out).2.2.2
  subst hq2
  have hqb := rdE_lt (curS cap a b) 4 4 (by omega)
  have hqc : (0 : Int) ≤ seqD (curS cap a b) ∧ (seqD (curS cap a b) : Int) < 4294967296 := ⟨by omega, by unfold seqD; omega⟩
  have hqc1 := hqc.1
  have hqc2 := hqc.2
  clear hqb hqc
  clear s0 s1 hsw2 hb3 ht2 hr2
  go_upto_region 4 with (fail)
  generalize w3.alloc (.cells #[.int .i64 cl2, .bool fin2, .slice a2 ts2.length c2] 24) = w4 at hsw3 ⊢
  have t0 := hsw3.t.cell (i := 0) rfl
  have t1 := hsw3.t.cell (i := 1) rfl
  have t2 := hsw3.t.cell (i := 2) rfl
  have HRK := HR.out.keep hsw3.le
  go_wp2_with fail
  refine (HEN.out _ _ HRK).mono ?_
  rw [HER.out]
  rintro e w5 ⟨rfl, hb5⟩
  have hsw5 := hsw3.call hb5
  have s0 := hsw5.s.cell (i := 0) rfl
  have s1 := hsw5.s.cell (i := 1) rfl
  have sf := hsw5.s.free
  have z0 := hsw5.z.cell (i := 0) rfl
  have z1 := hsw5.z.cell (i := 1) rfl
  have zf := hsw5.z.free
  have zl := hsw5.z.lt
  have HLE := Lib.hid hsw5.le
  clear t0 t1 t2 hsw3 hb5 hsw5 HRK
  go_wp2_with fail
  refine bodyPost_ret (v := .tuple #[sval [] [], .int .i64 7]) (by simp [results, Try.results25, go_sem, z0, z1, str]) rfl ⟨rfl, ?_⟩
  exact (HLE.out.setCell (by simp <;> omega) _).setCell (by simp <;> omega) _
theorem psave_any (cap : Int) (a b : List UInt8) (cl : Int) (fin : Bool) (sv : Value) (l : List T.Trk) (w : World) (hr : RdK w sv l) (hf : Fine l) (hcl : cl ≤ 9223372036854775807) (hla : a.length ≤ 20000) (hlb : b.length ≤ 20000) : Calls Try.prog 25 #[.int .i64 cap, sval a b, tval cl fin sv] w (SaveP (saveR cap a b cl fin l) w) := by
  unfold saveR nextQ
  cases hv : T.validB cap cl fin l with
  | false =>
    rw [if_pos rfl]
    exact psave_bad cap a b cl fin sv l w hr hf hv
  | true =>
    rw [if_neg (by decide)]
    cases ho : curO cap a b with
    | false =>
      have ha : curA cap a b = false := by
        unfold curO at ho; unfold curA
        rw [Bool.or_eq_false_iff] at ho
        rw [ho.1]; rfl
      rw [if_neg (by decide : ¬ false = true), if_neg (by decide), if_neg (by rw [ha]; decide)]
      exact psave_fff cap a b cl fin sv l w hr hf hv hcl hla hlb ho ha
    | true =>
      rw [if_pos rfl]
      by_cases hq : 2147483647 < (seqD (curS cap a b) : Int) + 1
      · rw [if_pos hq]
        exact psave_ttf cap a b cl fin sv l w hr hf hv hcl hla hlb ho hq
      · rw [if_neg hq]
        cases ha : curA cap a b with
        | false =>
          rw [if_neg (by decide)]
          exact psave_tff cap a b cl fin sv l w hr hf hv hcl hla hlb ho ha hq
        | true =>
          rw [if_pos rfl]
          exact psave_tft cap a b cl fin sv l w hr hf hv hcl hla hlb ho ha hq
set_option maxRecDepth 100000 in
set_option maxHeartbeats 1000000 in
theorem rsave_bad (cap : Int) (a b : List UInt8) (cl : Int) (fin : Bool) (sv : Value) (l : List T.Trk) (w : World) (hr : RdK w sv l) (hf : Fine l) (hv : T.validB cap cl fin l = false) : Calls Try.prog 26 #[.int .i64 cap, sval a b, tval cl fin sv] w (SaveP (([], []), 1) w) := by
  have hsw := SvW.new w a b cl fin sv
  have HV := Lib.hid (rvalid_fine cap cl fin sv l _ (hr.keep hsw.le) hf)
  rw [hv] at HV
  have HSW := Lib.hid hsw
  obtain ⟨a1, c1, rfl, _⟩ := RdS.form hr
  clear hv hsw hr hf
  go_enter Try.func26, Try.ntmps26
  go_wp2_with fail
  refine HV.out.mono ?_
  rintro e w1 ⟨rfl, hb1⟩
  have hsw1 := HSW.out.call hb1
  have z0 := hsw1.z.cell (i := 0) rfl
  have z1 := hsw1.z.cell (i := 1) rfl
  have zf := hsw1.z.free
  have zl := hsw1.z.lt
  have HLE := Lib.hid hsw1.le
  clear hsw1 hb1
  go_wp2_with fail
  refine bodyPost_ret (v := .tuple #[sval [] [], .int .i64 1]) (by simp [results, Try.results26, go_sem, z0, z1, str]) rfl ⟨rfl, ?_⟩
  exact (HLE.out.setCell (by simp <;> omega) _).setCell (by simp <;> omega) _
set_option maxRecDepth 100000 in
set_option maxHeartbeats 2000000 in
theorem rsave_fff (cap : Int) (a b : List UInt8) (cl : Int) (fin : Bool) (sv : Value) (l : List T.Trk) (w : World) (hr : RdK w sv l) (hf : Fine l) (hv : T.validB cap cl fin l = true) (hcl : cl ≤ 9223372036854775807) (hla : a.length ≤ 20000) (hlb : b.length ≤ 20000) (HO : Hid (curO cap a b = false)) (HA : Hid (curA cap a b = false)) : Calls Try.prog 26 #[.int .i64 cap, sval a b, tval cl fin sv] w (SaveP ((encE 0 cl fin l, b), 0) w) := by
  have hsw := SvW.new w a b cl fin sv
  have HV := Lib.hid (rvalid_fine cap cl fin sv l _ (hr.keep hsw.le) hf)
  rw [hv] at HV
  have HEN := Lib.hid (fun q W hW => rencodeT_any cap q cl fin sv l W hW hf hcl)
  have HER : Hid (encodeR cap 0 cl fin l = (encE 0 cl fin l, 0)) := Lib.hid (by
    unfold encodeR
    rw [hv, if_neg (by decide)]
    rw [if_pos (by omega)])
  have HCU := Lib.hid (fun W => rcurrent_any cap a b W hla hlb)
  have HSW := Lib.hid hsw
  have HR := Lib.hid hr
  obtain ⟨a1, c1, rfl, _⟩ := RdS.form hr
  clear hv hsw hr hf hla hlb hcl
  obtain ⟨E, hE⟩ : ∃ E, E = encE 0 cl fin l := ⟨_, rfl⟩
  rw [← hE] at HER
  rw [← hE]
  clear hE
  go_enter Try.func26, Try.ntmps26
  go_upto_region 1 with (fail)
  have hsw := HSW.out
  generalize ((w.alloc (.cells #[.string (str a), .string (str b)] 54)).alloc (.cells #[.int .i64 cl, .bool fin, .slice a1 l.length c1] 24)).alloc (.cells #[.string ⟨#[]⟩, .string ⟨#[]⟩] 54) = w1 at hsw HV ⊢
  have t0 := hsw.t.cell (i := 0) rfl
  have t1 := hsw.t.cell (i := 1) rfl
  have t2 := hsw.t.cell (i := 2) rfl
  go_wp2_with fail
  refine HV.out.mono ?_
  rintro e w2 ⟨rfl, hb2⟩
  have hsw2 := hsw.call hb2
  have s0 := hsw2.s.cell (i := 0) rfl
  have s1 := hsw2.s.cell (i := 1) rfl
  clear t0 t1 t2 hsw hb2 HV HSW
  go_wp2_with fail
  refine (HCU.out _).mono ?_
  rintro e w3 ⟨cl2, fin2, v2, ts2, q2, rfl, hr2, hb3, ht2⟩
  rw [HO.out]
  rw [HA.out]
  obtain ⟨a2, c2, rfl, _⟩ := RdS.form hr2
  have hsw3 := hsw2.call (hb3.trans ((Below.refl w3.heap.size w3).alloc (Nat.le_refl _) (.cells #[.int .i64 cl2, .bool fin2, .slice a2 ts2.length c2] 24) |>.mono hb3.size))
  clear s0 s1 hsw2 hb3 ht2 hr2
  go_upto_region 4 with (fail)
  generalize w3.alloc (.cells #[.int .i64 cl2, .bool fin2, .slice a2 ts2.length c2] 24) = w4 at hsw3 ⊢
  have t0 := hsw3.t.cell (i := 0) rfl
  have t1 := hsw3.t.cell (i := 1) rfl
  have t2 := hsw3.t.cell (i := 2) rfl
  have HRK := HR.out.keep hsw3.le
  go_wp2_with fail
  refine (HEN.out _ _ HRK).mono ?_
  rw [HER.out]
  rintro e w5 ⟨rfl, hb5⟩
  have hsw5 := hsw3.call hb5
  have s0 := hsw5.s.cell (i := 0) rfl
  have s1 := hsw5.s.cell (i := 1) rfl
  have sf := hsw5.s.free
  have z0 := hsw5.z.cell (i := 0) rfl
  have z1 := hsw5.z.cell (i := 1) rfl
  have zf := hsw5.z.free
  have zl := hsw5.z.lt
  have HLE := Lib.hid hsw5.le
  clear t0 t1 t2 hsw3 hb5 hsw5 HRK
  go_wp2_with fail
  refine bodyPost_ret (v := .tuple #[sval E b, .int .i64 0]) (by simp [results, Try.results26, go_sem, z0, z1, str]) rfl ⟨rfl, ?_⟩
  exact (HLE.out.setCell (by simp <;> omega) _).setCell (by simp <;> omega) _
set_option maxRecDepth 100000 in
set_option maxHeartbeats 2000000 in
theorem rsave_tff (cap : Int) (a b : List UInt8) (cl : Int) (fin : Bool) (sv : Value) (l : List T.Trk) (w : World) (hr : RdK w sv l) (hf : Fine l) (hv : T.validB cap cl fin l = true) (hcl : cl ≤ 9223372036854775807) (hla : a.length ≤ 20000) (hlb : b.length ≤ 20000) (HO : Hid (curO cap a b = true)) (HA : Hid (curA cap a b = false)) (hq : ¬ 2147483647 < (seqD (curS cap a b) : Int) + 1) : Calls Try.prog 26 #[.int .i64 cap, sval a b, tval cl fin sv] w (SaveP ((encE ((seqD (curS cap a b) : Int) + 1) cl fin l, b), 0) w) := by
  have hsw := SvW.new w a b cl fin sv
  have HV := Lib.hid (rvalid_fine cap cl fin sv l _ (hr.keep hsw.le) hf)
  rw [hv] at HV
  have HEN := Lib.hid (fun q W hW => rencodeT_any cap q cl fin sv l W hW hf hcl)
  have HER : Hid (encodeR cap ((seqD (curS cap a b) : Int) + 1) cl fin l = (encE ((seqD (curS cap a b) : Int) + 1) cl fin l, 0)) := Lib.hid (by
    unfold encodeR
    rw [hv, if_neg (by decide)]
    rw [if_pos (by omega)])
  have HCU := Lib.hid (fun W => rcurrent_any cap a b W hla hlb)
  have HSW := Lib.hid hsw
  have HR := Lib.hid hr
  obtain ⟨a1, c1, rfl, _⟩ := RdS.form hr
  clear hv hsw hr hf hla hlb hcl hq
  obtain ⟨E, hE⟩ : ∃ E, E = encE ((seqD (curS cap a b) : Int) + 1) cl fin l := ⟨_, rfl⟩
  rw [← hE] at HER
  rw [← hE]
  clear hE
  go_enter Try.func26, Try.ntmps26
  go_upto_region 1 with (fail)
  have hsw := HSW.out
  generalize ((w.alloc (.cells #[.string (str a), .string (str b)] 54)).alloc (.cells #[.int .i64 cl, .bool fin, .slice a1 l.length c1] 24)).alloc (.cells #[.string ⟨#[]⟩, .string ⟨#[]⟩] 54) = w1 at hsw HV ⊢
  have t0 := hsw.t.cell (i := 0) rfl
  have t1 := hsw.t.cell (i := 1) rfl
  have t2 := hsw.t.cell (i := 2) rfl
  go_wp2_with fail
  refine HV.out.mono ?_
  rintro e w2 ⟨rfl, hb2⟩
  have hsw2 := hsw.call hb2
  have s0 := hsw2.s.cell (i := 0) rfl
  have s1 := hsw2.s.cell (i := 1) rfl
  clear t0 t1 t2 hsw hb2 HV HSW
  go_wp2_with fail
  refine (HCU.out _).mono ?_
  rintro e w3 ⟨cl2, fin2, v2, ts2, q2, rfl, hr2, hb3, ht2⟩
  rw [HO.out]
  rw [HA.out]
  obtain ⟨a2, c2, rfl, _⟩ := RdS.form hr2
  have hsw3 := hsw2.call (hb3.trans ((Below.refl w3.heap.size w3).alloc (Nat.le_refl _) (.cells #[.int .i64 cl2, .bool fin2, .slice a2 ts2.length c2] 24) |>.mono hb3.size))
  have hq2 : q2 = seqD (curS cap a b) := (ht2 HO.out).2.2.2
  subst hq2
  have hqb := rdE_lt (curS cap a b) 4 4 (by omega)
  have hqc : (0 : Int) ≤ seqD (curS cap a b) ∧ (seqD (curS cap a b) : Int) < 4294967296 := ⟨by omega, by unfold seqD; omega⟩
  have hqc1 := hqc.1
  have hqc2 := hqc.2
  clear hqb hqc
  clear s0 s1 hsw2 hb3 ht2 hr2
  go_upto_region 4 with (fail)
  generalize w3.alloc (.cells #[.int .i64 cl2, .bool fin2, .slice a2 ts2.length c2] 24) = w4 at hsw3 ⊢
  have t0 := hsw3.t.cell (i := 0) rfl
  have t1 := hsw3.t.cell (i := 1) rfl
  have t2 := hsw3.t.cell (i := 2) rfl
  have HRK := HR.out.keep hsw3.le
  go_wp2_with fail
  refine (HEN.out _ _ HRK).mono ?_
  rw [HER.out]
  rintro e w5 ⟨rfl, hb5⟩
  have hsw5 := hsw3.call hb5
  have s0 := hsw5.s.cell (i := 0) rfl
  have s1 := hsw5.s.cell (i := 1) rfl
  have sf := hsw5.s.free
  have z0 := hsw5.z.cell (i := 0) rfl
  have z1 := hsw5.z.cell (i := 1) rfl
  have zf := hsw5.z.free
  have zl := hsw5.z.lt
  have HLE := Lib.hid hsw5.le
  clear t0 t1 t2 hsw3 hb5 hsw5 HRK
  go_wp2_with fail
  refine bodyPost_ret (v := .tuple #[sval E b, .int .i64 0]) (by simp [results, Try.results26, go_sem, z0, z1, str]) rfl ⟨rfl, ?_⟩
  exact (HLE.out.setCell (by simp <;> omega) _).setCell (by simp <;> omega) _
set_option maxRecDepth 100000 in
set_option maxHeartbeats 2000000 in
theorem rsave_tft (cap : Int) (a b : List UInt8) (cl : Int) (fin : Bool) (sv : Value) (l : List T.Trk) (w : World) (hr : RdK w sv l) (hf : Fine l) (hv : T.validB cap cl fin l = true) (hcl : cl ≤ 9223372036854775807) (hla : a.length ≤ 20000) (hlb : b.length ≤ 20000) (HO : Hid (curO cap a b = true)) (HA : Hid (curA cap a b = true)) (hq : ¬ 2147483647 < (seqD (curS cap a b) : Int) + 1) : Calls Try.prog 26 #[.int .i64 cap, sval a b, tval cl fin sv] w (SaveP ((a, encE ((seqD (curS cap a b) : Int) + 1) cl fin l), 0) w) := by
  have hsw := SvW.new w a b cl fin sv
  have HV := Lib.hid (rvalid_fine cap cl fin sv l _ (hr.keep hsw.le) hf)
  rw [hv] at HV
  have HEN := Lib.hid (fun q W hW => rencodeT_any cap q cl fin sv l W hW hf hcl)
  have HER : Hid (encodeR cap ((seqD (curS cap a b) : Int) + 1) cl fin l = (encE ((seqD (curS cap a b) : Int) + 1) cl fin l, 0)) := Lib.hid (by
    unfold encodeR
    rw [hv, if_neg (by decide)]
    rw [if_pos (by omega)])
  have HCU := Lib.hid (fun W => rcurrent_any cap a b W hla hlb)
  have HSW := Lib.hid hsw
  have HR := Lib.hid hr
  obtain ⟨a1, c1, rfl, _⟩ := RdS.form hr
  clear hv hsw hr hf hla hlb hcl hq
  obtain ⟨E, hE⟩ : ∃ E, E = encE ((seqD (curS cap a b) : Int) + 1) cl fin l := ⟨_, rfl⟩
  rw [← hE] at HER
  rw [← hE]
  clear hE
  go_enter Try.func26, Try.ntmps26
  go_upto_region 1 with (fail)
  have hsw := HSW.out
  generalize ((w.alloc (.cells #[.string (str a), .string (str b)] 54)).alloc (.cells #[.int .i64 cl, .bool fin, .slice a1 l.length c1] 24)).alloc (.cells #[.string ⟨#[]⟩, .string ⟨#[]⟩] 54) = w1 at hsw HV ⊢
  have t0 := hsw.t.cell (i := 0) rfl
  have t1 := hsw.t.cell (i := 1) rfl
  have t2 := hsw.t.cell (i := 2) rfl
  go_wp2_with fail
  refine HV.out.mono ?_
  rintro e w2 ⟨rfl, hb2⟩
  have hsw2 := hsw.call hb2
  have s0 := hsw2.s.cell (i := 0) rfl
  have s1 := hsw2.s.cell (i := 1) rfl
  clear t0 t1 t2 hsw hb2 HV HSW
  go_wp2_with fail
  refine (HCU.out _).mono ?_
  rintro e w3 ⟨cl2, fin2, v2, ts2, q2, rfl, hr2, hb3, ht2⟩
  rw [HO.out]
  rw [HA.out]
  obtain ⟨a2, c2, rfl, _⟩ := RdS.form hr2
  have hsw3 := hsw2.call (hb3.trans ((Below.refl w3.heap.size w3).alloc (Nat.le_refl _) (.cells #[.int .i64 cl2, .bool fin2, .slice a2 ts2.length c2] 24) |>.mono hb3.size))
  have hq2 : q2 = seqD (curS cap a b) := (ht2 HO.out).2.2.2
  subst hq2
  have hqb := rdE_lt (curS cap a b) 4 4 (by omega)
  have hqc : (0 : Int) ≤ seqD (curS cap a b) ∧ (seqD (curS cap a b) : Int) < 4294967296 := ⟨by omega, by unfold seqD; omega⟩
  have hqc1 := hqc.1
  have hqc2 := hqc.2
  clear hqb hqc
  clear s0 s1 hsw2 hb3 ht2 hr2
  go_upto_region 4 with (fail)
  generalize w3.alloc (.cells #[.int .i64 cl2, .bool fin2, .slice a2 ts2.length c2] 24) = w4 at hsw3 ⊢
  have t0 := hsw3.t.cell (i := 0) rfl
  have t1 := hsw3.t.cell (i := 1) rfl
  have t2 := hsw3.t.cell (i := 2) rfl
  have HRK := HR.out.keep hsw3.le
  go_wp2_with fail
  refine (HEN.out _ _ HRK).mono ?_
  rw [HER.out]
  rintro e w5 ⟨rfl, hb5⟩
  have hsw5 := hsw3.call hb5
  have s0 := hsw5.s.cell (i := 0) rfl
  have s1 := hsw5.s.cell (i := 1) rfl
  have sf := hsw5.s.free
  have z0 := hsw5.z.cell (i := 0) rfl
  have z1 := hsw5.z.cell (i := 1) rfl
  have zf := hsw5.z.free
  have zl := hsw5.z.lt
  have HLE := Lib.hid hsw5.le
  clear t0 t1 t2 hsw3 hb5 hsw5 HRK
  go_wp2_with fail
  refine bodyPost_ret (v := .tuple #[sval a E, .int .i64 0]) (by simp [results, Try.results26, go_sem, z0, z1, str]) rfl ⟨rfl, ?_⟩
  exact (HLE.out.setCell (by simp <;> omega) _).setCell (by simp <;> omega) _
set_option maxRecDepth 100000 in
set_option maxHeartbeats 2000000 in
theorem rsave_ttf (cap : Int) (a b : List UInt8) (cl : Int) (fin : Bool) (sv : Value) (l : List T.Trk) (w : World) (hr : RdK w sv l) (hf : Fine l) (hv : T.validB cap cl fin l = true) (hcl : cl ≤ 9223372036854775807) (hla : a.length ≤ 20000) (hlb : b.length ≤ 20000) (HO : Hid (curO cap a b = true)) (hq : 2147483647 < (seqD (curS cap a b) : Int) + 1) : Calls Try.prog 26 #[.int .i64 cap, sval a b, tval cl fin sv] w (SaveP (([], []), 7) w) := by
  have hsw := SvW.new w a b cl fin sv
  have HV := Lib.hid (rvalid_fine cap cl fin sv l _ (hr.keep hsw.le) hf)
  rw [hv] at HV
  have HEN := Lib.hid (fun q W hW => rencodeT_any cap q cl fin sv l W hW hf hcl)
  have HER : Hid (encodeR cap ((seqD (curS cap a b) : Int) + 1) cl fin l = ([], 2)) := Lib.hid (by
    unfold encodeR
    rw [hv, if_neg (by decide)]
    rw [if_neg (by omega)])
  have HCU := Lib.hid (fun W => rcurrent_any cap a b W hla hlb)
  have HSW := Lib.hid hsw
  have HR := Lib.hid hr
  obtain ⟨a1, c1, rfl, _⟩ := RdS.form hr
  clear hv hsw hr hf hla hlb hcl hq
  go_enter Try.func26, Try.ntmps26
  go_upto_region 1 with (fail)
  have hsw := HSW.out
  generalize ((w.alloc (.cells #[.string (str a), .string (str b)] 54)).alloc (.cells #[.int .i64 cl, .bool fin, .slice a1 l.length c1] 24)).alloc (.cells #[.string ⟨#[]⟩, .string ⟨#[]⟩] 54) = w1 at hsw HV ⊢
  have t0 := hsw.t.cell (i := 0) rfl
  have t1 := hsw.t.cell (i := 1) rfl
  have t2 := hsw.t.cell (i := 2) rfl
  go_wp2_with fail
  refine HV.out.mono ?_
  rintro e w2 ⟨rfl, hb2⟩
  have hsw2 := hsw.call hb2
  have s0 := hsw2.s.cell (i := 0) rfl
  have s1 := hsw2.s.cell (i := 1) rfl
  clear t0 t1 t2 hsw hb2 HV HSW
  go_wp2_with fail
  refine (HCU.out _).mono ?_
  rintro e w3 ⟨cl2, fin2, v2, ts2, q2, rfl, hr2, hb3, ht2⟩
  rw [HO.out]
  obtain ⟨a2, c2, rfl, _⟩ := RdS.form hr2
  have hsw3 := hsw2.call (hb3.trans ((Below.refl w3.heap.size w3).alloc (Nat.le_refl _) (.cells #[.int .i64 cl2, .bool fin2, .slice a2 ts2.length c2] 24) |>.mono hb3.size))
  have hq2 : q2 = seqD (curS cap a b) := (ht2 HO.out).2.2.2
  subst hq2
  have hqb := rdE_lt (curS cap a b) 4 4 (by omega)
  have hqc : (0 : Int) ≤ seqD (curS cap a b) ∧ (seqD (curS cap a b) : Int) < 4294967296 := ⟨by omega, by unfold seqD; omega⟩
  have hqc1 := hqc.1
  have hqc2 := hqc.2
  clear hqb hqc
  clear s0 s1 hsw2 hb3 ht2 hr2
  go_upto_region 4 with (fail)
  generalize w3.alloc (.cells #[.int .i64 cl2, .bool fin2, .slice a2 ts2.length c2] 24) = w4 at hsw3 ⊢
  have t0 := hsw3.t.cell (i := 0) rfl
  have t1 := hsw3.t.cell (i := 1) rfl
  have t2 := hsw3.t.cell (i := 2) rfl
  have HRK := HR.out.keep hsw3.le
  go_wp2_with fail
  refine (HEN.out _ _ HRK).mono ?_
  rw [HER.out]
  rintro e w5 ⟨rfl, hb5⟩
  have hsw5 := hsw3.call hb5
  have s0 := hsw5.s.cell (i := 0) rfl
  have s1 := hsw5.s.cell (i := 1) rfl
  have sf := hsw5.s.free
  have z0 := hsw5.z.cell (i := 0) rfl
  have z1 := hsw5.z.cell (i := 1) rfl
  have zf := hsw5.z.free
  have zl := hsw5.z.lt
  have HLE := Lib.hid hsw5.le
  clear t0 t1 t2 hsw3 hb5 hsw5 HRK
  go_wp2_with fail
  refine bodyPost_ret (v := .tuple #[sval [] [], .int .i64 7]) (by simp [results, Try.results26, go_sem, z0, z1, str]) rfl ⟨rfl, ?_⟩
  exact (HLE.out.setCell (by simp <;> omega) _).setCell (by simp <;> omega) _
theorem rsave_any (cap : Int) (a b : List UInt8) (cl : Int) (fin : Bool) (sv : Value) (l : List T.Trk) (w : World) (hr : RdK w sv l) (hf : Fine l) (hcl : cl ≤ 9223372036854775807) (hla : a.length ≤ 20000) (hlb : b.length ≤ 20000) : Calls Try.prog 26 #[.int .i64 cap, sval a b, tval cl fin sv] w (SaveP (saveR cap a b cl fin l) w) := by
  unfold saveR nextQ
  cases hv : T.validB cap cl fin l with
  | false =>
    rw [if_pos rfl]
    exact rsave_bad cap a b cl fin sv l w hr hf hv
  | true =>
    rw [if_neg (by decide)]
    cases ho : curO cap a b with
    | false =>
      have ha : curA cap a b = false := by
        unfold curO at ho; unfold curA
        rw [Bool.or_eq_false_iff] at ho
        rw [ho.1]; rfl
      rw [if_neg (by decide : ¬ false = true), if_neg (by decide), if_neg (by rw [ha]; decide)]
      exact rsave_fff cap a b cl fin sv l w hr hf hv hcl hla hlb ho ha
    | true =>
      rw [if_pos rfl]
      by_cases hq : 2147483647 < (seqD (curS cap a b) : Int) + 1
      · rw [if_pos hq]
        exact rsave_ttf cap a b cl fin sv l w hr hf hv hcl hla hlb ho hq
      · rw [if_neg hq]
        cases ha : curA cap a b with
        | false =>
          rw [if_neg (by decide)]
          exact rsave_tff cap a b cl fin sv l w hr hf hv hcl hla hlb ho ha hq
        | true =>
          rw [if_pos rfl]
          exact rsave_tft cap a b cl fin sv l w hr hf hv hcl hla hlb ho ha hq
end Go.Proofs.Ytiioojlihapdaaa.E1
