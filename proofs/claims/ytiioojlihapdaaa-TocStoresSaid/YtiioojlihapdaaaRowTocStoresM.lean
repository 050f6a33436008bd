/- The law 'masterdisc/masterdisclaw14.TocStores' returns true for every input, and leaves its arguments as they were. -/
import Derived.Test.YtiioojlihapdaaaEnP7
import Derived.Test.YtiioojlihapdaaaTkAw
import Derived.Test.YtiioojlihapdaaaTkC
import Derived.Test.YtiioojlihapdaaaTkOpen
import Derived.Test.YtiioojlihapdaaaRows
import Derived.Test.YtiioojlihapdaaaOpen
/- Chapter 14: the law TocStores walked. -/
namespace Go.Proofs.Ytiioojlihapdaaa.E1
open Go.RowKit W10
set_option linter.unusedVariables false

/-- the boxes of the law -/
structure LwW (w0 : World) (a b : List UInt8) (cl : Int) (fin : Bool) (sv : Value) (W : World) : Prop where
  t : Bx W w0.heap.size 24 [.int .i64 cl, .bool fin, sv]
  s : Bx W (w0.heap.size + 1) 54 [.string (str a), .string (str b)]
  le : Below w0.heap.size w0 W
theorem LwW.call {w0 W W' : World} {a b : List UInt8} {cl : Int} {fin : Bool} {sv : Value} (h : LwW w0 a b cl fin sv W) (hb : Below W.heap.size W W') : LwW w0 a b cl fin sv W' := ⟨h.t.call hb, h.s.call hb, h.le.trans (hb.mono h.le.size)⟩
theorem LwW.new (w0 : World) (a b : List UInt8) (cl : Int) (fin : Bool) (sv : Value) : LwW w0 a b cl fin sv ((w0.alloc (.cells #[.int .i64 cl, .bool fin, sv] 24)).alloc (.cells #[.string (str a), .string (str b)] 54)) :=
  ⟨(Bx.new w0 _ _).alloc _, by have := Bx.new (w0.alloc (.cells #[.int .i64 cl, .bool fin, sv] 24)) 54 [.string (str a), .string (str b)]; rw [World.size_alloc] at this; exact this, ((Below.refl _ _).alloc (Nat.le_refl _) _).alloc (by simp) _⟩
theorem LwW.cells {w0 W : World} {a b : List UInt8} {cl : Int} {fin : Bool} {sv : Value} (h : LwW w0 a b cl fin sv W) : W.cell? ⟨w0.heap.size, 0, none⟩ = some (.int .i64 cl) ∧ W.cell? ⟨w0.heap.size, 1, none⟩ = some (.bool fin) ∧ W.cell? ⟨w0.heap.size, 2, none⟩ = some sv ∧
    W.cell? ⟨w0.heap.size + 1, 0, none⟩ = some (.string (str a)) ∧ W.cell? ⟨w0.heap.size + 1, 1, none⟩ = some (.string (str b)) :=
  ⟨h.t.cell (i := 0) rfl, h.t.cell (i := 1) rfl, h.t.cell (i := 2) rfl, h.s.cell (i := 0) rfl, h.s.cell (i := 1) rfl⟩
set_option maxRecDepth 100000 in
set_option maxHeartbeats 2000000 in
theorem stores_no (cap q cl : Int) (fin : Bool) (sv : Value) (l : List T.Trk) (a b : List UInt8) (w : World) (hr : RdK w sv l) (hn : l.length ≤ 9223372036854775807) (ha : a.length ≤ 9223372036854775807) (hb : b.length ≤ 9223372036854775807)
    (hno : ¬ (Few l ∧ a.length ≤ 2300 ∧ b.length ≤ 2300)) :
    Calls Try.prog 7 #[.int .i64 cap, tval cl fin sv, .int .i64 q, sval a b] w (RB true w) := by
  have hlw := LwW.new w a b cl fin sv
  have HLW := Lib.hid hlw
  have HR := Lib.hid hr
  have hs1 := str_size a
  have hs2 := str_size b
  obtain ⟨n1, hn1⟩ : ∃ n, n = a.length := ⟨_, rfl⟩
  obtain ⟨n2, hn2⟩ : ∃ n, n = b.length := ⟨_, rfl⟩
  rw [← hn1] at hs1 ha hno
  rw [← hn2] at hs2 hb hno
  have hF : ∃ f, decide (Few l) = f := ⟨_, rfl⟩
  obtain ⟨f, hf⟩ := hF
  have HF := Lib.hid hf
  have hcase : f = false ∨ (f = true ∧ 2300 < n1) ∨ (f = true ∧ n1 ≤ 2300 ∧ 2300 < n2) := by
    cases f with
    | false => exact .inl rfl
    | true =>
      have := of_decide_eq_true hf
      by_cases h1 : 2300 < n1
      · exact .inr (.inl ⟨rfl, h1⟩)
      · by_cases h2 : 2300 < n2
        · exact .inr (.inr ⟨rfl, by omega, h2⟩)
        · exact absurd ⟨this, by omega, by omega⟩ hno
  have HFW := Lib.hid (fun W hW => few_any cl fin sv l W hW hn)
  clear hno hf hn hr hlw hn1 hn2
  obtain ⟨a1, c1, rfl, _⟩ := RdS.form HR.out
  rcases hcase with h0 | ⟨h0, h1⟩ | ⟨h0, h1, h2⟩
  all_goals
    subst h0
    go_enter Try.func7, Try.ntmps7
    go_upto_region 1 with (fail)
    have hlw := HLW.out
    generalize (w.alloc (.cells #[.int .i64 cl, .bool fin, .slice a1 l.length c1] 24)).alloc (.cells #[.string (str a), .string (str b)] 54) = w1 at hlw ⊢
    go_wp2_with fail
    refine (awake_any _).mono ?_
    rintro e w2 ⟨rfl, hb2⟩
    have hlw2 := hlw.call hb2
    clear hlw hb2
    obtain ⟨t0, t1, t2, s0, s1⟩ := hlw2.cells
    have hrk := HR.out.keep hlw2.le
    go_wp2_with fail
    refine (HFW.out _ hrk).mono ?_
    rintro e w3 ⟨rfl, hb3⟩
    rw [HF.out]
    have hlw3 := hlw2.call hb3
    clear t0 t1 t2 s0 s1 hlw2 hb3 hrk
    obtain ⟨t0, t1, t2, s0, s1⟩ := hlw3.cells
    have HLE := Lib.hid hlw3.le
    clear hlw3
    go_wp2_with fail
    go_ret
    exact ⟨rfl, HLE.out⟩
set_option maxRecDepth 100000 in
set_option maxHeartbeats 8000000 in
theorem stores_yes (cap q cl : Int) (fin : Bool) (sv : Value) (l : List T.Trk) (a b : List UInt8) (w : World) (hr : RdK w sv l) (hf : Few l) (ha : a.length ≤ 2300) (hb : b.length ≤ 2300) (hcl : cl ≤ 9223372036854775807) :
    Calls Try.prog 7 #[.int .i64 cap, tval cl fin sv, .int .i64 q, sval a b] w (RB true w) := by
  have hlw := LwW.new w a b cl fin sv
  have HLW := Lib.hid hlw
  have HR := Lib.hid hr
  have hn : l.length ≤ 9223372036854775807 := by have := hf.1; omega
  have HFW := Lib.hid (fun W hW => few_any cl fin sv l W hW hn)
  have HF : Hid (decide (Few l) = true) := Lib.hid (decide_eq_true hf)
  have HE1 := Lib.hid (fun W hW => encodeT_any cap q cl fin sv l W hW (.inl hf) hcl)
  have HE2 := Lib.hid (fun W hW => rencodeT_any cap q cl fin sv l W hW (.inl hf) hcl)
  have HL1 := Lib.hid (fun W => pload_any cap a b W (by omega) (by omega))
  have HL2 := Lib.hid (fun W => rload_any cap a b W (by omega) (by omega))
  have HS1 := Lib.hid (fun W hW => psave_any cap a b cl fin sv l W hW (.inl hf) hcl (by omega) (by omega))
  have HS2 := Lib.hid (fun W hW => rsave_any cap a b cl fin sv l W hW (.inl hf) hcl (by omega) (by omega))
  have hlr : (loadR cap a b).1.l.length ≤ 9223372036854775807 := by
    unfold loadR
    split
    · simp [Res.bad]
    · split
      · simp [Res.bad]
      · have := rdE_lt (curS cap a b) 12 2 (by omega)
        simp only [tksD_length]
        unfold cntD
        omega
  generalize encodeR cap q cl fin l = RE at HE1 HE2
  generalize loadR cap a b = RL at HL1 HL2 hlr
  generalize saveR cap a b cl fin l = RS at HS1 HS2
  obtain ⟨eb, ec⟩ := RE
  obtain ⟨⟨lcl, lfin, ll, lcode⟩, lq⟩ := RL
  obtain ⟨⟨sa, sb⟩, sc⟩ := RS
  have HLR := Lib.hid hlr
  have hs1 := str_size a
  have hs2 := str_size b
  obtain ⟨n1, hn1⟩ : ∃ n, n = a.length := ⟨_, rfl⟩
  obtain ⟨n2, hn2⟩ : ∃ n, n = b.length := ⟨_, rfl⟩
  rw [← hn1] at hs1 ha
  rw [← hn2] at hs2 hb
  clear hlr hf hn hr hlw hn1 hn2 hcl
  obtain ⟨a1, c1, rfl, _⟩ := RdS.form HR.out
  go_enter Try.func7, Try.ntmps7
  go_upto_region 1 with (fail)
  have hlw := HLW.out
  generalize (w.alloc (.cells #[.int .i64 cl, .bool fin, .slice a1 l.length c1] 24)).alloc (.cells #[.string (str a), .string (str b)] 54) = w1 at hlw ⊢
  go_wp2_with fail
  refine (awake_any _).mono ?_
  rintro e w2 ⟨rfl, hb2⟩
  have hlw2 := hlw.call hb2
  clear hlw hb2
  obtain ⟨t0, t1, t2, s0, s1⟩ := hlw2.cells
  have hrk := HR.out.keep hlw2.le
  go_wp2_with fail
  refine (HFW.out _ hrk).mono ?_
  rintro e w3 ⟨rfl, hb3⟩
  rw [HF.out]
  have hlw3 := hlw2.call hb3
  clear t0 t1 t2 s0 s1 hlw2 hb3 hrk
  obtain ⟨t0, t1, t2, s0, s1⟩ := hlw3.cells
  have hrk := HR.out.keep hlw3.le
  go_wp2_with fail
  refine (HE1.out _ hrk).mono ?_
  rintro e w4 ⟨rfl, hb4⟩
  have hlw4 := hlw3.call hb4
  clear t0 t1 t2 s0 s1 hlw3 hb4 hrk
  obtain ⟨t0, t1, t2, s0, s1⟩ := hlw4.cells
  have hrk := HR.out.keep hlw4.le
  simp only
  go_wp2_with fail
  refine (HE2.out _ hrk).mono ?_
  rintro e w5 ⟨rfl, hb5⟩
  have hlw5 := hlw4.call hb5
  clear t0 t1 t2 s0 s1 hlw4 hb5 hrk
  obtain ⟨t0, t1, t2, s0, s1⟩ := hlw5.cells
  simp only
  go_wp2_with fail
  refine (HL1.out _).mono ?_
  rintro e w6 ⟨v1, rfl, hr1, hb6⟩
  obtain ⟨b1, d1, rfl, _⟩ := RdS.form hr1
  simp only at hr1 ⊢
  have hbe := hb6.trans (((Below.refl w6.heap.size w6).alloc (Nat.le_refl _) (.cells #[.int .i64 lcl, .bool lfin, .slice b1 ll.length d1] 24)).mono hb6.size)
  have hlw6 := hlw5.call hbe
  have hB1 := Bx.new w6 24 [.int .i64 lcl, .bool lfin, .slice b1 ll.length d1]
  have hr1' := hr1.keep ((Below.refl w6.heap.size w6).alloc (Nat.le_refl _) (.cells #[.int .i64 lcl, .bool lfin, .slice b1 ll.length d1] 24))
  clear t0 t1 t2 s0 s1 hlw5 hb6 hbe hr1
  go_upto_region 8 with (fail)
  obtain ⟨g1, hg1⟩ : ∃ g1, g1 = w6.heap.size := ⟨_, rfl⟩
  rw [← hg1] at hB1
  simp only [← hg1]
  generalize w6.alloc (.cells #[.int .i64 lcl, .bool lfin, .slice b1 ll.length d1] 24) = w7 at hlw6 hB1 hr1' ⊢
  clear hg1
  obtain ⟨t0, t1, t2, s0, s1⟩ := hlw6.cells
  go_wp2_with fail
  refine (HL2.out _).mono ?_
  rintro e w8 ⟨v2, rfl, hr2, hb8⟩
  obtain ⟨b2, d2, rfl, _⟩ := RdS.form hr2
  simp only at hr2 ⊢
  have hbe := hb8.trans (((Below.refl w8.heap.size w8).alloc (Nat.le_refl _) (.cells #[.int .i64 lcl, .bool lfin, .slice b2 ll.length d2] 24)).mono hb8.size)
  have hlw8 := hlw6.call hbe
  have hB18 := hB1.call hbe
  have hr18 := hr1'.keep hbe
  have hB2 := Bx.new w8 24 [.int .i64 lcl, .bool lfin, .slice b2 ll.length d2]
  have hr2' := hr2.keep ((Below.refl w8.heap.size w8).alloc (Nat.le_refl _) (.cells #[.int .i64 lcl, .bool lfin, .slice b2 ll.length d2] 24))
  clear t0 t1 t2 s0 s1 hlw6 hb8 hbe hr2 hB1 hr1'
  go_upto_region 9 with (fail)
  obtain ⟨g2, hg2⟩ : ∃ g2, g2 = w8.heap.size := ⟨_, rfl⟩
  rw [← hg2] at hB2
  simp only [← hg2]
  generalize w8.alloc (.cells #[.int .i64 lcl, .bool lfin, .slice b2 ll.length d2] 24) = w9 at hlw8 hB18 hr18 hB2 hr2' ⊢
  clear hg2
  obtain ⟨t0, t1, t2, s0, s1⟩ := hlw8.cells
  have hrk := HR.out.keep hlw8.le
  go_wp2_with fail
  refine (HS1.out _ hrk).mono ?_
  rintro e w10 ⟨rfl, hb10⟩
  simp only
  have hbe := hb10.trans (((Below.refl w10.heap.size w10).alloc (Nat.le_refl _) (.cells #[.string (str sa), .string (str sb)] 54)).mono hb10.size)
  have hlw10 := hlw8.call hbe
  have hB1a := hB18.call hbe
  have hr1a := hr18.keep hbe
  have hB2a := hB2.call hbe
  have hr2a := hr2'.keep hbe
  have hU := Bx.new w10 54 [.string (str sa), .string (str sb)]
  clear t0 t1 t2 s0 s1 hlw8 hb10 hbe hB18 hr18 hB2 hr2' hrk
  go_upto_region 10 with (fail)
  obtain ⟨g3, hg3⟩ : ∃ g3, g3 = w10.heap.size := ⟨_, rfl⟩
  rw [← hg3] at hU
  simp only [← hg3]
  generalize w10.alloc (.cells #[.string (str sa), .string (str sb)] 54) = w11 at hlw10 hB1a hr1a hB2a hr2a hU ⊢
  clear hg3
  obtain ⟨t0, t1, t2, s0, s1⟩ := hlw10.cells
  have hrk := HR.out.keep hlw10.le
  go_wp2_with fail
  refine (HS2.out _ hrk).mono ?_
  rintro e w12 ⟨rfl, hb12⟩
  simp only
  have hbe := hb12.trans (((Below.refl w12.heap.size w12).alloc (Nat.le_refl _) (.cells #[.string (str sa), .string (str sb)] 54)).mono hb12.size)
  have hlw12 := hlw10.call hbe
  have hB1b := hB1a.call hbe
  have hr1b := hr1a.keep hbe
  have hB2b := hB2a.call hbe
  have hr2b := hr2a.keep hbe
  have hUb := hU.call hbe
  have hV := Bx.new w12 54 [.string (str sa), .string (str sb)]
  clear t0 t1 t2 s0 s1 hlw10 hb12 hbe hB1a hr1a hB2a hr2a hU hrk
  go_upto_region 11 with (fail)
  obtain ⟨g4, hg4⟩ : ∃ g4, g4 = w12.heap.size := ⟨_, rfl⟩
  rw [← hg4] at hV
  simp only [← hg4]
  generalize w12.alloc (.cells #[.string (str sa), .string (str sb)] 54) = w13 at hlw12 hB1b hr1b hB2b hr2b hUb hV ⊢
  clear hg4
  have HSA := Lib.hid (same_any lcl lfin _ _ ll w13 hr1b hr2b HLR.out)
  have x0 := hB1b.cell (i := 0) rfl
  have x1 := hB1b.cell (i := 1) rfl
  have x2 := hB1b.cell (i := 2) rfl
  have y0 := hB2b.cell (i := 0) rfl
  have y1 := hB2b.cell (i := 1) rfl
  have y2 := hB2b.cell (i := 2) rfl
  have HUb := Lib.hid hUb
  have HV := Lib.hid hV
  have HLE := Lib.hid hlw12.le
  clear hB1b hr1b hB2b hr2b hUb hV hlw12
  go_wp2_with fail
  refine HSA.out.mono ?_
  rintro e w14 ⟨rfl, hb14⟩
  have hU := HUb.out.call hb14
  have hV := HV.out.call hb14
  have u0 := hU.cell (i := 0) rfl
  have u1 := hU.cell (i := 1) rfl
  have z0 := hV.cell (i := 0) rfl
  have z1 := hV.cell (i := 1) rfl
  clear x0 x1 x2 y0 y1 y2 hU hV
  go_wp2_with fail
  go_ret
  exact ⟨retB (by simp), HLE.out.trans (hb14.mono HLE.out.size)⟩
end Go.Proofs.Ytiioojlihapdaaa.E1
/- Chapter 14: the law TocStores. -/
namespace Go.Proofs.Ytiioojlihapdaaa
open Go.ChangeShapes Go.WideShapes Go.RowKit Go.Deep Go.Joins
set_option linter.unusedVariables false

section
variable {H : Type} {enc : TypeId × Value → H} {w : World} {base b0 : Nat} {sp : Nat → Bool} {held : Bool}
/-- the reading of a field that is a string -/
theorem leaf_str {P : Program} {t : TypeId} {n : Nat} {cs : List Value} {y : Option (DataW H × List MemPlace)} (ht : P.underlying t = some .string) (h : DataW.trod enc P w base sp held n t cs = y) (hy : y ≠ none) : ∃ a : List UInt8, cs = [.string (str a)] ∧ a.length ≤ 9223372036854775807 := by
  cases y with
  | none => exact (hy rfl).elim
  | some y =>
    obtain ⟨s, h1, _, h2⟩ := DataW.trod_string ht h
    refine ⟨s.data.toList, by rw [← str_list s]; exact h1, ?_⟩
    have : (str s.data.toList).size = s.data.toList.length := str_size _
    rw [← str_list s] at this
    unfold maxLen at h2
    omega
structure Sl where
  a : List UInt8
  b : List UInt8
def CameSlots (w : World) (v : Value) (x : Sl) : Prop := v = E1.sval x.a x.b ∧ x.a.length ≤ 9223372036854775807 ∧ x.b.length ≤ 9223372036854775807
set_option maxRecDepth 100000 in
theorem open_cslots {v : Value} {d : DataW H} {ps : List MemPlace} {r : Reach} (hval : Value.okWide Try.prog w r b0 54 v) (hd : DataW.Trod enc Try.prog w base sp held 54 v d ps) : ∃ x, CameSlots w v x := by
  obtain ⟨v0, v1, y0, y1, n, rfl, _, _, h0, h1⟩ := open_agg2 Try.underlying54 (by kernel_rfl) (by kernel_rfl) hval hd
  obtain ⟨a, e0, w0⟩ := leaf_str Try.underlying9 h0 (by simp)
  obtain ⟨b, e1, w1⟩ := leaf_str Try.underlying9 h1 (by simp)
  simp only [List.cons.injEq, and_true] at e0 e1
  subst e0 e1
  exact ⟨⟨a, b⟩, rfl, w0, w1⟩
end
/-- the law -/
theorem stores_law (w : World) (cap : Int) (hc : (Lit.int .i64 cap).wf = true) (v1 : Value) (t : Tb) (h1 : CameToc w v1 t) (q : Int) (hq : (Lit.int .i64 q).wf = true) (v3 : Value) (x : Sl) (h3 : CameSlots w v3 x) :
    Calls Try.prog 7 #[.int .i64 cap, v1, .int .i64 q, v3] w fun e w' => e = .returned (.bool true) ∧ Below w.heap.size w w' := by
  obtain ⟨rfl, hcl, hr, hn, _⟩ := h1
  obtain ⟨rfl, ha, hb⟩ := h3
  by_cases hf : Few t.l ∧ x.a.length ≤ 2300 ∧ x.b.length ≤ 2300
  · exact E1.stores_yes cap q t.cl t.fin t.sv t.l x.a x.b w hr hf.1 hf.2.1 hf.2.2 hcl.2
  · exact E1.stores_no cap q t.cl t.fin t.sv t.l x.a x.b w hr hn ha hb hf
end Go.Proofs.Ytiioojlihapdaaa
namespace Go.Proofs.Ytiioojlihapdaaa.tocStores
open Go.ChangeShapes Go.WideShapes Go.ChangeAt Go.RowKit
open Go.ChangeMaps (open_string shut_string)
set_option linter.unusedVariables false
theorem own : ownKnob Try.prog.godebug = none := by kernel_rfl
theorem laidOut : laidOutB Try.prog = true := by kernel_rfl

set_option maxRecDepth 100000 in
set_option maxHeartbeats 1000000 in
theorem lifted (os : Os) (started : os.Started) (H : Type) (enc : TypeId × Value → H) :
    ReturnsInHanded {} Try.checked os 7 .any (Rows.tocStoresSpec.pre6 enc Try.prog Try.f7 Rows.tocStoresRow.domain false) (Rows.tocStoresSpec.post enc Try.prog Try.f7 false true false false) := by
  refine returnsInHanded_of_change (C := Try.checked) own started (by kernel_rfl) Try.func7
    (ChangeSpec.witness6 (enc := enc) (C := Try.checked) false ⟨#[], #[.int .i64 0, .agg #[.int .i64 0, .bool false, .slice none 0 0], .int .i64 0, .agg #[.string ByteArray.empty, .string ByteArray.empty]], []⟩ 8 (by kernel_rfl) (by kernel_rfl) (by kernel_rfl) (by kernel_rfl)) ?_
  intro W base args ds gs before hval0 hW hcnd _
  have hval : ∀ (j : Nat) t v, Try.f7.params[j]? = some t → args[j]? = some v → Value.okWide Try.prog W .any base t v := hval0
  have hW' := hW
  obtain ⟨p, q, hA0, hV, rfl, hfz, hnd⟩ := hW
  have hA : DataW.TrodAll enc Try.prog W 0 (fun _ => true) true Try.f7.params.toList args.toList ds p := hA0
  rw [Try.params7] at hA hval
  obtain ⟨v0, vs0, d0, ds0, p0, q0, hargs, rfl, rfl, h0, r0⟩ := trodAll_cons hA
  obtain ⟨v1, vs1, d1, ds1, p1, q1, rfl, rfl, rfl, h1, r1⟩ := trodAll_cons r0
  obtain ⟨v2, vs2, d2, ds2, p2, q2, rfl, rfl, rfl, h2, r2⟩ := trodAll_cons r1
  obtain ⟨v3, vs3, d3, ds3, p3, q3, rfl, rfl, rfl, h3, r3⟩ := trodAll_cons r2
  obtain ⟨rfl, rfl, rfl⟩ := trodAll_nil r3
  obtain rfl : args = #[v0, v1, v2, v3] := by cases args; simp_all
  obtain ⟨rfl, rfl⟩ := trodVars_none hV
  have k0 := h0
  have lt0 : ∀ x ∈ p0, x.block < W.heap.size := by obtain ⟨m, hm⟩ := k0; exact DataW.trod_lt m _ _ _ hm
  obtain ⟨a0, rfl, _, _, w0⟩ := open_int Try.underlying3 (hval 0 3 v0 rfl rfl) h0
  have k1 := h1
  have lt1 : ∀ x ∈ p1, x.block < W.heap.size := by obtain ⟨m, hm⟩ := k1; exact DataW.trod_lt m _ _ _ hm
  obtain ⟨a1, w1⟩ := open_ctoc (hval 1 24 v1 rfl rfl) h1
  have k2 := h2
  have lt2 : ∀ x ∈ p2, x.block < W.heap.size := by obtain ⟨m, hm⟩ := k2; exact DataW.trod_lt m _ _ _ hm
  obtain ⟨a2, rfl, _, _, w2⟩ := open_int Try.underlying3 (hval 2 3 v2 rfl rfl) h2
  have k3 := h3
  have lt3 : ∀ x ∈ p3, x.block < W.heap.size := by obtain ⟨m, hm⟩ := k3; exact DataW.trod_lt m _ _ _ hm
  obtain ⟨a3, w3⟩ := open_cslots (hval 3 54 v3 rfl rfl) h3
  refine (stores_law W a0 w0 v1 a1 w1 a2 w2 v3 a3 w3).mono fun e W' ⟨he, bel⟩ => ?_
  subst he
  exact ⟨_, rfl, _, _, _, [], _, [], hW', trodAll_mk1 (shut_bool Try.underlying4 _), (trodAll_cons_mk (Below.trod laidOut (by kernel_rfl) (of_decide_eq_true (by kernel_rfl)) k0 bel lt0) (trodAll_cons_mk (Below.trod laidOut (by kernel_rfl) (of_decide_eq_true (by kernel_rfl)) k1 bel lt1) (trodAll_cons_mk (Below.trod laidOut (by kernel_rfl) (of_decide_eq_true (by kernel_rfl)) k2 bel lt2) (trodAll_cons_mk (Below.trod laidOut (by kernel_rfl) (of_decide_eq_true (by kernel_rfl)) k3 bel lt3) trodAll_mk0)))), rfl, bel.frame _, fun h => by cases h⟩

theorem over : Rows.tocStoresRow.holds Try.pinned (OpenSpec.ofChange Rows.tocStoresSpec) :=
  OpenClaim.holds_of_wide 7 Try.f7 rfl rfl rfl rfl rfl rfl rfl ⟨rfl, rfl, rfl, rfl, rfl⟩ rfl rfl rfl rfl rfl (by kernel_rfl) Try.func7 (by kernel_rfl)
    (of_decide_eq_true (by kernel_rfl)) (by unfold Func.isWrapper; first | (rw [if_pos (by decide +kernel)]; kernel_rfl) | (rw [if_neg (by decide +kernel)]; exact ⟨rfl, rfl⟩))
    (fun os started H enc _ => lifted os started H enc)

/-- The statement. -/
theorem proved : Rows.TocStoresSaid := over
end Go.Proofs.Ytiioojlihapdaaa.tocStores
