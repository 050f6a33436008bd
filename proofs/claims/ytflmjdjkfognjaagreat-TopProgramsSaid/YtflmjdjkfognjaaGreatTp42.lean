/- Shaken out of XTkI -/
import Derived.Test.YtflmjdjkfognjaaGreatTp40
import Derived.Test.YtflmjdjkfognjaaGreatTp41
import Derived.Deep.Cut
import Derived.Deep.CutBlock
import Derived.Deep.DeepCutAuto
import Derived.Outline
namespace Go.Proofs.YtflmjdjkfognjaaGreat
open Go.RowKit
set_option linter.unusedVariables false
/-- the world behind 'rules' -/
def rulesW (cap cl : Int) (fin : Bool) (sv : Value) (w : World) : World :=
  ((w.alloc (.cells #[.int .i64 cap] 3)).alloc (.cells #[.int .i64 cl, .bool fin, sv] 24)).alloc
    (.cells #[.func (.func 99) #[] #[], .func (.func 100) #[] #[], .func (.func 101) #[] #[.pointer (some ⟨w.heap.size + 1, 0, none⟩)],
      .func (.func 102) #[] #[.pointer (some ⟨w.heap.size + 1, 0, none⟩)], .func (.func 103) #[] #[], .func (.func 105) #[] #[.pointer (some ⟨w.heap.size, 0, none⟩)],
      .func (.func 106) #[] #[], .func (.func 107) #[] #[]] 109)
theorem rules_any (cap cl : Int) (fin : Bool) (sv : Value) (w : World) :
    Calls Tryz.prog 36 #[.int .i64 cap, .agg #[.int .i64 cl, .bool fin, sv]] w fun e w' => e = .returned (.slice (some ⟨w.heap.size + 1 + 1, 0, none⟩) 8 8) ∧ w' = rulesW cap cl fin sv w := by
  go_enter Tryz.func36, Tryz.ntmps36
  go_wp2
  go_ret
  exact ⟨rfl, rfl⟩
theorem rulesW_size (cap cl : Int) (fin : Bool) (sv : Value) (w : World) : (rulesW cap cl fin sv w).heap.size = w.heap.size + 3 := by simp [rulesW]
theorem rulesW_below {B : Nat} (cap cl : Int) (fin : Bool) (sv : Value) (w : World) (hB : B ≤ w.heap.size) : Below B w (rulesW cap cl fin sv w) :=
  (((Below.refl _ _).alloc hB _).alloc (by simp; omega) _).alloc (by simp; omega) _
theorem rulesW_0 (cap cl : Int) (fin : Bool) (sv : Value) (w : World) : (rulesW cap cl fin sv w).cell? ⟨w.heap.size, 0, none⟩ = some (.int .i64 cap) := by simp [rulesW, go_sem]
theorem rulesW_1 (cap cl : Int) (fin : Bool) (sv : Value) (w : World) : BoxT (rulesW cap cl fin sv w) (w.heap.size + 1) cl fin sv := by
  unfold BoxT; refine ⟨?_, ?_, ?_⟩ <;> simp [rulesW, go_sem]
theorem rulesW_2 (cap cl : Int) (fin : Bool) (sv : Value) (w : World) (j : Nat) : (rulesW cap cl fin sv w).cell? ⟨w.heap.size + 1 + 1, j, none⟩ =
    (#[Value.func (.func 99) #[] #[], .func (.func 100) #[] #[], .func (.func 101) #[] #[.pointer (some ⟨w.heap.size + 1, 0, none⟩)],
      .func (.func 102) #[] #[.pointer (some ⟨w.heap.size + 1, 0, none⟩)], .func (.func 103) #[] #[], .func (.func 105) #[] #[.pointer (some ⟨w.heap.size, 0, none⟩)],
      .func (.func 106) #[] #[], .func (.func 107) #[] #[]])[j]? := by simp [rulesW, go_sem]
theorem Tryz.sizeRule : (Tryz.prog.info? 109).map (·.size) = some 1 := by kernel_rfl
/-- the rule 'r' of the track 'i' -/
def ruleB (cap cl : Int) (fin : Bool) (l : List T.Trk) (i r : Nat) : Bool :=
  match r with
  | 0 => decide ((T.tr l i).num = i + 1)
  | 1 => R2 i (T.tr l i).ses (T.tr l (i - 1)).ses
  | 2 => decide ((T.tr l i).ses ≤ cl + 1 ∧ (T.tr l i).ses ≤ 16 ∧ (cl < (T.tr l i).ses ∨ (T.tr l i).sta = 2))
  | 3 => decide (fin = true → (T.tr l i).ses ≤ cl)
  | 4 => decide ((T.tr l i).st = if i = 0 then 0 else if (T.tr l (i - 1)).ses < (T.tr l i).ses then (T.tr l (i - 1)).st + (T.tr l (i - 1)).len + 16 else (T.tr l (i - 1)).st + (T.tr l (i - 1)).len)
  | 5 => decide (1 ≤ (T.tr l i).len ∧ (T.tr l i).len ≤ cap ∧ (T.tr l i).st ≤ cap - (T.tr l i).len)
  | 6 => decide ((T.tr l i).pk = 0 ∨ 1 ≤ (T.tr l i).pk ∧ (T.tr l i).pk ≤ 1024 ∧ (T.tr l i).len.tmod (T.tr l i).pk = 0 ∧ ((T.tr l i).nx - (T.tr l i).st).tmod (T.tr l i).pk = 0)
  | _ => R8 (T.tr l i)
theorem rules_ok (cap cl : Int) (fin : Bool) (l : List T.Trk) (i : Nat) : (∀ r, r < 8 → ruleB cap cl fin l i r = true) ↔ T.okI cap cl fin l i := by
  constructor
  · intro h
    have h0 := h 0 (by omega); have h1 := h 1 (by omega); have h2 := h 2 (by omega); have h3 := h 3 (by omega)
    have h4 := h 4 (by omega); have h5 := h 5 (by omega); have h6 := h 6 (by omega); have h7 := h 7 (by omega)
    simp only [ruleB, R2, R8, decide_eq_true_eq] at h0 h1 h2 h3 h4 h5 h6 h7
    refine ⟨h0, h1.1, fun h => ?_, h2.1, h2.2.1, h2.2.2, h3, ?_, h5.1, h5.2.1, h5.2.2, h6, h7.1, h7.2⟩
    · have := h1.2 h; unfold T.sB; rw [if_neg (by omega)]; exact this
    · rw [h4]
      by_cases e : i = 0
      · rw [if_pos e, if_pos e]
      · rw [if_neg e, if_neg e]; unfold T.sB T.eB; rw [if_neg e, if_neg e]
  · rintro ⟨g1, g2, g3, g4, g5, g6, g7, g8, g9, g10, g11, g12, g13, g14⟩ r hr
    have hs : 0 < i → T.sB l i = (T.tr l (i - 1)).ses := fun h => by unfold T.sB; rw [if_neg (by omega)]
    have he : 0 < i → T.eB l i = (T.tr l (i - 1)).st + (T.tr l (i - 1)).len := fun h => by unfold T.eB; rw [if_neg (by omega)]
    match r, hr with
    | 0, _ => exact decide_eq_true g1
    | 1, _ => exact decide_eq_true ⟨g2, fun h => by have := g3 h; rwa [hs h] at this⟩
    | 2, _ => exact decide_eq_true ⟨g4, g5, g6⟩
    | 3, _ => exact decide_eq_true g7
    | 4, _ =>
      refine decide_eq_true ?_
      rw [g8]
      by_cases e : i = 0
      · rw [if_pos e, if_pos e]
      · rw [if_neg e, if_neg e, hs (by omega), he (by omega)]
    | 5, _ => exact decide_eq_true ⟨g9, g10, g11⟩
    | 6, _ => exact decide_eq_true g12
    | 7, _ => exact decide_eq_true ⟨g13, g14⟩
set_option maxRecDepth 100000 in
set_option maxHeartbeats 1000000 in
theorem valid_bad (cap cl : Int) (fin : Bool) (sv : Value) (l : List T.Trk) (w : World) (hr : RdK w sv l) (hb : ¬ (1 ≤ cap ∧ cap ≤ 449849 ∧ l.length ≤ 99 ∧ 0 ≤ cl ∧ cl ≤ 16 ∧ ¬ (fin = true ∧ cl = 0))) (hlen : l.length ≤ 281474976710656) :
    Calls Tryz.prog 7 #[.int .i64 cap, .agg #[.int .i64 cl, .bool fin, sv]] w (ValPost cap cl fin l w) := by
  have hF : T.validB cap cl fin l = false := by
    rw [T.validB_false, ← T.valid_iff]
    exact fun h => hb ⟨h.1, h.2.1, h.2.2.1, h.2.2.2.1, h.2.2.2.2.1, h.2.2.2.2.2.1⟩
  have HF := Lib.hid hF
  clear hF
  obtain ⟨a, c, rfl, hac⟩ := hr.form
  cases fin
  all_goals
    go_enter Tryz.func7, Tryz.ntmps7
    simp only [Bool.false_eq_true, false_and, not_false_eq_true, and_true, true_and] at hb
    go_wp2
    all_goals first
      | (go_ret
         exact ⟨retB HF.out.symm, (Below.refl _ _).alloc (Nat.le_refl _) _⟩)
      | (exfalso
         try simp only [beq_eq_false_iff_ne, ne_eq] at *
         omega)
theorem flipW' {P : Program} {f : FuncId} {args : Array Value} {w wG : World} {v : Ending} (h : Calls P f args w fun e w' => e = v ∧ w' = wG) : Calls P f args w fun e w' => e = v ∧ wG = w' :=
  h.mono fun _ _ ⟨a, b⟩ => ⟨a, b.symm⟩
/-- what the rules need of a world -/
def Ctx (cap cl : Int) (fin : Bool) (sv : Value) (l : List T.Trk) (i : Nat) (v' : Value) (g : Nat) (W : World) : Prop :=
  RdS W 7 v' i (fun k => tcs (T.tr l k)) ∧ BoxT W (g + 1) cl fin sv ∧ W.cell? ⟨g, 0, none⟩ = some (.int .i64 cap) ∧ g + 1 < W.heap.size
section
variable {cap cl : Int} {fin : Bool} {sv : Value} {l : List T.Trk} {i : Nat} {v' : Value} {g : Nat}
theorem Ctx.keep {W W' : World} (h : Ctx cap cl fin sv l i v' g W) (hb : Below W.heap.size W W') : Ctx cap cl fin sv l i v' g W' := by
  obtain ⟨h1, ⟨h2, h3, h4⟩, h5, h6⟩ := h
  refine ⟨h1.keep hb, ⟨?_, ?_, ?_⟩, ?_, by have := hb.size; omega⟩
  · rw [hb.cell (p := ⟨g + 1, 0, none⟩) h6]; exact h2
  · rw [hb.cell (p := ⟨g + 1, 1, none⟩) h6]; exact h3
  · rw [hb.cell (p := ⟨g + 1, 2, none⟩) h6]; exact h4
  · rw [hb.cell (p := ⟨g, 0, none⟩) (by simp only; omega)]; exact h5
theorem call0 (hh : i ≤ 110 ∧ (∀ m, m < i → smT (T.tr l m)) ∧ smT (T.tr l i) ∧ 1 ≤ cap ∧ cap ≤ 449849 ∧ 0 ≤ cl ∧ cl ≤ 16) (W : World) (h : Ctx cap cl fin sv l i v' g W) : Calls Tryz.prog 99 #[v', tagg (T.tr l i)] W (RB (ruleB cap cl fin l i 0) W) := by
  obtain ⟨hi110, hsmi, hsx, h1c, h2c, h0c, h5⟩ := hh
  obtain ⟨h1, h2, h3, h4⟩ := h
  exact rule1_any v' i _ _ W h1 hi110
theorem call1 (hh : i ≤ 110 ∧ (∀ m, m < i → smT (T.tr l m)) ∧ smT (T.tr l i) ∧ 1 ≤ cap ∧ cap ≤ 449849 ∧ 0 ≤ cl ∧ cl ≤ 16) (W : World) (h : Ctx cap cl fin sv l i v' g W) : Calls Tryz.prog 100 #[v', tagg (T.tr l i)] W (RB (ruleB cap cl fin l i 1) W) := by
  obtain ⟨hi110, hsmi, hsx, h1c, h2c, h0c, h5⟩ := hh
  obtain ⟨h1, h2, h3, h4⟩ := h
  exact rule2_any v' i l _ W h1 hi110 hsmi hsx.2.1
theorem call2 (hh : i ≤ 110 ∧ (∀ m, m < i → smT (T.tr l m)) ∧ smT (T.tr l i) ∧ 1 ≤ cap ∧ cap ≤ 449849 ∧ 0 ≤ cl ∧ cl ≤ 16) (W : World) (h : Ctx cap cl fin sv l i v' g W) : Calls Tryz.prog 101 #[v', tagg (T.tr l i), .pointer (some ⟨g + 1, 0, none⟩)] W (RB (ruleB cap cl fin l i 2) W) := by
  obtain ⟨hi110, hsmi, hsx, h1c, h2c, h0c, h5⟩ := hh
  obtain ⟨h1, h2, h3, h4⟩ := h
  exact rule3_any v' _ (g + 1) cl fin _ W h2 h4 (by omega) h5
theorem call3 (hh : i ≤ 110 ∧ (∀ m, m < i → smT (T.tr l m)) ∧ smT (T.tr l i) ∧ 1 ≤ cap ∧ cap ≤ 449849 ∧ 0 ≤ cl ∧ cl ≤ 16) (W : World) (h : Ctx cap cl fin sv l i v' g W) : Calls Tryz.prog 102 #[v', tagg (T.tr l i), .pointer (some ⟨g + 1, 0, none⟩)] W (RB (ruleB cap cl fin l i 3) W) := by
  obtain ⟨hi110, hsmi, hsx, h1c, h2c, h0c, h5⟩ := hh
  obtain ⟨h1, h2, h3, h4⟩ := h
  exact rule4_any v' _ (g + 1) cl fin _ W h2 h4
theorem call4 (hh : i ≤ 110 ∧ (∀ m, m < i → smT (T.tr l m)) ∧ smT (T.tr l i) ∧ 1 ≤ cap ∧ cap ≤ 449849 ∧ 0 ≤ cl ∧ cl ≤ 16) (W : World) (h : Ctx cap cl fin sv l i v' g W) : Calls Tryz.prog 103 #[v', tagg (T.tr l i)] W (RB (ruleB cap cl fin l i 4) W) := by
  obtain ⟨hi110, hsmi, hsx, h1c, h2c, h0c, h5⟩ := hh
  obtain ⟨h1, h2, h3, h4⟩ := h
  exact rule5_any v' i l _ W h1 hi110 hsmi hsx.2.1
theorem call5 (hh : i ≤ 110 ∧ (∀ m, m < i → smT (T.tr l m)) ∧ smT (T.tr l i) ∧ 1 ≤ cap ∧ cap ≤ 449849 ∧ 0 ≤ cl ∧ cl ≤ 16) (W : World) (h : Ctx cap cl fin sv l i v' g W) : Calls Tryz.prog 105 #[v', tagg (T.tr l i), .pointer (some ⟨g, 0, none⟩)] W (RB (ruleB cap cl fin l i 5) W) := by
  obtain ⟨hi110, hsmi, hsx, h1c, h2c, h0c, h5⟩ := hh
  obtain ⟨h1, h2, h3, h4⟩ := h
  exact rule6_any v' _ g cap W h3 (by omega) h1c h2c hsx.2.2.1 hsx.2.2.2.1
theorem call6 (hh : i ≤ 110 ∧ (∀ m, m < i → smT (T.tr l m)) ∧ smT (T.tr l i) ∧ 1 ≤ cap ∧ cap ≤ 449849 ∧ 0 ≤ cl ∧ cl ≤ 16) (W : World) (h : Ctx cap cl fin sv l i v' g W) : Calls Tryz.prog 106 #[v', tagg (T.tr l i)] W (RB (ruleB cap cl fin l i 6) W) := by
  obtain ⟨hi110, hsmi, hsx, h1c, h2c, h0c, h5⟩ := hh
  obtain ⟨h1, h2, h3, h4⟩ := h
  exact rule7_any v' _ W hsx
theorem call7 (hh : i ≤ 110 ∧ (∀ m, m < i → smT (T.tr l m)) ∧ smT (T.tr l i) ∧ 1 ≤ cap ∧ cap ≤ 449849 ∧ 0 ≤ cl ∧ cl ≤ 16) (W : World) (h : Ctx cap cl fin sv l i v' g W) : Calls Tryz.prog 107 #[v', tagg (T.tr l i)] W (RB (ruleB cap cl fin l i 7) W) := by
  obtain ⟨hi110, hsmi, hsx, h1c, h2c, h0c, h5⟩ := hh
  obtain ⟨h1, h2, h3, h4⟩ := h
  exact rule8_any v' _ W hsx.2.2.1 hsx.2.2.2.1
end
set_option maxRecDepth 100000 in
set_option maxHeartbeats 8000000 in
theorem valid_ok (cap cl : Int) (fin : Bool) (sv : Value) (l : List T.Trk) (w : World) (hr : RdK w sv l) (hf : Few l) (h1 : 1 ≤ cap) (h2 : cap ≤ 449849) (h3 : l.length ≤ 99) (h4 : 0 ≤ cl) (h5 : cl ≤ 16) (h6 : ¬ (fin = true ∧ cl = 0)) :
    Calls Tryz.prog 7 #[.int .i64 cap, .agg #[.int .i64 cl, .bool fin, sv]] w (ValPost cap cl fin l w) := by
  have Hr := Lib.hid hr
  obtain ⟨a, c, b, off, rfl, hac, hcell⟩ := hr
  have HC := Lib.hid hcell; clear hcell
  have HFw := Lib.hid hf; clear hf
  have H6 := Lib.hid h6
  go_enter Tryz.func7, Tryz.ntmps7
  go_upto_region 1 with (fail)
  go_cut [39] (fun v wx => v = .bool false ∧ wx = w.alloc (.cells #[.int .i64 cl, .bool fin, .slice a l.length c] 24))
  case first =>
    cases fin
    · clear h6
      go_wp2_with fail
      all_goals (go_meet; case rel => exact ⟨congrArg Value.bool (by simp only [Bool.or_eq_false_iff, decide_eq_false_iff_not]; omega), rfl⟩)
    · have hz : (cl == 0) = false := by rw [beq_eq_false_iff_ne]; exact fun h => h6 ⟨rfl, h⟩
      clear h6
      go_wp2_with fail
      all_goals (go_meet; case rel => exact ⟨congrArg Value.bool (by simp only [Bool.or_eq_false_iff, decide_eq_false_iff_not]; omega), rfl⟩)
  clear h6
  obtain ⟨rfl, rfl⟩ := hcut
  go_wp2_with fail
  go_loopw [43] (fun vi wr => ∃ (i : Nat), i ≤ l.length ∧ vi = .int .i64 i ∧ Hid (∀ m, m < i → T.okI cap cl fin l m) ∧
      Below (w.heap.size + 1) (w.alloc (.cells #[.int .i64 cl, .bool fin, .slice a l.length c] 24)) wr) (fun vi _ => l.length - (intOf vi).toNat)
  case atStart => exact ⟨0, by omega, rfl, Lib.hid fun i hi => by omega, by simpa using Below.refl _ _⟩
  case round =>
    obtain ⟨i, hi, rfl, HO, hb⟩ := hrel
    obtain ⟨wo, rfl⟩ : ∃ wo : World, wo = wr := ⟨_, rfl⟩
    have ht0 : wo.cell? ⟨w.heap.size, 0, none⟩ = some (.int .i64 cl) := (hb.cell (p := ⟨w.heap.size, 0, none⟩) (by simp)).trans (by simp [go_sem])
    have ht1 : wo.cell? ⟨w.heap.size, 1, none⟩ = some (.bool fin) := (hb.cell (p := ⟨w.heap.size, 1, none⟩) (by simp)).trans (by simp [go_sem])
    have ht2 : wo.cell? ⟨w.heap.size, 2, none⟩ = some (.slice a l.length c) := (hb.cell (p := ⟨w.heap.size, 2, none⟩) (by simp)).trans (by simp [go_sem])
    have hsz : w.heap.size < wo.heap.size := by have := hb.size; simp at this; omega
    have hb0 : Below w.heap.size w wo := ((Below.refl _ _).alloc (Nat.le_refl _) _).trans (hb.mono (by omega))
    by_cases hlt : i < l.length
    · obtain ⟨ha, hrange⟩ := HC.out i hlt
      have HFew := Lib.hid (p := i ≤ 110 ∧ (∀ m, m < i → smT (T.tr l m)) ∧ smT (T.tr l i) ∧ 1 ≤ cap ∧ cap ≤ 449849 ∧ 0 ≤ cl ∧ cl ≤ 16) ⟨by omega, fun m hm => HFw.out.2 m (by omega), HFw.out.2 i hlt, h1, h2, h4, h5⟩
      obtain ⟨v', hrv, hcut⟩ := run_cut3 Tryz.underlying22 Tryz.sizeTrack (Hr.out.keep hb0) i hi
      have hcut := fun w' => hcut i i w' rfl rfl
      obtain ⟨x, hx⟩ : ∃ x, x = T.tr l i := ⟨_, rfl⟩
      rw [← hx] at hrange
      have Hx := Lib.hid hx; clear hx
      have hix := fun w' => run_idxS Tryz.underlying22 Tryz.sizeTrack (cap := c) ha hlt _ rfl w'
      have hrg : wo.rangeAt b (off + i * 7) (tcs x) := fun j u hu => (hb.cell (p := ⟨b, off + i * 7 + j, none⟩) (by
          have := World.block_lt_of_cell? w _ (hrange j u hu); simp only at this ⊢; omega)).trans (by
          have := World.block_lt_of_cell? w _ (hrange j u hu)
          rw [World.cell?_alloc_lt _ _ _ this]; exact hrange j u hu)
      clear hrange
      obtain ⟨hc0, hc1, hc2, hc3, hc4, hc5, hc6⟩ := rd7 hrg
      clear hrg
      have Ha := Lib.hid ha; clear ha
      have hRW := rules_any cap cl fin (.slice a l.length c) (wo.alloc (tobj x))
      have hs1 : (wo.alloc (tobj x)).heap.size = wo.heap.size + 1 := by simp
      have hctx : Ctx cap cl fin (.slice a l.length c) l i v' (wo.heap.size + 1) (rulesW cap cl fin (.slice a l.length c) (wo.alloc (tobj x))) := by
        refine ⟨?_, ?_, ?_, ?_⟩
        · exact (hrv.keep ((Below.refl _ _).alloc (Nat.le_refl _) _)).keep (rulesW_below _ _ _ _ _ (Nat.le_refl _))
        · rw [← hs1]; exact rulesW_1 _ _ _ _ _
        · rw [← hs1]; exact rulesW_0 _ _ _ _ _
        · rw [rulesW_size, hs1]; omega
      have hfn := rulesW_2 cap cl fin (.slice a l.length c) (wo.alloc (tobj x))
      have hszG := rulesW_size cap cl fin (.slice a l.length c) (wo.alloc (tobj x))
      have hbG : Below (wo.heap.size + 1) (wo.alloc (tobj x)) (rulesW cap cl fin (.slice a l.length c) (wo.alloc (tobj x))) := rulesW_below _ _ _ _ _ (by omega)
      rw [hs1] at hfn hszG hRW
      obtain ⟨wG, hwG⟩ : ∃ wG, wG = rulesW cap cl fin (.slice a l.length c) (wo.alloc (tobj x)) := ⟨_, rfl⟩
      rw [← hwG] at hctx hfn hszG hRW hbG
      obtain ⟨g, hg⟩ : ∃ g, g = wo.heap.size + 1 := ⟨_, rfl⟩
      rw [← hg] at hctx hfn hszG hRW hbG
      have Hg := Lib.hid hg
      have hgs1 : g ≤ wo.heap.size + 1 := by omega
      have hgs2 : wo.heap.size < g := by omega
      have hszG1 : g + 1 + 1 < wG.heap.size := by omega
      have HFN := Lib.hid hfn
      have HRW := Lib.hid hRW
      clear hwG hfn hszG hRW hg hs1
      go_wp2_with (refine (flipW' HRW.out).mono ?_; rintro e w' ⟨rfl, rfl⟩)
      go_loopw [52] (fun vj wr => ∃ (j : Nat), j ≤ 8 ∧ vj = .int .i64 j ∧ Hid (∀ r, r < j → ruleB cap cl fin l i r = true) ∧ Below wG.heap.size wG wr) (fun vj _ => 8 - (intOf vj).toNat)
      case atStart => exact ⟨0, by omega, rfl, Lib.hid fun i hi => by omega, Below.refl _ _⟩
      case round =>
        obtain ⟨j, hj8, rfl, HJ, hbi⟩ := hrel
        have hctxi : Ctx cap cl fin (.slice a l.length c) l i v' g wr.drew := (hctx.keep hbi).keep (Below.refl _ _).drew
        have hbG2 : Below g (wo.alloc (tobj x)) wr := hbG.trans (hbi.mono (by omega))
        have hszi : wG.heap.size ≤ wr.heap.size := hbi.size
        have hy2 : wr.cell? ⟨w.heap.size, 2, none⟩ = some (.slice a l.length c) := (hbG2.cell (p := ⟨w.heap.size, 2, none⟩) (by simp only; omega)).trans ((World.cell?_alloc_lt _ _ _ (by simp only; omega)).trans ht2)
        have hxc : ∀ k, wr.cell? ⟨wo.heap.size, k, none⟩ = (#[Value.int .i64 x.num, .int .i64 x.ses, .int .i64 x.st, .int .i64 x.len, .int .i64 x.nx, .int .i64 x.sta, .int .i64 x.pk])[k]? := fun k =>
          (hbG2.cell (p := ⟨wo.heap.size, k, none⟩) (by simp only; omega)).trans (by simp [go_sem])
        have hx0 := hxc 0; have hx1 := hxc 1; have hx2 := hxc 2; have hx3 := hxc 3; have hx4 := hxc 4; have hx5 := hxc 5; have hx6 := hxc 6
        simp only [List.getElem?_toArray, List.getElem?_cons_zero, List.getElem?_cons_succ] at hx0 hx1 hx2 hx3 hx4 hx5 hx6
        clear hxc ht0 ht1 ht2
        by_cases hjl : j < 8
        · have hixj : ∀ W, (Instr.indexAt 107 (.slice (some ⟨g + 1 + 1, 0, none⟩) 8 8) (.int .i64 (j : Int))).run Tryz.prog W = .ok (.pointer (some ⟨g + 1 + 1, j, none⟩)) W := fun W => by
            have := run_idx (P := Tryz.prog) (cap := 8) Tryz.underlying107 Tryz.sizeRule (rfl : some (⟨g + 1 + 1, 0, none⟩ : Addr) = _) hjl _ rfl W
            rwa [Nat.zero_add] at this
          rcases (by omega : j = 0 ∨ j = 1 ∨ j = 2 ∨ j = 3 ∨ j = 4 ∨ j = 5 ∨ j = 6 ∨ j = 7) with hj | hj | hj | hj | hj | hj | hj | hj
          · have hfv : wr.cell? ⟨g + 1 + 1, j, none⟩ = some (.func (.func 99) #[] #[]) := (hbi.cell (p := ⟨g + 1 + 1, j, none⟩) (by simp only; omega)).trans (by rw [HFN.out, hj]; rfl)
            have hcon : Calls Tryz.prog 99 #[v', tagg x] wr.drew (RB (ruleB cap cl fin l i 0) wr.drew) := by
              rw [Hx.out]; exact call0 HFew.out _ hctxi
            generalize hq : ruleB cap cl fin l i 0 = q at hcon
            have HQ := Lib.hid hq; clear hq
            have Hj := Lib.hid hj; clear hj
            have HCON := Lib.hid hcon; clear hcon
            cases q
            all_goals
              go_wp2_with fail
              go_still_tail 7, (by kernel_rfl)
              change wpList _ _ _ _ _ wr.drew
              go_wp2_with (refine HCON.out.mono ?_; rintro e w2 ⟨rfl, hb2⟩)
              first
                | (go_ret
                   refine ⟨retB (Eq.symm ?_), (hb0.alloc (by omega) _).trans ((hbG.mono (by omega)).trans ((hbi.mono (by omega)).drew.trans (hb2.mono (by show _ ≤ wr.heap.size; omega))))⟩
                   rw [T.validB_false, ← T.valid_iff]
                   intro h
                   have h7 := (rules_ok cap cl fin l i).2 (h.2.2.2.2.2.2.1 i hlt) 0 (by omega)
                   rw [HQ.out] at h7
                   cases h7)
                | (go_roundw
                   case rel =>
                     refine ⟨j + 1, by omega, by go_num, Lib.hid fun r hr => ?_, hbi.drew.trans (hb2.mono (by show _ ≤ wr.heap.size; omega))⟩
                     by_cases e9 : r < j
                     · exact HJ.out r e9
                     · have e10 : r = 0 := by have := Hj.out; omega
                       rw [e10]; exact HQ.out
                   case measure => simp [intOf]; omega)
          · have hfv : wr.cell? ⟨g + 1 + 1, j, none⟩ = some (.func (.func 100) #[] #[]) := (hbi.cell (p := ⟨g + 1 + 1, j, none⟩) (by simp only; omega)).trans (by rw [HFN.out, hj]; rfl)
            have hcon : Calls Tryz.prog 100 #[v', tagg x] wr.drew (RB (ruleB cap cl fin l i 1) wr.drew) := by
              rw [Hx.out]; exact call1 HFew.out _ hctxi
            generalize hq : ruleB cap cl fin l i 1 = q at hcon
            have HQ := Lib.hid hq; clear hq
            have Hj := Lib.hid hj; clear hj
            have HCON := Lib.hid hcon; clear hcon
            cases q
            all_goals
              go_wp2_with fail
              go_still_tail 7, (by kernel_rfl)
              change wpList _ _ _ _ _ wr.drew
              go_wp2_with (refine HCON.out.mono ?_; rintro e w2 ⟨rfl, hb2⟩)
              first
                | (go_ret
                   refine ⟨retB (Eq.symm ?_), (hb0.alloc (by omega) _).trans ((hbG.mono (by omega)).trans ((hbi.mono (by omega)).drew.trans (hb2.mono (by show _ ≤ wr.heap.size; omega))))⟩
                   rw [T.validB_false, ← T.valid_iff]
                   intro h
                   have h7 := (rules_ok cap cl fin l i).2 (h.2.2.2.2.2.2.1 i hlt) 1 (by omega)
                   rw [HQ.out] at h7
                   cases h7)
                | (go_roundw
                   case rel =>
                     refine ⟨j + 1, by omega, by go_num, Lib.hid fun r hr => ?_, hbi.drew.trans (hb2.mono (by show _ ≤ wr.heap.size; omega))⟩
                     by_cases e9 : r < j
                     · exact HJ.out r e9
                     · have e10 : r = 1 := by have := Hj.out; omega
                       rw [e10]; exact HQ.out
                   case measure => simp [intOf]; omega)
          · have hfv : wr.cell? ⟨g + 1 + 1, j, none⟩ = some (.func (.func 101) #[] #[.pointer (some ⟨g + 1, 0, none⟩)]) := (hbi.cell (p := ⟨g + 1 + 1, j, none⟩) (by simp only; omega)).trans (by rw [HFN.out, hj]; rfl)
            have hcon : Calls Tryz.prog 101 #[v', tagg x, .pointer (some ⟨g + 1, 0, none⟩)] wr.drew (RB (ruleB cap cl fin l i 2) wr.drew) := by
              rw [Hx.out]; exact call2 HFew.out _ hctxi
            generalize hq : ruleB cap cl fin l i 2 = q at hcon
            have HQ := Lib.hid hq; clear hq
            have Hj := Lib.hid hj; clear hj
            have HCON := Lib.hid hcon; clear hcon
            cases q
            all_goals
              go_wp2_with fail
              go_still_tail 7, (by kernel_rfl)
              change wpList _ _ _ _ _ wr.drew
              go_wp2_with (refine HCON.out.mono ?_; rintro e w2 ⟨rfl, hb2⟩)
              first
                | (go_ret
                   refine ⟨retB (Eq.symm ?_), (hb0.alloc (by omega) _).trans ((hbG.mono (by omega)).trans ((hbi.mono (by omega)).drew.trans (hb2.mono (by show _ ≤ wr.heap.size; omega))))⟩
                   rw [T.validB_false, ← T.valid_iff]
                   intro h
                   have h7 := (rules_ok cap cl fin l i).2 (h.2.2.2.2.2.2.1 i hlt) 2 (by omega)
                   rw [HQ.out] at h7
                   cases h7)
                | (go_roundw
                   case rel =>
                     refine ⟨j + 1, by omega, by go_num, Lib.hid fun r hr => ?_, hbi.drew.trans (hb2.mono (by show _ ≤ wr.heap.size; omega))⟩
                     by_cases e9 : r < j
                     · exact HJ.out r e9
                     · have e10 : r = 2 := by have := Hj.out; omega
                       rw [e10]; exact HQ.out
                   case measure => simp [intOf]; omega)
          · have hfv : wr.cell? ⟨g + 1 + 1, j, none⟩ = some (.func (.func 102) #[] #[.pointer (some ⟨g + 1, 0, none⟩)]) := (hbi.cell (p := ⟨g + 1 + 1, j, none⟩) (by simp only; omega)).trans (by rw [HFN.out, hj]; rfl)
            have hcon : Calls Tryz.prog 102 #[v', tagg x, .pointer (some ⟨g + 1, 0, none⟩)] wr.drew (RB (ruleB cap cl fin l i 3) wr.drew) := by
              rw [Hx.out]; exact call3 HFew.out _ hctxi
            generalize hq : ruleB cap cl fin l i 3 = q at hcon
            have HQ := Lib.hid hq; clear hq
            have Hj := Lib.hid hj; clear hj
            have HCON := Lib.hid hcon; clear hcon
            cases q
            all_goals
              go_wp2_with fail
              go_still_tail 7, (by kernel_rfl)
              change wpList _ _ _ _ _ wr.drew
              go_wp2_with (refine HCON.out.mono ?_; rintro e w2 ⟨rfl, hb2⟩)
              first
                | (go_ret
                   refine ⟨retB (Eq.symm ?_), (hb0.alloc (by omega) _).trans ((hbG.mono (by omega)).trans ((hbi.mono (by omega)).drew.trans (hb2.mono (by show _ ≤ wr.heap.size; omega))))⟩
                   rw [T.validB_false, ← T.valid_iff]
                   intro h
                   have h7 := (rules_ok cap cl fin l i).2 (h.2.2.2.2.2.2.1 i hlt) 3 (by omega)
                   rw [HQ.out] at h7
                   cases h7)
                | (go_roundw
                   case rel =>
                     refine ⟨j + 1, by omega, by go_num, Lib.hid fun r hr => ?_, hbi.drew.trans (hb2.mono (by show _ ≤ wr.heap.size; omega))⟩
                     by_cases e9 : r < j
                     · exact HJ.out r e9
                     · have e10 : r = 3 := by have := Hj.out; omega
                       rw [e10]; exact HQ.out
                   case measure => simp [intOf]; omega)
          · have hfv : wr.cell? ⟨g + 1 + 1, j, none⟩ = some (.func (.func 103) #[] #[]) := (hbi.cell (p := ⟨g + 1 + 1, j, none⟩) (by simp only; omega)).trans (by rw [HFN.out, hj]; rfl)
            have hcon : Calls Tryz.prog 103 #[v', tagg x] wr.drew (RB (ruleB cap cl fin l i 4) wr.drew) := by
              rw [Hx.out]; exact call4 HFew.out _ hctxi
            generalize hq : ruleB cap cl fin l i 4 = q at hcon
            have HQ := Lib.hid hq; clear hq
            have Hj := Lib.hid hj; clear hj
            have HCON := Lib.hid hcon; clear hcon
            cases q
            all_goals
              go_wp2_with fail
              go_still_tail 7, (by kernel_rfl)
              change wpList _ _ _ _ _ wr.drew
              go_wp2_with (refine HCON.out.mono ?_; rintro e w2 ⟨rfl, hb2⟩)
              first
                | (go_ret
                   refine ⟨retB (Eq.symm ?_), (hb0.alloc (by omega) _).trans ((hbG.mono (by omega)).trans ((hbi.mono (by omega)).drew.trans (hb2.mono (by show _ ≤ wr.heap.size; omega))))⟩
                   rw [T.validB_false, ← T.valid_iff]
                   intro h
                   have h7 := (rules_ok cap cl fin l i).2 (h.2.2.2.2.2.2.1 i hlt) 4 (by omega)
                   rw [HQ.out] at h7
                   cases h7)
                | (go_roundw
                   case rel =>
                     refine ⟨j + 1, by omega, by go_num, Lib.hid fun r hr => ?_, hbi.drew.trans (hb2.mono (by show _ ≤ wr.heap.size; omega))⟩
                     by_cases e9 : r < j
                     · exact HJ.out r e9
                     · have e10 : r = 4 := by have := Hj.out; omega
                       rw [e10]; exact HQ.out
                   case measure => simp [intOf]; omega)
          · have hfv : wr.cell? ⟨g + 1 + 1, j, none⟩ = some (.func (.func 105) #[] #[.pointer (some ⟨g, 0, none⟩)]) := (hbi.cell (p := ⟨g + 1 + 1, j, none⟩) (by simp only; omega)).trans (by rw [HFN.out, hj]; rfl)
            have hcon : Calls Tryz.prog 105 #[v', tagg x, .pointer (some ⟨g, 0, none⟩)] wr.drew (RB (ruleB cap cl fin l i 5) wr.drew) := by
              rw [Hx.out]; exact call5 HFew.out _ hctxi
            generalize hq : ruleB cap cl fin l i 5 = q at hcon
            have HQ := Lib.hid hq; clear hq
            have Hj := Lib.hid hj; clear hj
            have HCON := Lib.hid hcon; clear hcon
            cases q
            all_goals
              go_wp2_with fail
              go_still_tail 7, (by kernel_rfl)
              change wpList _ _ _ _ _ wr.drew
              go_wp2_with (refine HCON.out.mono ?_; rintro e w2 ⟨rfl, hb2⟩)
              first
                | (go_ret
                   refine ⟨retB (Eq.symm ?_), (hb0.alloc (by omega) _).trans ((hbG.mono (by omega)).trans ((hbi.mono (by omega)).drew.trans (hb2.mono (by show _ ≤ wr.heap.size; omega))))⟩
                   rw [T.validB_false, ← T.valid_iff]
                   intro h
                   have h7 := (rules_ok cap cl fin l i).2 (h.2.2.2.2.2.2.1 i hlt) 5 (by omega)
                   rw [HQ.out] at h7
                   cases h7)
                | (go_roundw
                   case rel =>
                     refine ⟨j + 1, by omega, by go_num, Lib.hid fun r hr => ?_, hbi.drew.trans (hb2.mono (by show _ ≤ wr.heap.size; omega))⟩
                     by_cases e9 : r < j
                     · exact HJ.out r e9
                     · have e10 : r = 5 := by have := Hj.out; omega
                       rw [e10]; exact HQ.out
                   case measure => simp [intOf]; omega)
          · have hfv : wr.cell? ⟨g + 1 + 1, j, none⟩ = some (.func (.func 106) #[] #[]) := (hbi.cell (p := ⟨g + 1 + 1, j, none⟩) (by simp only; omega)).trans (by rw [HFN.out, hj]; rfl)
            have hcon : Calls Tryz.prog 106 #[v', tagg x] wr.drew (RB (ruleB cap cl fin l i 6) wr.drew) := by
              rw [Hx.out]; exact call6 HFew.out _ hctxi
            generalize hq : ruleB cap cl fin l i 6 = q at hcon
            have HQ := Lib.hid hq; clear hq
            have Hj := Lib.hid hj; clear hj
            have HCON := Lib.hid hcon; clear hcon
            cases q
            all_goals
              go_wp2_with fail
              go_still_tail 7, (by kernel_rfl)
              change wpList _ _ _ _ _ wr.drew
              go_wp2_with (refine HCON.out.mono ?_; rintro e w2 ⟨rfl, hb2⟩)
              first
                | (go_ret
                   refine ⟨retB (Eq.symm ?_), (hb0.alloc (by omega) _).trans ((hbG.mono (by omega)).trans ((hbi.mono (by omega)).drew.trans (hb2.mono (by show _ ≤ wr.heap.size; omega))))⟩
                   rw [T.validB_false, ← T.valid_iff]
                   intro h
                   have h7 := (rules_ok cap cl fin l i).2 (h.2.2.2.2.2.2.1 i hlt) 6 (by omega)
                   rw [HQ.out] at h7
                   cases h7)
                | (go_roundw
                   case rel =>
                     refine ⟨j + 1, by omega, by go_num, Lib.hid fun r hr => ?_, hbi.drew.trans (hb2.mono (by show _ ≤ wr.heap.size; omega))⟩
                     by_cases e9 : r < j
                     · exact HJ.out r e9
                     · have e10 : r = 6 := by have := Hj.out; omega
                       rw [e10]; exact HQ.out
                   case measure => simp [intOf]; omega)
          · have hfv : wr.cell? ⟨g + 1 + 1, j, none⟩ = some (.func (.func 107) #[] #[]) := (hbi.cell (p := ⟨g + 1 + 1, j, none⟩) (by simp only; omega)).trans (by rw [HFN.out, hj]; rfl)
            have hcon : Calls Tryz.prog 107 #[v', tagg x] wr.drew (RB (ruleB cap cl fin l i 7) wr.drew) := by
              rw [Hx.out]; exact call7 HFew.out _ hctxi
            generalize hq : ruleB cap cl fin l i 7 = q at hcon
            have HQ := Lib.hid hq; clear hq
            have Hj := Lib.hid hj; clear hj
            have HCON := Lib.hid hcon; clear hcon
            cases q
            all_goals
              go_wp2_with fail
              go_still_tail 7, (by kernel_rfl)
              change wpList _ _ _ _ _ wr.drew
              go_wp2_with (refine HCON.out.mono ?_; rintro e w2 ⟨rfl, hb2⟩)
              first
                | (go_ret
                   refine ⟨retB (Eq.symm ?_), (hb0.alloc (by omega) _).trans ((hbG.mono (by omega)).trans ((hbi.mono (by omega)).drew.trans (hb2.mono (by show _ ≤ wr.heap.size; omega))))⟩
                   rw [T.validB_false, ← T.valid_iff]
                   intro h
                   have h7 := (rules_ok cap cl fin l i).2 (h.2.2.2.2.2.2.1 i hlt) 7 (by omega)
                   rw [HQ.out] at h7
                   cases h7)
                | (go_roundw
                   case rel =>
                     refine ⟨j + 1, by omega, by go_num, Lib.hid fun r hr => ?_, hbi.drew.trans (hb2.mono (by show _ ≤ wr.heap.size; omega))⟩
                     by_cases e9 : r < j
                     · exact HJ.out r e9
                     · have e10 : r = 7 := by have := Hj.out; omega
                       rw [e10]; exact HQ.out
                   case measure => simp [intOf]; omega)
        · have hJ8 : ∀ r, r < 8 → ruleB cap cl fin l i r = true := fun r hr => HJ.out r (by omega)
          have HOK := Lib.hid ((rules_ok cap cl fin l i).1 hJ8)
          clear hJ8
          have hd8 : decide ((j : Int) < 8) = false := by rw [decide_eq_false_iff_not]; omega
          go_wp2_with fail
          go_roundw
          case rel =>
            refine ⟨i + 1, by omega, by go_num, Lib.hid fun m hm => ?_, (hb.alloc (by omega) _).trans ((hbG.mono (by omega)).trans (hbi.mono (by omega)))⟩
            by_cases e9 : m < i
            · exact HO.out m e9
            · obtain rfl : m = i := by omega
              exact HOK.out
          case measure => simp [intOf]; omega
    · obtain rfl : i = l.length := by omega
      have hE : T.validB cap cl fin l = (decide (cl = 0) || (decide (0 < l.length) && decide (cl ≤ T.sB l l.length))) := by
        rw [Bool.eq_iff_iff, T.validB_true, ← T.valid_iff]
        unfold T.validI
        simp only [Bool.and_eq_true, Bool.or_eq_true, decide_eq_true_eq]
        exact ⟨fun h => h.2.2.2.2.2.2.2, fun h => ⟨h1, h2, h3, h4, h5, H6.out, HO.out, h⟩⟩
      by_cases hc0 : cl = 0
      · have hz : (cl == 0) = true := by rw [beq_iff_eq]; exact hc0
        have HEq : Hid (T.validB cap cl fin l = true) := Lib.hid (by rw [hE]; simp [hc0])
        clear hE hc0 hlt hi
        go_wp2_with fail
        go_quiet (fail)
        go_wp2_with fail
        go_ret
        exact ⟨retB HEq.out.symm, Below.drewN hb0 _⟩
      · have hz : (cl == 0) = false := by rw [beq_eq_false_iff_ne]; exact hc0
        by_cases hn : 0 < l.length
        · obtain ⟨m, hm⟩ : ∃ m, l.length = m + 1 := ⟨l.length - 1, by omega⟩
          obtain ⟨ha, hrange⟩ := HC.out m (by omega)
          have hsl : T.sB l l.length = (T.tr l m).ses := by rw [hm]; exact T.sB_succ l m
          have hq : T.validB cap cl fin l = decide (cl ≤ (T.tr l m).ses) := by rw [hE, hsl]; simp [hc0, hn]
          obtain ⟨x, hx⟩ : ∃ x, x = T.tr l m := ⟨_, rfl⟩
          rw [← hx] at hrange hq
          have HEq := Lib.hid hq
          have hml : m < l.length := by omega
          have hm1 : ((l.length : Int) - 1) = (m : Int) := by omega
          have hix := fun w' => run_idxS Tryz.underlying22 Tryz.sizeTrack (cap := c) ha hml _ rfl w'
          have hrg : wo.rangeAt b (off + m * 7) (tcs x) := fun j u hu => (hb.cell (p := ⟨b, off + m * 7 + j, none⟩) (by
              have := World.block_lt_of_cell? w _ (hrange j u hu); simp only at this ⊢; omega)).trans (by
              have := World.block_lt_of_cell? w _ (hrange j u hu)
              rw [World.cell?_alloc_lt _ _ _ this]; exact hrange j u hu)
          obtain ⟨hc0', hc1, hc2, hc3, hc4, hc5, hc6⟩ := rd7 hrg
          have Ha := Lib.hid ha
          have hd0 : decide (0 < l.length) = true := decide_eq_true hn
          have hwp : IntKind.i64.wrap ((l.length : Int) - 1) = m := by rw [hm1]; exact IntWalk.i64_in _ (by omega)
          have Hm := Lib.hid hm
          have Hm1 := Lib.hid hm1
          clear hrange hrg ha hE hc0 hlt hi hsl hx hq hn hm
          go_wp2_with fail
          go_quiet (fail)
          go_wp2_with fail
          go_ret
          exact ⟨retB (by rw [HEq.out]), Below.drewN hb0 _⟩
        · have hd0 : decide (0 < l.length) = false := decide_eq_false hn
          have HEq : Hid (T.validB cap cl fin l = false) := Lib.hid (by rw [hE]; simp [hc0, hn])
          clear hE hc0 hlt hi hn
          go_wp2_with fail
          go_quiet (fail)
          go_wp2_with fail
          go_ret
          exact ⟨retB HEq.out.symm, Below.drewN hb0 _⟩
end Go.Proofs.YtflmjdjkfognjaaGreat
