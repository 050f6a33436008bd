/- Few, Same, packets walked (chapter 14). -/
import Derived.Test.YtiioojlihapdaaaTkR
import Derived.Deep.Cut
import Derived.Deep.CutBlock
import Derived.Deep.DeepCutAuto
import Derived.Outline
namespace Go.Proofs.Ytiioojlihapdaaa
open Go.RowKit
set_option linter.unusedVariables false

instance (a : Int) : Decidable (sm a) := by unfold sm; infer_instance
instance (x : T.Trk) : Decidable (smT x) := by unfold smT; infer_instance
instance (l : List T.Trk) : Decidable (Few l) := by unfold Few; infer_instance
/-- a track's numbers by index -/
def nth (x : T.Trk) (k : Nat) : Int := [x.num, x.ses, x.st, x.len, x.nx, x.sta, x.pk].getD k 0
theorem smT_iff (x : T.Trk) : smT x ↔ ∀ k, k < 7 → sm (nth x k) := by
  constructor
  · rintro ⟨h1, h2, h3, h4, h5, h6, h7⟩ k hk
    match k, hk with
    | 0, _ => exact h1
    | 1, _ => exact h2
    | 2, _ => exact h3
    | 3, _ => exact h4
    | 4, _ => exact h5
    | 5, _ => exact h6
    | 6, _ => exact h7
  · intro h
    exact ⟨h 0 (by omega), h 1 (by omega), h 2 (by omega), h 3 (by omega), h 4 (by omega), h 5 (by omega), h 6 (by omega)⟩
theorem nth_cell (x : T.Trk) (k : Nat) (hk : k < 7) : (#[Value.int .i64 x.num, .int .i64 x.ses, .int .i64 x.st, .int .i64 x.len, .int .i64 x.nx, .int .i64 x.sta, .int .i64 x.pk])[k]? = some (.int .i64 (nth x k)) := by
  match k, hk with
  | 0, _ => rfl
  | 1, _ => rfl
  | 2, _ => rfl
  | 3, _ => rfl
  | 4, _ => rfl
  | 5, _ => rfl
  | 6, _ => rfl
theorem Try.sizeIntT : (Try.prog.info? 3).map (·.size) = some 1 := by kernel_rfl

/-- the cells of element k, below -/
theorem rdK_at {w w' : World} {B : Nat} {v : Value} {l : List T.Trk} (h : RdK w v l) (hb : ∀ k, k < w.heap.size → w'.heap[k]? = w.heap[k]?) : RdK w' v l := RdS.keepW h hb

set_option maxRecDepth 100000 in
set_option maxHeartbeats 2000000 in
theorem few_any (cl : Int) (fin : Bool) (sv : Value) (l : List T.Trk) (w : World) (hr : RdK w sv l) (hn : l.length ≤ 9223372036854775807) :
    Calls Try.prog 10 #[.agg #[.int .i64 cl, .bool fin, sv]] w (RB (decide (Few l)) w) := by
  obtain ⟨a, c, b, off, rfl, hac, hcell⟩ := hr
  have HC := Lib.hid hcell; clear hcell
  go_enter Try.func10, Try.ntmps10
  go_wp2_with fail
  go_loopw [3] (fun vi wr => ∃ (i : Nat), i ≤ l.length ∧ vi = .int .i64 i ∧ Hid (∀ m, m < i → smT (T.tr l m)) ∧
      Below (w.heap.size + 1) (w.alloc (.cells #[.int .i64 cl, .bool fin, .slice a l.length c] 24)) wr) (fun vi _ => l.length - (intOf vi).toNat)
  case atStart => exact ⟨0, by omega, rfl, Lib.hid fun i hi => by omega, by simpa using Below.refl _ _⟩
  case round =>
    obtain ⟨i, hi, rfl, HO, hb⟩ := hrel
    obtain ⟨wo, rfl⟩ : ∃ wo : World, wo = wr := ⟨_, rfl⟩
    have ht2 : wo.cell? ⟨w.heap.size, 2, none⟩ = some (.slice a l.length c) := (hb.cell (p := ⟨w.heap.size, 2, none⟩) (by simp)).trans (by simp [go_sem])
    have hsz : w.heap.size < wo.heap.size := by have := hb.size; simp at this; omega
    have hb0 : Below w.heap.size w wo := ((Below.refl _ _).alloc (Nat.le_refl _) _).trans (hb.mono (by omega))
    by_cases hlt : i < l.length
    · obtain ⟨ha, hrange⟩ := HC.out i hlt
      have hE : (∀ k, k < 7 → sm (nth (T.tr l i) k)) ↔ smT (T.tr l i) := (smT_iff _).symm
      have HF : Hid (¬ smT (T.tr l i) → decide (Few l) = false) := Lib.hid fun h => decide_eq_false fun hf => h (hf.2 i hlt)
      obtain ⟨x, hx⟩ : ∃ x, x = T.tr l i := ⟨_, rfl⟩
      rw [← hx] at hrange hE HF
      have Hx := Lib.hid hx; clear hx
      have HE := Lib.hid hE; clear hE
      have hix := fun w' => run_idxS Try.underlying22 Try.sizeTrack (cap := c) ha hlt _ rfl w'
      have hrg : wo.rangeAt b (off + i * 7) (tcs x) := fun j u hu => (hb.cell (p := ⟨b, off + i * 7 + j, none⟩) (by
          have := World.block_lt_of_cell? w _ (hrange j u hu); simp only at this ⊢; omega)).trans (by
          have := World.block_lt_of_cell? w _ (hrange j u hu)
          rw [World.cell?_alloc_lt _ _ _ this]; exact hrange j u hu)
      clear hrange
      obtain ⟨hc0, hc1, hc2, hc3, hc4, hc5, hc6⟩ := rd7 hrg
      clear hrg
      have Ha := Lib.hid ha; clear ha
      go_wp2_with fail
      go_loopw [6] (fun vj wr => ∃ (j : Nat), j ≤ 7 ∧ vj = .int .i64 j ∧ Hid (∀ r, r < j → sm (nth x r)) ∧ wr = (wo.alloc (tobj x)).alloc (.cells #[.int .i64 x.num, .int .i64 x.ses, .int .i64 x.st, .int .i64 x.len, .int .i64 x.nx, .int .i64 x.sta, .int .i64 x.pk] 3)) (fun vj _ => 7 - (intOf vj).toNat)
      case atStart => exact ⟨0, by omega, rfl, Lib.hid fun i hi => by omega, rfl⟩
      case round =>
        obtain ⟨j, hj, rfl, HJ, hwr⟩ := hrel
        have hcj : j < 7 → wr.cell? ⟨wo.heap.size + 1, j, none⟩ = some (.int .i64 (nth x j)) := fun h7 => by
          rw [hwr, ← nth_cell x j h7]; simp [go_sem]
        have hbw : Below (w.heap.size + 1) wo wr := by rw [hwr]; exact ((Below.refl _ _).alloc (by omega) _).alloc (by simp; omega) _
        have Hwr := Lib.hid hwr; clear hwr
        by_cases hj7 : j < 7
        · have hcell := hcj hj7
          have hixj : ∀ W, (Instr.indexAt 50 (.slice (some ⟨wo.heap.size + 1, 0, none⟩) 7 7) (.int .i64 (j : Int))).run Try.prog W = .ok (.pointer (some ⟨wo.heap.size + 1, j, none⟩)) W := fun W => by
            have := run_idx (P := Try.prog) (cap := 7) Try.underlying50 Try.sizeIntT (rfl : some (⟨wo.heap.size + 1, 0, none⟩ : Addr) = _) hj7 _ rfl W
            rwa [Nat.zero_add] at this
          clear hcj
          obtain ⟨y, hy⟩ : ∃ y, y = nth x j := ⟨_, rfl⟩
          rw [← hy] at hcell
          have Hy := Lib.hid hy; clear hy
          go_wp2_with fail
          all_goals first
            | (go_ret
               refine ⟨retB (Eq.symm (HF.out fun h => ?_)), hb0.trans (hbw.mono (by omega))⟩
               have := HE.out.2 h j hj7
               rw [← Hy.out] at this
               unfold sm at this
               omega)
            | (go_roundw
               case rel =>
                 refine ⟨j + 1, by omega, by go_num, Lib.hid fun r hr => ?_, Hwr.out⟩
                 by_cases e9 : r < j
                 · exact HJ.out r e9
                 · obtain rfl : r = j := by omega
                   rw [← Hy.out]; unfold sm; omega
               case measure => simp [intOf]; omega)
        · have hS : smT x := HE.out.1 fun k hk => HJ.out k (by omega)
          have HS := Lib.hid hS; clear hS
          clear hcj
          go_wp2_with fail
          go_roundw
          case rel =>
            refine ⟨i + 1, by omega, by go_num, Lib.hid fun m hm => ?_, hb.trans hbw⟩
            by_cases e9 : m < i
            · exact HO.out m e9
            · obtain rfl : m = i := by omega
              rw [← Hx.out]; exact HS.out
          case measure => simp [intOf]; omega
    · obtain rfl : i = l.length := by omega
      have hE : decide (Few l) = decide (l.length ≤ 110) := by
        rw [Bool.eq_iff_iff, decide_eq_true_iff, decide_eq_true_iff]
        exact ⟨fun h => h.1, fun h => ⟨h, HO.out⟩⟩
      have HEq := Lib.hid hE; clear hE
      go_wp2_with fail
      go_ret
      refine ⟨retB ?_, hb0⟩
      rw [HEq.out]
      rw [Bool.eq_iff_iff]; simp <;> omega

set_option maxRecDepth 100000 in
set_option maxHeartbeats 2000000 in
theorem same_any (cl : Int) (fin : Bool) (sv su : Value) (l : List T.Trk) (w : World) (hr : RdK w sv l) (hs : RdK w su l) (hn : l.length ≤ 9223372036854775807) :
    Calls Try.prog 15 #[.agg #[.int .i64 cl, .bool fin, sv], .agg #[.int .i64 cl, .bool fin, su]] w (RB true w) := by
  obtain ⟨a, c, b, off, rfl, hac, hcell⟩ := hr
  obtain ⟨a2, c2, b2, off2, rfl, hac2, hcell2⟩ := hs
  have HC := Lib.hid hcell; clear hcell
  have HC2 := Lib.hid hcell2; clear hcell2
  go_enter Try.func15, Try.ntmps15
  cases fin
  all_goals
    go_wp2_with fail
    go_loopw [5] (fun vi wr => ∃ (i : Nat), i ≤ l.length ∧ vi = .int .i64 i ∧ ∃ n, wr = World.drewN ((w.alloc (.cells #[.int .i64 cl, .bool _, .slice a l.length c] 24)).alloc (.cells #[.int .i64 cl, .bool _, .slice a2 l.length c2] 24)) n) (fun vi _ => l.length - (intOf vi).toNat)
    case atStart => exact ⟨0, by omega, rfl, 0, rfl⟩
    case round =>
      obtain ⟨i, hi, rfl, n, rfl⟩ := hrel
      by_cases hlt : i < l.length
      · obtain ⟨ha, hrange⟩ := HC.out i hlt
        obtain ⟨ha2, hrange2⟩ := HC2.out i hlt
        generalize T.tr l i = x at hrange hrange2
        have hix := fun w' => run_idxS Try.underlying22 Try.sizeTrack (cap := c) ha hlt _ rfl w'
        have hix2 := fun w' => run_idxS Try.underlying22 Try.sizeTrack (cap := c2) ha2 hlt _ rfl w'
        obtain ⟨hc0, hc1, hc2, hc3, hc4, hc5, hc6⟩ := rd7 hrange
        obtain ⟨hf0, hf1, hf2, hf3, hf4, hf5, hf6⟩ := rd7 hrange2
        have hbl := World.block_lt_of_cell? w _ hc0
        have hbl2 := World.block_lt_of_cell? w _ hf0
        simp only at hbl hbl2
        have Ha := Lib.hid ha; clear ha
        have Ha2 := Lib.hid ha2; clear ha2
        clear hrange hrange2
        go_wp2_with fail
        go_quiet (fail)
        go_wp2_with fail
        go_roundw
        case rel => exact ⟨i + 1, by omega, by go_num, _, rfl⟩
        case measure => simp [intOf]; omega
      · go_wp2_with fail
        go_ret
        exact ⟨rfl, Below.drewN (((Below.refl _ _).alloc (Nat.le_refl _) _).alloc (by simp) _) _⟩

theorem packets_any (count pk : Int) (w : World) (h1 : -9223372036854775808 ≤ count) (h2 : count ≤ 9223372036854775807) :
    Calls Try.prog 49 #[.int .i64 count, .int .i64 pk] w fun e w' => e = .returned (.bool (decide (1 ≤ count ∧ 0 ≤ pk ∧ pk ≤ 1024 ∧ (0 < pk → count.tmod pk = 0)))) ∧ w = w' := by
  have hM : decide (1 ≤ count ∧ 0 ≤ pk ∧ pk ≤ 1024 ∧ (0 < pk → count.tmod pk = 0)) = decide (1 ≤ count ∧ 0 ≤ pk ∧ pk ≤ 1024 ∧ (0 < pk → count % pk = 0)) := decide_eq_decide.2
    ⟨fun ⟨a, b, c, d⟩ => ⟨a, b, c, fun h => by rw [← Int.tmod_eq_emod_of_nonneg (by omega)]; exact d h⟩, fun ⟨a, b, c, d⟩ => ⟨a, b, c, fun h => by rw [Int.tmod_eq_emod_of_nonneg (by omega)]; exact d h⟩⟩
  rw [hM]
  clear hM
  by_cases hp : pk = 0
  · subst hp
    go_enter Try.func49, Try.ntmps49
    go_wp2
    all_goals
      go_ret
      refine ⟨retB ?_, rfl⟩
      (try simp only [beq_iff_eq, bne_iff_ne, beq_eq_false_iff_ne, bne_eq_false_iff_eq, ne_eq] at *) <;> (rw [Bool.eq_iff_iff]; (try simp) <;> (try omega))
  · have hz : (pk == 0) = false := by rw [beq_eq_false_iff_ne]; exact hp
    go_enter Try.func49, Try.ntmps49
    go_wp2
    all_goals
      go_ret
      refine ⟨retB ?_, rfl⟩
      (try simp only [beq_eq_false_iff_ne, ne_eq] at *) <;> (rw [Bool.eq_iff_iff]; (try simp) <;> (try omega))
end Go.Proofs.Ytiioojlihapdaaa
