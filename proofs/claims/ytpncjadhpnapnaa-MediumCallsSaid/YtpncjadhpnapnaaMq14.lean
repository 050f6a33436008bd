/- Chapter 12: two media beside each other; MediumScratches in plain words. -/
import Derived.Test.YtpncjadhpnapnaaMq13
namespace Go.Proofs.Ytpncjadhpnapnaa.D12
open Go.RowKit Go.Maps C9
open D13 (RdI ixI is)
set_option linter.unusedVariables false

/-- two media of the call's own, and blocks 'Z' that stay as they were in 'wz' -/
structure Have2 (w0 w : World) (g h : Nat) (A B : Med) (X R Y Q : Nat → Prop) (wz : World) (Z : Nat → Prop) : Prop where
  a : Have w0 w g A X R
  b : Have w0 w h B Y Q
  ab : ∀ k, X k → ¬ (Y k ∨ Q k ∨ Z k)
  ba : ∀ k, Y k → ¬ (X k ∨ R k ∨ Z k)
  z : ∀ k, Z k → k < w.heap.size ∧ w.heap[k]? = wz.heap[k]?
theorem MedW.lt {w : World} {g : Nat} {M : Med} {X R : Nat → Prop} (h : MedW w g M X R) : ∀ k, X k ∨ R k → k < w.heap.size := by
  obtain ⟨L, h⟩ := h
  exact h.lt
section
variable {w0 w w' wz : World} {g h : Nat} {A B : Med} {X R Y Q X2 R2 Z : Nat → Prop} {V : Int × Med} {e : Ending}
theorem Have2.swap (t : Have2 w0 w g h A B X R Y Q wz Z) : Have2 w0 w h g B A Y Q X R wz Z := ⟨t.b, t.a, t.ba, t.ab, t.z⟩
theorem Have2.below (t : Have2 w0 w g h A B X R Y Q wz Z) (hb : Below w.heap.size w w') : Have2 w0 w' g h A B X R Y Q wz Z :=
  ⟨t.a.below hb, t.b.below hb, t.ab, t.ba, fun k hk => ⟨Nat.lt_of_lt_of_le (t.z k hk).1 hb.size, (hb.block k (t.z k hk).1).trans (t.z k hk).2⟩⟩
theorem Have2.ch {A2 : Med} (t : Have2 w0 w g h A B X R Y Q wz Z) (hm : MedW w' g A2 X2 R2) (hc : Ch X R X2 R2 w w') : Have2 w0 w' g h A2 B X2 R2 Y Q wz Z := by
  have hlt := t.b.m.lt
  have hb : MedW w' h B Y Q := t.b.m.apart hc fun k hk h2 => t.ab k hk (h2.elim .inl fun h => .inr (.inl h))
  refine ⟨t.a.ch hm hc, ⟨hb, t.b.b.trans (hc.below _ t.b.b.size fun b hb => t.a.x b (.inl hb)), t.b.x⟩, fun k hk h2 => ?_, fun k hk h2 => ?_, fun k hk => ?_⟩
  · rcases hc.x k hk with h3 | h3
    · exact t.ab k h3 h2
    · rcases h2 with h4 | h4 | h4
      · have := hlt k (.inl h4); omega
      · have := hlt k (.inr h4); omega
      · have := (t.z k h4).1; omega
  · have hkl := hlt k (.inl hk)
    rcases h2 with h4 | h4 | h4
    · rcases hc.x k h4 with h5 | h5
      · exact t.ba k hk (.inl h5)
      · omega
    · rcases hc.r k h4 with h5 | h5
      · exact t.ba k hk (.inr (.inl h5))
      · omega
    · exact t.ba k hk (.inr (.inr h4))
  · obtain ⟨h1, h2⟩ := t.z k hk
    exact ⟨Nat.lt_of_lt_of_le h1 hc.size, (hc.block k h1 fun hx => t.ab k hx (.inr (.inr hk))).trans h2⟩
theorem Have2.step (t : Have2 w0 w g h A B X R Y Q wz Z) (hw : WrP V g X R w e w') : e = .returned (.int .i64 V.1) ∧ ∃ X2 R2, Have2 w0 w' g h V.2 B X2 R2 Y Q wz Z := by
  obtain ⟨he, X2, R2, hm, hc⟩ := hw
  exact ⟨he, X2, R2, t.ch hm hc⟩
theorem Have2.step2 (t : Have2 w0 w g h A B X R Y Q wz Z) (hw : WrP V h Y Q w e w') : e = .returned (.int .i64 V.1) ∧ ∃ Y2 Q2, Have2 w0 w' g h A V.2 X R Y2 Q2 wz Z := by
  obtain ⟨he, Y2, Q2, ht⟩ := t.swap.step hw
  exact ⟨he, Y2, Q2, ht.swap⟩
/-- another set of blocks that stay -/
theorem Have2.fix (t : Have2 w0 w g h A B X R Y Q wz Z) {w1 : World} (hb : Below w.heap.size w w1) : Have2 w0 w1 g h A B X R Y Q w1 (fun k => w.heap.size ≤ k ∧ k < w1.heap.size) :=
  ⟨t.a.below hb, t.b.below hb, fun k hk h2 => by
    rcases h2 with h2 | h2 | h2
    · exact t.ab k hk (.inl h2)
    · exact t.ab k hk (.inr (.inl h2))
    · have := t.a.m.lt k (.inl hk); omega, fun k hk h2 => by
    rcases h2 with h2 | h2 | h2
    · exact t.ba k hk (.inl h2)
    · exact t.ba k hk (.inr (.inl h2))
    · have := t.b.m.lt k (.inl hk); omega, fun k hk => ⟨hk.2, rfl⟩⟩
/-- a second medium is made -/
theorem Have2.two (ha : Have w0 w g A X R) {n k en : Nat} (hn : NewW k n en w e w') : ∃ h Y Q, e = .returned (.tuple #[.pointer (some ⟨h, 0, none⟩), .int .i64 0]) ∧ Have2 w0 w' g h A (medNew k n en) X R Y Q w' (fun _ => False) := by
  obtain ⟨h, Y, Q, he, hm, hb, hy⟩ := hn
  have hl := ha.m.lt
  refine ⟨h, Y, Q, he, ha.below hb, ⟨hm, ha.b.trans (hb.mono ha.b.size), fun b hb' => Nat.le_trans ha.b.size (hy b hb')⟩, fun k hk h2 => ?_, fun k hk h2 => ?_, fun k hk => hk.elim⟩
  · have h1 := hl k (.inl hk)
    rcases h2 with h2 | h2 | h2
    · have := hy k (.inl h2); omega
    · have := hy k (.inr h2); omega
    · exact h2
  · have h1 := hy k (.inl hk)
    rcases h2 with h2 | h2 | h2
    · have := hl k (.inl h2); omega
    · have := hl k (.inr h2); omega
    · exact h2
end
theorem own_moved {w w' : World} {base e size n : Nat} {v : Value} {xs : List Value} (h : w.ownsRow base e size v n xs) (hk : ∀ k, base ≤ k → k < w.heap.size → w'.heap[k]? = w.heap[k]?) : w'.ownsRow base e size v n xs := by
  refine ⟨h.1, ?_⟩
  rcases h.2 with h | ⟨g, cap, cur, hv, hg, hh, r⟩
  · exact .inl h
  · exact .inr ⟨g, cap, cur, hv, hg, (hk g hg (Array.getElem?_eq_some_iff.1 hh).1).trans hh, r⟩
/-- the media of MediumScratches: 'j' of 'n' sectors are recorded -/
def sS (rx : List UInt8) (r : Bool) : Sec := if r = true then ⟨1, 1, rx, fun _ => false, fun _ => 0⟩ else blank
def sM (n j : Nat) (rx : List UInt8) (scr : List Sc) : Med := ⟨1, 1, (List.range n).map fun i => sS rx (decide (i < j)), scr⟩
theorem sM_n (n j : Nat) (rx : List UInt8) (scr : List Sc) : (sM n j rx scr).n = n := by simp [sM, Med.n]
theorem sM_sec {n j i : Nat} (rx : List UInt8) (scr : List Sc) (h : i < n) : (sM n j rx scr).sec i = sS rx (decide (i < j)) := by
  unfold Med.sec sM atD
  rw [List.getElem?_map, List.getElem?_range h]
  rfl
theorem sM_zero (n : Nat) (rx : List UInt8) : medNew 1 n 1 = sM n 0 rx [] := by
  unfold medNew sM
  congr 1
  apply List.ext_getElem <;> simp [sS]
theorem sM_record {n j : Nat} {rx : List UInt8} (hr : rx.length = 2352) (hj : j < n) : (sM n j rx []).record (j : Nat) rx = (0, sM n (j + 1) rx []) := by
  have hs := sM_sec (j := j) rx [] hj
  rw [decide_eq_false (Nat.lt_irrefl j)] at hs
  have h := Med.record_rw (M := sM n j rx []) (i := j) (by rw [sM_n]; exact hj) (.inr ⟨rfl, by rw [hs]; rfl⟩) hr (by rw [hs]; show 0 + 1 ≤ 1; omega)
  rw [h, hs]
  congr 1
  unfold Med.put sM
  congr 1
  apply List.ext_getElem
  · simp
  · intro i h1 h2
    rw [List.getElem_set]
    by_cases e : j = i
    · subst e
      simp [sS, blank]
    · have e2 : decide (i < j) = decide (i < j + 1) := by rw [decide_eq_decide]; omega
      simp [e, e2]
theorem sM_scratch {n : Nat} {rx : List UInt8} {scr l : List Sc} (hf : fitA (98 * n + 108) l = true) (hl : scr.length + l.length ≤ 256) : (sM n n rx scr).scratch l = (0, sM n n rx (scr ++ l)) := by
  unfold Med.scratch
  rw [sM_n, if_neg (by rw [hf]; decide), if_neg (show ¬ (sM n n rx scr).scr.length + l.length > 256 from by show ¬ scr.length + l.length > 256; omega)]
  rfl
theorem sM_scratch_bad {n : Nat} {rx : List UInt8} {scr l : List Sc} (hf : fitA (98 * n + 108) l = false) : (sM n n rx scr).scratch l = (1, sM n n rx scr) := by
  unfold Med.scratch
  rw [sM_n, if_pos hf]
theorem sM_ok {n j : Nat} {rx : List UInt8} {scr : List Sc} (hn : 1 ≤ n ∧ n ≤ 4) (hr : rx.length = 2352) (hs : scr.length ≤ 256) (hf : fitA (98 * n + 108) scr = true) : (sM n j rx scr).Ok 1 := by
  refine ⟨by show 1 ≤ 2; omega, ⟨by show 1 ≤ 1; omega, by show 1 ≤ _; omega⟩, by rw [sM_n]; omega, fun i hi => ?_, hs, by rw [sM_n]; exact hf⟩
  rw [sM_n] at hi
  rw [sM_sec _ _ hi]
  unfold sS
  split
  · exact ⟨by show 1 ≤ 3; omega, by show 1 ≤ 1; omega, fun _ => hr, by show rx.length ≤ _; omega, by simp, by simp⟩
  · exact blank_ok 1
theorem sM_read {n i : Nat} {rx : List UInt8} {scr : List Sc} (hi : i < n) : (sM n n rx scr).readR (i : Nat) = ((sM n n rx scr).out i, (sM n n rx scr).gone i, 0) := by
  have hs := sM_sec (j := n) rx scr hi
  rw [decide_eq_true hi] at hs
  unfold Med.readR
  rw [if_pos ⟨by omega, by rw [sM_n]; omega⟩, Int.toNat_natCast, if_neg (by rw [hs]; show ¬ 1 = 0; omega), if_pos (by rw [hs]; rfl)]
theorem sM_er (n : Nat) (rx : List UInt8) (scr : List Sc) (i k : Nat) : ((sM n n rx scr).sec i).er k = false := by
  by_cases hi : i < n
  · rw [sM_sec _ _ hi]; unfold sS; split <;> rfl
  · unfold Med.sec sM atD
    rw [List.getElem?_eq_none (by simpa using hi)]
    rfl
theorem sM_all (n : Nat) (rx : List UInt8) (scr : List Sc) : (sM n n rx scr).all n = lostL n scr := by
  have := all_lost (sM n n rx scr) (sM_er n rx scr)
  rw [sM_n] at this
  exact this
theorem sM_clean {n : Nat} {rx : List UInt8} (hn : 1 ≤ n) : (sM n n rx []).cleanR 0 = true := by
  refine cleanR_true ⟨⟨by omega, by rw [sM_n]; omega⟩, ?_⟩
  rw [show (0 : Int).toNat = 0 from rfl]
  have hs := sM_sec (j := n) rx [] (show 0 < n by omega)
  rw [decide_eq_true (by omega)] at hs
  refine ⟨by rw [hs]; rfl, gone_none fun k _ => ?_, fun k _ => by rw [hs]; rfl⟩
  unfold Med.goneP
  rw [sM_er, sM_n, show (sM n n rx []).scr = [] from rfl, lostP_nil]
  rfl
theorem out_gone {M : Med} {i : Nat} {x : Int} (h : x ∈ M.gone i) : 0 ≤ x ∧ x < 2352 ∧ G.ix (M.out i) x.toNat = 0 := by
  obtain ⟨k, h1, h2, rfl⟩ := (mem_gone M i x).1 h
  refine ⟨by omega, by omega, ?_⟩
  rw [Int.toNat_natCast]
  unfold Med.out
  rw [map_ix h1, if_pos h2]
theorem run_sidx12 {P : Program} {t : TypeId} (ht : P.underlying t = some .string) (l : List UInt8) (k : Nat) (hk : k < l.length) (i : Int) (hi : i = k) (w : World) :
    (Instr.index t (.string (str l)) (.int .i64 i)).run P w = .ok (B (G.ix l k)) w := by
  subst hi
  have h1 : (str l).size = l.length := str_size l
  have h2 : ((str l)[k]'(by rw [h1]; exact hk)) = l[k] := by simp [str, ByteArray.getElem_eq_getElem_data]
  simp [Instr.index, asIntOf, run_underlying ht, h1, hk, h2, G.ix]
end Go.Proofs.Ytpncjadhpnapnaa.D12
