/- Chapter 12: New walked. -/
import Derived.Test.YtpncjadhpnapnaaFe
namespace Go.Proofs.Ytpncjadhpnapnaa.D12
open Go.RowKit Go.Maps C9
open D13 (RdI)
set_option linter.unusedVariables false

theorem made_flD {α : Type} (D : α → List Value) (x : α) (sz n : Nat) (h0 : 0 < sz) (hD : ∀ y, (D y).length = sz) : (madeCells (D x).toArray (n * sz)).toList = flD D (List.replicate n x) := by
  apply List.ext_getElem?
  intro k
  by_cases hk : k < n * sz
  · have e : k / sz * sz + k % sz = k := by rw [Nat.mul_comm]; exact Nat.div_add_mod k sz
    have hki : k / sz < n := Nat.div_lt_of_lt_mul (by rw [Nat.mul_comm]; exact hk)
    have hkj : k % sz < sz := Nat.mod_lt _ h0
    have h2 := flD_get (d := x) hD (List.replicate n x) (k / sz) (k % sz) (by simpa using hki) hkj
    rw [e] at h2
    have e3 : atD x (List.replicate n x) (k / sz) = x := by simp [atD, hki]
    rw [h2, e3]
    have hlt : k % sz < (D x).length := by rw [hD]; exact hkj
    simp only [madeCells, Array.toList_map, Array.toList_range, List.getElem?_map, List.getElem?_range hk, Option.map_some, List.size_toArray, hD]
    rw [getElem!_pos _ _ (by simpa using hlt), List.getElem?_eq_getElem hlt]
    simp
  · rw [List.getElem?_eq_none (by simp [madeCells]; omega), List.getElem?_eq_none (by rw [flD_length hD]; simp; omega)]
theorem Try.infoSurf : (Try.prog.info? 101).map (fun i => (i.zero, i.size, i.bytes)) = some (some (.agg (smD sm0).toArray), 5, 48) := by kernel_rfl
theorem Try.infoMed : (Try.prog.info? 88).map (fun i => (i.zero, i.size, i.bytes)) = some (some (.agg #[.int .i64 0, .int .i64 0, .slice none 0 0, .slice none 0 0, .map none]), 5, 72) := by kernel_rfl
/-- 'make([]surface, n)' -/
theorem wpList_mkSurf {w : World} {ops : Array Oper} {rest : List Oper} {o : Oper} {a : Act} {Q : Exit → Act → World → Prop}
    (hg : o.guard = none) (l c : Operand) (hop : o.op = Op.makeSlice 85 l c)
    {L C : Int} (n : Nat) (hl : a.eval l = .int .i64 L) (hc : a.eval c = .int .i64 C) (hL : L = (n : Int)) (hC : C = (n : Int)) (b3 : n ≤ 1000000)
    (hK : ∀ w', Bx w' w.heap.size 101 (flD smD (List.replicate n sm0)) → Below w.heap.size w w' → w.heap.size < w'.heap.size → wpList Try.prog ops Q rest (a.put o.dst (.slice (some ⟨w.heap.size, 0, none⟩) n n)) w') :
    wpList Try.prog ops Q (o :: rest) a w := by
  obtain ⟨i0, hi, hz0, hz1, hz2⟩ := info_parts Try.infoSurf
  refine wpList_make_full w hg l c _ hop w.heap.size 101 i0 _ 5 Try.underlying85 hi hz0 hz1 .i64 .i64 L C n hl hc hL hC (by rw [hz2]; omega) (by unfold maxLen; omega) (Nat.le_refl _) fun w' h3 h4 => hK w' ?_ ((Below.refl _ _).grown h4 (Nat.le_refl _) (fun k hk => by cases hk)) ?_
  · have e1 : (Value.agg (smD sm0).toArray).cells = (smD sm0).toArray := rfl
    rw [e1, made_flD smD sm0 5 n (by decide) smD_len] at h3
    exact Bx.ofOwn h3
  · exact (h3.lt w.heap.size rfl).2
def newOk (k s e : Int) : Prop := (k = 1 ∨ k = 2) ∧ (1 ≤ s ∧ s ≤ 4096) ∧ 1 ≤ e ∧ e ≤ 1048576
/-- a new medium at 'g' -/
def NewW (k n en : Nat) (w : World) (e : Ending) (w' : World) : Prop := ∃ g X R, e = .returned (.tuple #[.pointer (some ⟨g, 0, none⟩), .int .i64 0]) ∧ MedW w' g (medNew k n en) X R ∧ Below w.heap.size w w' ∧ ∀ b, X b ∨ R b → w.heap.size ≤ b
theorem MedC.fresh {w w1 w2 : World} (k n en : Nat) (hk : k ≤ 2) (hb : Bx w1 w.heap.size 101 (flD smD (List.replicate n sm0))) (hb1 : Below w.heap.size w w1)
    (h2 : w2 = w1.alloc (.cells #[.int .i64 k, .int .i64 en, .slice (some ⟨w.heap.size, 0, none⟩) n n, .slice none 0 0, .map none] 88)) :
    NewW k n en w (.returned (.tuple #[.pointer (some ⟨w1.heap.size, 0, none⟩), .int .i64 0])) w2 := by
  subst h2
  have hlt := hb.lt
  have hat : ∀ i, i < n → atD sm0 (List.replicate n sm0) i = sm0 := fun i hi => by simp [atD, hi]
  refine ⟨w1.heap.size, fun b => b = w.heap.size ∨ b = w1.heap.size, fun _ => False, rfl, ⟨⟨List.replicate n sm0, w.heap.size, [], n, .slice none 0 0, none⟩, ?_, ?_, ?_, by simp, ?_, ?_, ?_, ?_, .inr rfl, .inl rfl, ?_, ?_, ?_, ?_, fun b hb => by cases hb⟩, hb1.alloc hb1.size _, ?_⟩
  · simp [medNew, sm0]
  · rw [List.length_replicate]
    exact Bx.new w1 _ _
  · rw [List.append_nil]
    exact hb.alloc _
  · intro i p hi
    simp only [List.length_replicate] at hi
    simp only [hat i hi]
    cases p
    · exact fun _ => rfl
    · exact fun _ => rfl
  · intro i j p q b hi hj h1 h2
    simp only [List.length_replicate] at hi
    simp only [hat i hi] at h1
    cases p <;> simp [SM.bk, sm0] at h1
  · intro w' _
    exact RdD.nil w'
  · intro w' _ i hi
    show lostS _ [] i = []
    have e : ∀ m, lostN [] m = [] := fun m => lostN_none (fun f => by
      have : ersK [] f 28 = [] := by simp [ersK, gon]
      rw [ers, this]; decide) m
    simp [lostS, lostP, lostL, e]
  · intro i p b hi h1
    simp only [List.length_replicate] at hi
    simp only [hat i hi] at h1
    cases p <;> simp [SM.bk, sm0] at h1
  · rintro b ((rfl | rfl) | h)
    · simp; omega
    · simp
    · exact h.elim
  · intro b _ h
    exact h
  · intro s hs
    cases hs
  · rintro b ((rfl | rfl) | h)
    · exact Nat.le_refl _
    · omega
    · exact h.elim
set_option maxRecDepth 100000 in
set_option maxHeartbeats 1000000 in
theorem new12 (k s e : Int) (h : newOk k s e) (w : World) :
    Calls Try.prog 10 #[.int .i64 k, .int .i64 s, .int .i64 e] w (NewW k.toNat s.toNat e.toNat w) := by
  obtain ⟨hk, ⟨s1, s2⟩, e1, e2⟩ := h
  obtain ⟨n, rfl⟩ : ∃ n : Nat, s = n := ⟨s.toNat, by omega⟩
  obtain ⟨m, rfl⟩ : ∃ n : Nat, e = n := ⟨e.toNat, by omega⟩
  rw [Int.toNat_natCast, Int.toNat_natCast]
  rcases hk with rfl | rfl
  all_goals
    go_enter Try.func10, Try.ntmps10
    go_wp2_with (refine wpList_mkSurf rfl _ _ rfl n rfl rfl rfl rfl (by omega) ?_; intro w1 hb hb1 hlt)
    go_ret2
    exact MedC.fresh _ n m (by decide) hb hb1 rfl
set_option maxRecDepth 100000 in
set_option maxHeartbeats 1000000 in
theorem new12_bad (k s e : Int) (h : ¬ newOk k s e) (w : World) :
    Calls Try.prog 10 #[.int .i64 k, .int .i64 s, .int .i64 e] w fun e w' => e = .returned (.tuple #[.pointer none, .int .i64 1]) ∧ w' = w := by
  unfold newOk at h
  by_cases k1 : k = 1
  · subst k1
    by_cases s1 : s < 1
    · go_enter Try.func10, Try.ntmps10
      go_wp2_with fail
      go_ret2
      exact ⟨rfl, rfl⟩
    by_cases s2 : 4096 < s
    · go_enter Try.func10, Try.ntmps10
      go_wp2_with fail
      go_ret2
      exact ⟨rfl, rfl⟩
    by_cases e1 : e < 1
    · go_enter Try.func10, Try.ntmps10
      go_wp2_with fail
      go_ret2
      exact ⟨rfl, rfl⟩
    have e2 : 1048576 < e := by omega
    go_enter Try.func10, Try.ntmps10
    go_wp2_with fail
    go_ret2
    exact ⟨rfl, rfl⟩
  by_cases k2 : k = 2
  · subst k2
    by_cases s1 : s < 1
    · go_enter Try.func10, Try.ntmps10
      go_wp2_with fail
      go_ret2
      exact ⟨rfl, rfl⟩
    by_cases s2 : 4096 < s
    · go_enter Try.func10, Try.ntmps10
      go_wp2_with fail
      go_ret2
      exact ⟨rfl, rfl⟩
    by_cases e1 : e < 1
    · go_enter Try.func10, Try.ntmps10
      go_wp2_with fail
      go_ret2
      exact ⟨rfl, rfl⟩
    have e2 : 1048576 < e := by omega
    go_enter Try.func10, Try.ntmps10
    go_wp2_with fail
    go_ret2
    exact ⟨rfl, rfl⟩
  have q1 : (k != 1) = true := by rw [bne_iff_ne]; exact k1
  have q2 : (k != 2) = true := by rw [bne_iff_ne]; exact k2
  go_enter Try.func10, Try.ntmps10
  go_wp2_with fail
  go_ret2
  exact ⟨rfl, rfl⟩
end Go.Proofs.Ytpncjadhpnapnaa.D12
