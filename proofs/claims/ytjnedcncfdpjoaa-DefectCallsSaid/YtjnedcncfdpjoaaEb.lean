/- Chapter 13: how many sectors are bad. No program is named here. -/
import Derived.Test.YtjnedcncfdpjoaaE7
namespace Go.Proofs.Ytjnedcncfdpjoaa.D13
set_option linter.unusedVariables false

theorem filter_one {p : Nat → Bool} {a : Nat} : ∀ {l : List Nat}, l.Nodup → a ∈ l → p a = true → (l.filter p).length = (l.filter fun x => p x && x != a).length + 1
  | [], _, h, _ => by simp at h
  | x :: r, hn, h, hp => by
    rw [List.nodup_cons] at hn
    by_cases e : x = a
    · subst e
      have h1 : r.filter (fun y => p y && y != x) = r.filter p := List.filter_congr fun y hy => by
        have : y ≠ x := fun e => hn.1 (e ▸ hy)
        simp [this]
      simp [hp, h1]
    · have h2 : a ∈ r := by
        rcases List.mem_cons.1 h with h | h
        · exact absurd h.symm e
        · exact h
      have ih := filter_one hn.2 h2 hp
      cases hx : p x
      · simp [hx, ih]
      · simp [hx, e, ih]
/-- of 'N' numbers as many are not met as there are more of them than of the places -/
theorem unmet {N : Nat} (f : Nat → Int) : ∀ (k : Nat), (∀ b, b < k → 0 ≤ f b ∧ f b < N) → (∀ b c, b < k → c < k → f b = f c → b = c) → ((List.range N).filter fun s : Nat => !(List.range k).any fun b => f b == (s : Int)).length + k = N
  | 0, _, _ => by
    have : ((List.range N).filter fun s : Nat => !(List.range 0).any fun b => f b == (s : Int)) = List.range N := List.filter_eq_self.2 fun a _ => by simp
    rw [this]; simp
  | k + 1, hr, hi => by
    have ih := unmet f k (fun b hb => hr b (by omega)) (fun b c hb hc e => hi b c (by omega) (by omega) e)
    have hk := hr k (by omega)
    have hone := filter_one (p := fun s : Nat => !(List.range k).any fun b => f b == (s : Int)) (a := (f k).toNat) (List.nodup_range (n := N)) (by rw [List.mem_range]; omega) (by
      rw [Bool.not_eq_true', List.any_eq_false]
      intro b hb
      have hb' := List.mem_range.1 hb
      simp only [beq_iff_eq]
      intro e
      have := hi b k (by omega) (by omega) (by rw [e]; omega)
      omega)
    have e : ((List.range N).filter fun s : Nat => !(List.range (k + 1)).any fun b => f b == (s : Int)) = (List.range N).filter fun x : Nat => (!(List.range k).any fun b => f b == (x : Int)) && x != (f k).toNat := List.filter_congr fun (s : Nat) _ => by
      rw [List.range_succ, List.any_append, Bool.not_or]
      congr 1
      simp only [List.any_cons, List.any_nil, Bool.or_false]
      by_cases h : f k = (s : Int)
      · have h2 : s = (f k).toNat := by omega
        have h3 : (f k == (s : Int)) = true := by rw [beq_iff_eq]; exact h
        have h4 : (s != (f k).toNat) = false := by rw [bne_eq_false_iff_eq]; exact h2
        rw [h3, h4]; rfl
      · have h2 : s ≠ (f k).toNat := by omega
        have h3 : (f k == (s : Int)) = false := by rw [beq_eq_false_iff_ne]; exact h
        have h4 : (s != (f k).toNat) = true := by rw [bne_iff_ne]; exact h2
        rw [h3, h4]; rfl
    rw [e]
    omega
theorem Tab.Ok.bad_length {T : Tab} (h : T.Ok) : T.bad.length = T.prim.length + T.used := by
  have h1 := unmet (N := T.first + T.used) (fun b => T.phys b) T.blocks (fun b hb => by
    have := h.phys_range (b := b) (by omega) (by omega); omega) (fun b c hb hc e => by
    have := h.phys_inj (b := b) (c := c) (by omega) (by omega) (by omega) (by omega) e; omega)
  have e : ((List.range (T.first + T.used)).filter fun s : Nat => (T.blk (s : Int)).isNone) = (List.range (T.first + T.used)).filter fun s : Nat => !(List.range T.blocks).any fun b => T.phys b == (s : Int) := List.filter_congr fun s _ => by
    unfold Tab.blk
    rw [← Option.not_isSome, List.isSome_find?]
  unfold Tab.bad
  rw [List.length_map, e]
  unfold Tab.first at h1 ⊢
  omega
end Go.Proofs.Ytjnedcncfdpjoaa.D13
