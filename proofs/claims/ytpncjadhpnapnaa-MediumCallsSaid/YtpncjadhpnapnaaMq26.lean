/- Chapter 12: what Clone calls: slices and maps cloned. -/
import Derived.Test.YtpncjadhpnapnaaMq25
import Derived.Test.YtpncjadhpnapnaaMq14
import Derived.WalkSpells
namespace Go.Proofs.Ytpncjadhpnapnaa.D12
open Go.RowKit Go.Maps C9 Go.Shelf
open D13 (RdI ixI is)
set_option linter.unusedVariables false

set_option maxRecDepth 100000 in
set_option maxHeartbeats 1000000 in
theorem sclone12 (v : Value) (l : List Sc) (w : World) (hr : RdSc w v l) (hn : l.length ≤ 256) :
    Calls Try.prog 60 #[v] w fun e w' => ∃ v', e = .returned v' ∧ w'.ownsRow w.heap.size 36 2 v' l.length (flD scc l) ∧ Below w.heap.size w w' := by
  obtain ⟨a, c, rfl, hac⟩ := RdD.form hr
  have heq := fun W => Lib.run_eql_slice_nil (P := Try.prog) W 22 36 a l.length c 0 0 Try.underlying22
  cases a with
  | none =>
    have hl : l = [] := by
      obtain ⟨a, c, b, off, h1, _, h2⟩ := hr
      cases l with
      | nil => rfl
      | cons x l => have := (h2 0 (by simp)).1; injection h1 with h1; rw [← h1] at this; cases this
    subst hl
    simp only [List.length_nil] at heq
    go_enter Try.func60, Try.ntmps60
    go_wp2
    go_ret
    exact ⟨_, rfl, ⟨rfl, .inl ⟨rfl, rfl⟩⟩, Below.refl _ _⟩
  | some ad =>
    have hown0 : (w.alloc (.cells #[] 36)).ownsRow w.heap.size 36 2 (.slice (some ⟨w.heap.size, 0, none⟩) 0 0) 0 (flD scc []) := World.ownsRow_lit w #[] 0 (Nat.le_refl _) (by simp [maxLen]) (by simp)
    have hr1 : RdSc (w.alloc (.cells #[] 36)) (.slice (some ad) l.length c) l := RdD.keep hr ((Below.refl _ _).alloc (Nat.le_refl _) _)
    go_enter Try.func60, Try.ntmps60
    go_wp2_with (at_builtin; refine wpList_appD (d := scz) (D := scc) (l := []) (m := l) rfl _ _ rfl Try.underlying22 Try.infoSc12 rfl (by omega) scc_len scc_one hown0 rfl hr1 rfl (by unfold maxLen; omega) (by omega) (by simp) ?_; intro v' w' hown' hg')
    go_ret
    rw [Nat.zero_add, List.nil_append] at hown'
    exact ⟨v', rfl, hown', ((Below.refl _ _).alloc (Nat.le_refl _) _).grown hg' (by simp) (fun k hk => by obtain rfl := Option.some.inj hk; exact Nat.le_refl _)⟩
theorem smD_one (x : SM) : ∀ u ∈ smD x, u.oneCell' = true := by
  intro u hu
  simp only [smD, List.mem_cons, List.not_mem_nil, or_false] at hu
  rcases hu with rfl | rfl | rfl | rfl | rfl <;> rfl
set_option maxRecDepth 100000 in
set_option maxHeartbeats 1000000 in
theorem fclone12 (gs n c : Nat) (l : List SM) (w : World) (hn : l.length = n) (h1 : 1 ≤ n) (h2 : n ≤ 4096) (hr : RdD sm0 smD 5 w (.slice (some ⟨gs, 0, none⟩) n c) l) :
    Calls Try.prog 57 #[.slice (some ⟨gs, 0, none⟩) n c] w fun e w' => ∃ v', e = .returned v' ∧ w'.ownsRow w.heap.size 101 5 v' n (flD smD l) ∧ Below w.heap.size w w' := by
  subst hn
  have heq := fun W => Lib.run_eql_slice_nil (P := Try.prog) W 85 101 (some ⟨gs, 0, none⟩) l.length c 0 0 Try.underlying85
  have hown0 : (w.alloc (.cells #[] 101)).ownsRow w.heap.size 101 5 (.slice (some ⟨w.heap.size, 0, none⟩) 0 0) 0 (flD smD []) := World.ownsRow_lit w #[] 0 (Nat.le_refl _) (by simp [maxLen]) (by simp)
  have hr1 : RdD sm0 smD 5 (w.alloc (.cells #[] 101)) (.slice (some ⟨gs, 0, none⟩) l.length c) l := RdD.keep hr ((Below.refl _ _).alloc (Nat.le_refl _) _)
  go_enter Try.func57, Try.ntmps57
  go_wp2_with (at_builtin; refine wpList_appD (d := sm0) (D := smD) (l := []) (m := l) rfl _ _ rfl Try.underlying85 Try.infoSurf rfl (by omega) smD_len smD_one hown0 rfl hr1 rfl (by unfold maxLen; omega) (by omega) (by simp) ?_; intro v' w' hown' hg')
  go_ret
  rw [Nat.zero_add, List.nil_append] at hown'
  exact ⟨v', rfl, hown', ((Below.refl _ _).alloc (Nat.le_refl _) _).grown hg' (by simp) (fun k hk => by obtain rfl := Option.some.inj hk; exact Nat.le_refl _)⟩
/-- 'maps.Clone' of the erased offsets, and of the changed bytes -/
theorem clone_er {w : World} {e : Option Nat} {f : Nat → Bool} (h : ErM w e f) :
    Calls Try.prog 58 #[.map e] w fun en w' => ∃ e', en = .returned (.map e') ∧ ErM w' e' f ∧ (∀ b, e' = some b → b = w.heap.size) ∧ Below w.heap.size w w' := by
  cases e with
  | none =>
    refine Calls.mono (AnyW.maps_Clone_nil Try.cloneB w) ?_
    rintro en w' ⟨rfl, rfl⟩
    exact ⟨none, rfl, h, (fun b hb => by cases hb), Below.refl _ _⟩
  | some b =>
    obtain ⟨D, hown, hf⟩ := h
    refine Calls.mono (AnyW.maps_Clone_owns Try.cloneB 3 (plainElem Try.prog 4) b 2352 D w hown) ?_
    rintro en w' ⟨rfl, h1, _, hb⟩
    exact ⟨some w.heap.size, rfl, ⟨D, h1, hf⟩, fun b hb => (Option.some.inj hb).symm, hb⟩
theorem clone_ch {w : World} {e : Option Nat} {f : Nat → UInt8} (h : ChM w e f) :
    Calls Try.prog 59 #[.map e] w fun en w' => ∃ e', en = .returned (.map e') ∧ ChM w' e' f ∧ (∀ b, e' = some b → b = w.heap.size) ∧ Below w.heap.size w w' := by
  cases e with
  | none =>
    refine Calls.mono (AnyW.maps_Clone_nil Try.cloneU w) ?_
    rintro en w' ⟨rfl, rfl⟩
    exact ⟨none, rfl, h, (fun b hb => by cases hb), Below.refl _ _⟩
  | some b =>
    obtain ⟨D, hown, hf⟩ := h
    refine Calls.mono (AnyW.maps_Clone_owns Try.cloneU 3 (plainElem Try.prog 5) b 2352 D w hown) ?_
    rintro en w' ⟨rfl, h1, _, hb⟩
    exact ⟨some w.heap.size, rfl, ⟨D, h1, hf⟩, fun b hb => (Option.some.inj hb).symm, hb⟩
theorem ownsMap_raw {w : World} {b n : Nat} {D : DataW Value} (h : w.ownsMap Try.prog 3 Mp.rawE b n D) {w2 : World} {b2 n2 : Nat} {D2 : DataW Value} (h2 : w2.ownsMap Try.prog 3 Mp.rawE b2 n2 D2) (hb : w2.heap[b2]? = w.heap[b]?) : D2 = D := by
  obtain ⟨es, clock, e1, F, hs, rfl⟩ := h
  obtain ⟨es2, clock2, e2, F2, hs2, rfl⟩ := h2
  rw [e1, e2] at hb
  simp only [Option.some.injEq, Obj.map.injEq] at hb
  rw [hb.1]
/-- 'maps.Clone' of the lost offsets: 'K' are the blocks of the old map and its rows -/
theorem clone_lo {w : World} {lo : Option Nat} {n : Nat} {scr : List Sc} {K : Nat → Prop} (h : ∀ w' : World, Same K w w' → LoM w' lo n scr) (hK : ∀ b, K b → b < w.heap.size) (hlo : ∀ b, lo = some b → K b) :
    Calls Try.prog 61 #[.map lo] w fun en w' => ∃ lo', en = .returned (.map lo') ∧ (∀ w2 : World, Same (fun b => K b ∨ lo' = some b) w' w2 → LoM w2 lo' n scr) ∧ (∀ b, lo' = some b → b = w.heap.size ∧ b < w'.heap.size) ∧ Below w.heap.size w w' := by
  cases lo with
  | none =>
    refine Calls.mono (AnyW.maps_Clone_nil Try.cloneI w) ?_
    rintro en w' ⟨rfl, rfl⟩
    exact ⟨none, rfl, fun w2 h2 => h w2 fun b hb => h2 b (.inl hb), (fun b hb => by cases hb), Below.refl _ _⟩
  | some b =>
    obtain ⟨N, hN, D, hown, hat⟩ := h w fun _ _ => rfl
    refine Calls.mono (AnyW.maps_Clone_owns Try.cloneI 3 Mp.rawE b N D w hown) ?_
    rintro en w' ⟨rfl, h1, _, hb⟩
    refine ⟨some w.heap.size, rfl, fun w2 h2 => ?_, fun b hb => ?_, hb⟩
    · obtain ⟨N2, hN2, D2, hown2, hat2⟩ := h w2 fun k hk => (h2 k (.inl hk)).trans (hb.block k (hK k hk))
      have e : D2 = D := ownsMap_raw hown hown2 ((h2 b (.inl (hlo b rfl))).trans (hb.block b (hK b (hlo b rfl))))
      subst e
      refine ⟨N, hN, D2, ?_, hat2⟩
      obtain ⟨es, clock, e1, F, hs, hD⟩ := h1
      exact ⟨es, clock, (h2 _ (.inr rfl)).trans e1, F, hs, hD⟩
    · obtain rfl := Option.some.inj hb
      exact ⟨rfl, h1.lt⟩
end Go.Proofs.Ytpncjadhpnapnaa.D12
