/- 'append' to a row that the call owns: the row lies in the block where it lay, or in a new one. No program is named here. -/
import Derived.Test.YtpncjadhpnapnaaOwn
namespace Go.Proofs.Ytpncjadhpnapnaa.Ap
open Go.RowKit
set_option linter.unusedVariables false

/-- the slice lies in no block that 'p' names -/
def Off (v : Value) (p : Nat → Prop) : Prop := ∀ k, v.ownBlock = some k → ¬ p k
/-- the slice 'v'' lies where 'v' lay, or in a block from 'h' on -/
def NewOr (h : Nat) (v v' : Value) : Prop := ∀ k, v'.ownBlock = some k → v.ownBlock = some k ∨ h ≤ k
theorem Off.step {h : Nat} {v v' : Value} {p : Nat → Prop} (ho : Off v p) (hn : NewOr h v v') (hp : ∀ k, h ≤ k → ¬ p k) : Off v' p := fun k hk => by
  rcases hn k hk with h1 | h1
  · exact ho k h1
  · exact hp k h1
theorem Off.nil (p : Nat → Prop) : Off (.slice none 0 0) p := fun k hk => by simp [Value.ownBlock] at hk
theorem Off.own {w : World} {base e size n : Nat} {v : Value} {xs : List Value} (h : w.ownsRow base e size v n xs) {p : Nat → Prop} (hp : ∀ k, base ≤ k → k < w.heap.size → ¬ p k) : Off v p := fun k hk => hp k (h.lt k hk).1 (h.lt k hk).2
/-- what another row holds stays -/
theorem own_off {w w' : World} {b e sz n : Nat} {v u : Value} {xs : List Value} (h : w.ownsRow b e sz v n xs) (hg : w.grownBy w' u.ownBlock) (ho : ∀ k, v.ownBlock = some k → u.ownBlock ≠ some k) : w'.ownsRow b e sz v n xs := by
  refine h.kept hg ?_
  cases e : v.ownBlock with
  | none => exact .inl rfl
  | some k => exact .inr fun h2 => ho k e h2.symm
theorem bx_off {w w' : World} {g t : Nat} {cs : List Value} {u : Value} (h : Bx w g t cs) (hg : w.grownBy w' u.ownBlock) (ho : u.ownBlock ≠ some g) : Bx w' g t cs := (hg.block g h.lt fun e => ho e.symm).trans h
/-- 'append(v, x, ..)' of elements that lie in memory -/
theorem run_apx {P : Program} {t ty e : TypeId} {i : TypeInfo} {z : Value} {size bytes base : Nat} (ht : P.underlying t = some (.slice e)) (hi : P.info? e = some i) (hz : i.zero = some z) (hsize : i.size = size) (hby : i.bytes = bytes) (hzs : z.cells.size = size) (hsz : 0 < size)
    {w : World} {v : Value} {n : Nat} {xs : List Value} (hown : w.ownsRow base e size v n xs) {a : Addr} {m c : Nat} {news : List Value} (hm : 0 < m) (hl : news.length = m * size) (hnews : ∀ j u, news[j]? = some u → w.cell? (a.add j) = some u) (h1 : ∀ u ∈ news, u.oneCell' = true)
    (h63 : n + m ≤ maxLen) (hbytes : (n + m) * bytes ≤ 140737488355328) (hbase : base ≤ w.heap.size) :
    ∃ v' w', (Builtin.append_ #[t, t] ty #[v, .slice (some a) m c]).run P w = .ok v' w' ∧ w'.ownsRow base e size v' (n + m) (xs ++ news) ∧ w.grownBy w' v.ownBlock ∧ NewOr w.heap.size v v' := by
  obtain ⟨v', w', r1, r2, r3, _⟩ := run_append_own (P := P) w base t ty e i z size bytes ht hi hz hsize hby hzs hsz v n xs hown a m c news hl hnews h1 h63 hbytes hbase
  refine ⟨v', w', r1, r2, r3, ?_⟩
  unfold maxLen at h63
  subst hsize hby
  -- which block it is, by the three ways that 'append' goes
  rcases hown.2 with ⟨rfl, rfl⟩ | ⟨g, cap, cur, rfl, _, hg, _, _, hcs, _⟩
  · have h9 := run_append_nil (P := P) w t ty e i z ht hi hz a m c news hl hnews hm (by omega) (by simp only [Nat.zero_add] at hbytes; omega)
    rw [r1] at h9
    injection h9 with e1 e2
    subst e1
    intro k hk
    simp only [Value.ownBlock, Option.some.injEq] at hk
    exact .inr (by omega)
  · by_cases hroom : n + m ≤ cap
    · have hfit : n * i.size + news.length ≤ cur.size := by rw [hl, hcs, ← Nat.add_mul]; exact Nat.mul_le_mul_right _ hroom
      have h9 := run_append_room (P := P) w t ty e i ht hi g n cap cur hg a m c news hl hnews h1 hroom hfit
      rw [r1] at h9
      injection h9 with e1 e2
      subst e1
      intro k hk
      simp only [Value.ownBlock] at hk ⊢
      exact .inl hk
    · have h9 := run_append_grow (P := P) w t ty e i z ht hi hz ⟨g, 0, none⟩ n cap xs hown.1 (hown.cells (g := g) rfl) a m c news hl hnews (by omega) (by omega) (growslice_fits (by omega) hbytes)
      rw [r1] at h9
      injection h9 with e1 e2
      subst e1
      intro k hk
      simp only [Value.ownBlock, Option.some.injEq] at hk
      exact .inr (by omega)
theorem wpList_apx {P : Program} {ops : Array Oper} {rest : List Oper} {o : Oper} {ac : Act} {Q : Exit → Act → World → Prop} {w : World} (hg : o.guard = none) (s x : Operand) {t : TypeId}
    (hop : o.op = .call { callee := .builtin .append, args := #[s, x], argTypes := #[t, t] }) {e : TypeId} {z : Value} {size bytes base : Nat}
    (ht : P.underlying t = some (.slice e)) (h2 : (P.info? e).map (fun i => (i.zero, i.size, i.bytes)) = some (some z, size, bytes)) (hzs : z.cells.size = size) (hsz : 0 < size)
    {v : Value} {n : Nat} {xs : List Value} (hown : w.ownsRow base e size v n xs) (hv : ac.eval s = v) {a : Addr} {m c : Nat} {news : List Value} (hx : ac.eval x = .slice (some a) m c) (hm : 0 < m) (hl : news.length = m * size) (hnews : ∀ j u, news[j]? = some u → w.cell? (a.add j) = some u) (h1 : ∀ u ∈ news, u.oneCell' = true)
    (h63 : n + m ≤ maxLen) (hbytes : (n + m) * bytes ≤ 140737488355328) (hbase : base ≤ w.heap.size)
    (hK : ∀ v' w', w'.ownsRow base e size v' (n + m) (xs ++ news) → w.grownBy w' v.ownBlock → NewOr w.heap.size v v' → wpList P ops Q rest (ac.put o.dst v') w') : wpList P ops Q (o :: rest) ac w := by
  obtain ⟨i0, hi, hz0, hz1, hz2⟩ := info_parts h2
  refine wpList_plain hg fun K hK' => ?_
  obtain ⟨v', w', hrun, r1, r2, r3⟩ := run_apx (ty := o.type) ht hi hz0 hz1 hz2 hzs hsz hown hm hl hnews h1 h63 hbytes hbase
  obtain ⟨vs, hvs⟩ : ∃ vs, vs = Value.slice (some a) m c := ⟨_, rfl⟩
  rw [← hvs] at hx hrun
  unfold Oper.wp
  simp [execOp, hop, resolve, invoke, builtin, hv, hx, hrun, Result.andThen]
  exact hK' _ _ (hK v' w' r1 r2 r3)
/-- 'append(v, y)' of one cell that lies in a literal -/
theorem wpList_ap1 {P : Program} {ops : Array Oper} {rest : List Oper} {o : Oper} {ac : Act} {Q : Exit → Act → World → Prop} {w : World} (hg : o.guard = none) (s x : Operand) {t : TypeId}
    (hop : o.op = .call { callee := .builtin .append, args := #[s, x], argTypes := #[t, t] }) {e : TypeId} {z : Value} {bytes base : Nat}
    (ht : P.underlying t = some (.slice e)) (h2 : (P.info? e).map (fun i => (i.zero, i.size, i.bytes)) = some (some z, 1, bytes)) (hzs : z.cells.size = 1)
    {v : Value} {n : Nat} {xs : List Value} (hown : w.ownsRow base e 1 v n xs) (hv : ac.eval s = v) {g : Nat} {y : Value} (hx : ac.eval x = .slice (some ⟨g, 0, none⟩) 1 1) (hc : w.cell? ⟨g, 0, none⟩ = some y) (h1 : y.oneCell' = true)
    (h63 : n + 1 ≤ maxLen) (hbytes : (n + 1) * bytes ≤ 140737488355328) (hbase : base ≤ w.heap.size)
    (hK : ∀ v' w', w'.ownsRow base e 1 v' (n + 1) (xs ++ [y]) → w.grownBy w' v.ownBlock → NewOr w.heap.size v v' → wpList P ops Q rest (ac.put o.dst v') w') : wpList P ops Q (o :: rest) ac w :=
  wpList_apx hg s x hop ht h2 hzs (by omega) hown hv (a := ⟨g, 0, none⟩) (m := 1) (news := [y]) hx (by omega) rfl (fun j u hu => by
    cases j with
    | zero =>
      simp only [List.getElem?_cons_zero, Option.some.injEq] at hu
      subst hu
      exact hc
    | succ j => simp at hu) (fun u hu => by simp only [List.mem_singleton] at hu; rw [hu]; exact h1) h63 hbytes hbase hK
end Go.Proofs.Ytpncjadhpnapnaa.Ap
