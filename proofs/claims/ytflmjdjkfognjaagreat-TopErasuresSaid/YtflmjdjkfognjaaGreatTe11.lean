/- Parts: XWi XCw XCx XCy XAp XCz XD1 XD2 XRep -/
import Derived.Test.YtflmjdjkfognjaaGreatTe10
import Derived.Test.YtflmjdjkfognjaaGreatTe00
import Derived.Test.YtflmjdjkfognjaaGreatTe06
import Derived.Outline
import Derived.Deep.Cut
import Derived.Deep.CutRange
namespace Go.Proofs.YtflmjdjkfognjaaGreat.W8
open Go.RowKit
set_option linter.unusedVariables false
def is (l : List Int) : List Value := l.map (Value.int .i64)
theorem is_append (l m : List Int) : is (l ++ m) = is l ++ is m := by simp [is]
theorem is_length (l : List Int) : (is l).length = l.length := by simp [is]
theorem is_one (l : List Int) : ∀ u ∈ is l, u.oneCell' = true := by
  intro u hu
  simp only [is, List.mem_map] at hu
  obtain ⟨c, _, rfl⟩ := hu
  rfl
theorem is_get {l : List Int} {i : Nat} (h : i < l.length) : (is l)[i]? = some (.int .i64 (ixI l i)) := by
  simp [is, ixI, h]
theorem ixI_get {l : List Int} {i : Nat} (h : i < l.length) : ixI l i = l[i] := by simp [ixI, h]
theorem ixI_mem {l : List Int} {i : Nat} (h : i < l.length) : ixI l i ∈ l := by rw [ixI_get h]; exact List.getElem_mem h
theorem rdI_own {w : World} {base e n : Nat} {v : Value} {l : List Int} (h : w.ownsRow base e 1 v n (is l)) (hn : l.length = n) (hl : n ≤ 17592186044416) (hr : ∀ x ∈ l, -9223372036854775808 ≤ x ∧ x ≤ 9223372036854775807) : RdI w v l := by
  subst hn
  refine ⟨hl, ?_, fun i hi => hr _ (ixI_mem hi)⟩
  rcases h.2 with ⟨rfl, h0⟩ | ⟨g, cap, cur, rfl, hg, hh, hn, hm, hcs, ht⟩
  · rw [h0]; exact ⟨none, 0, 0, 0, rfl, by omega, fun i hi => by omega⟩
  · refine ⟨_, cap, g, 0, rfl, hn, fun i hi => ⟨rfl, ?_⟩⟩
    rw [Nat.zero_add, h.cellAt i (by omega), is_get hi]
theorem RdI.reads {w : World} {v : Value} {l : List Int} (h : RdI w v l) : Reads w 1 v l.length (is l) := by
  obtain ⟨h0, ⟨a, c, b, off, rfl, hc, hcell⟩, hr⟩ := h
  refine ⟨by simp [is_length], a, c, b, off, rfl, hc, fun i u hu => ?_⟩
  have hi : i < l.length := by have := (List.getElem?_eq_some_iff.1 hu).1; rwa [is_length] at this
  rw [is_get hi] at hu
  obtain rfl := Option.some.inj hu
  exact hcell i hi
theorem reads_lit (W : World) (l : List Int) (e : TypeId) (hl : l ≠ []) : Reads (W.alloc (.cells (is l).toArray e)) 1 (.slice (some ⟨W.heap.size, 0, none⟩) l.length l.length) l.length (is l) := by
  refine ⟨by simp [is_length], _, _, W.heap.size, 0, rfl, Nat.le_refl _, fun i u hu => ⟨rfl, ?_⟩⟩
  rw [cell_of_row _ _ _ _ _ _ (heap_alloc_new W _), Nat.zero_add]
  simpa using hu
theorem wpList_appI {P : Program} {ops : Array Oper} {rest : List Oper} {o : Oper} {a : Act} {Q : Exit → Act → World → Prop} {w : World} (hg : o.guard = none) (s x : Operand) {t : TypeId}
    (hop : o.op = .call { callee := .builtin .append, args := #[s, x], argTypes := #[t, t] }) {e : TypeId} {base : Nat}
    (ht : P.underlying t = some (.slice e)) (h2 : (P.info? e).map (fun i => (i.zero, i.size, i.bytes)) = some (some (.int .i64 0), 1, 8))
    {v : Value} {n : Nat} {l : List Int} (hown : w.ownsRow base e 1 v n (is l)) (hv : a.eval s = v) {vs : Value} {m : List Int} (hs : Reads w 1 vs m.length (is m)) (hx : a.eval x = vs)
    (h63 : n + m.length ≤ 1073741824) (hbase : base ≤ w.heap.size)
    (hK : ∀ v' w', w'.ownsRow base e 1 v' (n + m.length) (is (l ++ m)) → w.grownBy w' v.ownBlock → wpList P ops Q rest (a.put o.dst v') w') : wpList P ops Q (o :: rest) a w := by
  obtain ⟨i0, hi, hz0, hz1, hz2⟩ := info_parts h2
  refine wpList_app hg s x hop ht hi hz0 hz1 hz2 rfl (by omega) hown hv hs hx (is_one _) (by unfold maxLen; omega) (by omega) hbase fun v' w' g1 g2 g3 => ?_
  rw [← is_append] at g1
  exact hK v' w' g1 g2
theorem own_keep' {w w' : World} {base e size n : Nat} {v : Value} {xs : List Value} (h : w.ownsRow base e size v n xs) (hb : Below w.heap.size w w') : w'.ownsRow base e size v n xs := by
  refine ⟨h.1, ?_⟩
  rcases h.2 with h2 | ⟨g, cap, cur, h1, h2, h3, h4⟩
  · exact .inl h2
  · exact .inr ⟨g, cap, cur, h1, h2, (hb.block g (Array.getElem?_eq_some_iff.1 h3).1).trans h3, h4⟩
theorem ownBlock_ge' {w : World} {base e size n : Nat} {v : Value} {xs : List Value} (h : w.ownsRow base e size v n xs) : ∀ k, v.ownBlock = some k → base ≤ k := by
  intro k hk
  rcases h.2 with ⟨rfl, _⟩ | ⟨g, cap, cur, rfl, h2, _⟩
  · simp [Value.ownBlock] at hk
  · simp only [Value.ownBlock, Option.some.injEq] at hk
    omega
theorem ownsRow_nil (w : World) (base e : Nat) : w.ownsRow base e 1 (.slice none 0 0) 0 (is []) := ⟨rfl, .inl ⟨rfl, rfl⟩⟩
def pf (m i : Nat) : Int := 12 + 2 * ((m : Int) / 2 + 43 * i) + m % 2
def qf (m i : Nat) : Int := 12 + 2 * ((44 * i + 43 * ((m : Int) / 2)) % 1118) + m % 2
def pl (m k : Nat) : List Int := (List.range k).map (pf m)
def ql (m k : Nat) : List Int := (List.range k).map (qf m)
def pw (m : Nat) : List Int := pl m 26
def qw (m : Nat) : List Int := ql m 43 ++ [12 + 2 * (1118 + (m : Int) / 2) + m % 2, 12 + 2 * (1144 + (m : Int) / 2) + m % 2]
theorem pl_succ (m k : Nat) : pl m (k + 1) = pl m k ++ [pf m k] := by simp [pl, List.range_succ]
theorem ql_succ (m k : Nat) : ql m (k + 1) = ql m k ++ [qf m k] := by simp [ql, List.range_succ]
theorem pl_length (m k : Nat) : (pl m k).length = k := by simp [pl]
theorem ql_length (m k : Nat) : (ql m k).length = k := by simp [ql]
theorem pw_length (m : Nat) : (pw m).length = 26 := pl_length _ _
theorem qw_length (m : Nat) : (qw m).length = 45 := by simp [qw, ql_length]
theorem pf_bd {m i : Nat} (hm : m < 86) (hi : i < 26) : 12 ≤ pf m i ∧ pf m i < 2248 := by unfold pf; omega
theorem qf_bd {m i : Nat} (hm : m < 52) : 12 ≤ qf m i ∧ qf m i < 2248 := by unfold qf; omega
theorem pw_bd {m : Nat} (hm : m < 86) : ∀ x ∈ pw m, 12 ≤ x ∧ x < 2352 := by
  intro x hx
  simp only [pw, pl, List.mem_map, List.mem_range] at hx
  obtain ⟨i, hi, rfl⟩ := hx
  have := pf_bd hm hi
  omega
theorem qw_bd {m : Nat} (hm : m < 52) : ∀ x ∈ qw m, 12 ≤ x ∧ x < 2352 := by
  intro x hx
  simp only [qw, ql, List.mem_append, List.mem_map, List.mem_range, List.mem_cons, List.not_mem_nil, or_false] at hx
  rcases hx with ⟨i, hi, rfl⟩ | rfl | rfl
  · have := qf_bd (i := i) hm
    omega
  · omega
  · omega
def wd (k : Nat) : List Int := if k < 86 then pw k else qw (k - 86)
theorem wd_bd {k : Nat} (hk : k < 138) : ∀ x ∈ wd k, 12 ≤ x ∧ x < 2352 := by
  unfold wd
  split
  · exact pw_bd ‹_›
  · exact qw_bd (by omega)
theorem wd_length (k : Nat) : (wd k).length = if k < 86 then 26 else 45 := by
  unfold wd
  split
  · exact pw_length _
  · exact qw_length _
end Go.Proofs.YtflmjdjkfognjaaGreat.W8
namespace Go.Proofs.YtflmjdjkfognjaaGreat.C9
open Go.RowKit W8
set_option linter.unusedVariables false
theorem Tryz.sizeSc : (Tryz.prog.info? 96).map (·.size) = some 2 := by kernel_rfl
theorem Tryz.sizeInt9 : (Tryz.prog.info? 3).map (·.size) = some 1 := by kernel_rfl
theorem Tryz.infoInt9 : (Tryz.prog.info? 3).map (fun i => (i.zero, i.size, i.bytes)) = some (some (.int .i64 0), 1, 8) := by kernel_rfl
def RV (v : Value) (w : World) (e : Ending) (w' : World) : Prop := e = .returned v ∧ Below w.heap.size w w'
def scz : Sc := ⟨0, 0⟩
def scc (s : Sc) : List Value := [.int .i64 s.f, .int .i64 s.c]
def scA (l : List Sc) (i : Nat) : Sc := atD scz l i
def Wf (s : Sc) : Prop := (-9223372036854775808 ≤ s.f ∧ s.f ≤ 9223372036854775807) ∧ (-9223372036854775808 ≤ s.c ∧ s.c ≤ 9223372036854775807)
def RdSc (w : World) (v : Value) (l : List Sc) : Prop := RdD scz scc 2 w v l
theorem rd2 {w : World} {b o : Nat} {x : Sc} (h : w.rangeAt b o (scc x)) : w.cell? ⟨b, o, none⟩ = some (.int .i64 x.f) ∧ w.cell? ⟨b, o + 1, none⟩ = some (.int .i64 x.c) := ⟨h 0 _ rfl, h 1 _ rfl⟩
def frN (d : Int) : Int := if d < 1 ∨ 401408 < d then 0 else d + 108
theorem frames_any (d : Int) (w : World) : Calls Tryz.prog 84 #[.int .i64 d] w fun e w' => e = .returned (.int .i64 (frN d)) ∧ w = w' := by
  unfold frN
  by_cases h1 : d < 1
  · rw [if_pos (.inl h1)]
    go_enter Tryz.func84, Tryz.ntmps84
    go_wp2
    go_ret
    exact ⟨rfl, rfl⟩
  by_cases h2 : 401408 < d
  · rw [if_pos (.inr h2)]
    go_enter Tryz.func84, Tryz.ntmps84
    go_wp2
    go_ret
    exact ⟨rfl, rfl⟩
  rw [if_neg (by omega)]
  go_enter Tryz.func84, Tryz.ntmps84
  go_wp2
  go_ret
  exact ⟨rfl, rfl⟩
theorem fits_any (f c : Int) (n : Nat) (w : World) (hs : Wf ⟨f, c⟩) (hn : n ≤ 1000000000) :
    Calls Tryz.prog 88 #[.agg #[.int .i64 f, .int .i64 c], .int .i64 n] w (RV (.bool (fitB n ⟨f, c⟩)) w) := by
  obtain ⟨⟨f1, f2⟩, c1, c2⟩ := hs
  have hb := (Below.refl w.heap.size w).alloc (Nat.le_refl _) (.cells #[.int .i64 f, .int .i64 c] 96)
  simp only at f1 f2 c1 c2
  have no : ∀ (h : ¬ (0 ≤ f ∧ 1 ≤ c ∧ c ≤ (n : Int) ∧ f ≤ (n : Int) - c)), fitB n ⟨f, c⟩ = false := fun h => by
    rw [Bool.eq_false_iff]; intro h2; exact h ((fitB_iff n ⟨f, c⟩).1 h2)
  by_cases h1 : 0 ≤ f
  · by_cases h2 : 1 ≤ c
    · by_cases h3 : c ≤ (n : Int)
      · by_cases h4 : f ≤ (n : Int) - c
        · rw [(fitB_iff n ⟨f, c⟩).2 ⟨h1, h2, h3, h4⟩]
          clear no
          go_enter Tryz.func88, Tryz.ntmps88
          go_wp2
          go_ret
          exact ⟨rfl, hb⟩
        · rw [no (by omega)]
          clear no
          go_enter Tryz.func88, Tryz.ntmps88
          go_wp2
          go_ret
          exact ⟨rfl, hb⟩
      · rw [no (by omega)]
        clear no
        go_enter Tryz.func88, Tryz.ntmps88
        go_wp2
        go_ret
        exact ⟨rfl, hb⟩
    · rw [no (by omega)]
      clear no
      go_enter Tryz.func88, Tryz.ntmps88
      go_wp2
      go_ret
      exact ⟨rfl, hb⟩
  · rw [no (by omega)]
    clear no
    go_enter Tryz.func88, Tryz.ntmps88
    go_wp2
    go_ret
    exact ⟨rfl, hb⟩
end Go.Proofs.YtflmjdjkfognjaaGreat.C9
namespace Go.Proofs.YtflmjdjkfognjaaGreat.C9
open Go.RowKit W8
set_option linter.unusedVariables false
def fitK (n : Nat) (l : List Sc) (k : Nat) : Prop := ∀ m, m < k → fitB n (scA l m) = true
theorem scA_get {l : List Sc} {i : Nat} (h : i < l.length) : scA l i = l[i] := by simp [scA, atD, h]
theorem fitA_true {n : Nat} {l : List Sc} (h : fitK n l l.length) : fitA n l = true := by
  unfold fitA
  rw [List.all_eq_true]
  intro s hs
  obtain ⟨i, hi, rfl⟩ := List.getElem_of_mem hs
  rw [← scA_get hi]
  exact h i hi
theorem fitA_false {n : Nat} {l : List Sc} {k : Nat} (hk : k < l.length) (h : fitB n (scA l k) = false) : fitA n l = false := by
  rw [Bool.eq_false_iff]
  intro h2
  unfold fitA at h2
  rw [List.all_eq_true] at h2
  have := h2 _ (List.getElem_mem hk)
  rw [← scA_get hk, h] at this
  exact absurd this (by decide)
end Go.Proofs.YtflmjdjkfognjaaGreat.C9
namespace Go.Proofs.YtflmjdjkfognjaaGreat.C9
open Go.RowKit W8
set_option linter.unusedVariables false
theorem take_snocS {l : List Sc} {i : Nat} (h : i < l.length) : l.take (i + 1) = l.take i ++ [scA l i] := by
  rw [List.take_succ_eq_append_getElem h, scA_get h]
end Go.Proofs.YtflmjdjkfognjaaGreat.C9
namespace Go.Proofs.YtflmjdjkfognjaaGreat
open Go.RowKit
set_option linter.unusedVariables false
def Off (v : Value) (p : Nat → Prop) : Prop := ∀ k, v.ownBlock = some k → ¬ p k
def NewOr (h : Nat) (v v' : Value) : Prop := ∀ k, v'.ownBlock = some k → v.ownBlock = some k ∨ h ≤ k
theorem Off.step {h : Nat} {v v' : Value} {p : Nat → Prop} (ho : Off v p) (hn : NewOr h v v') (hp : ∀ k, h ≤ k → ¬ p k) : Off v' p := fun k hk => by
  rcases hn k hk with h1 | h1
  · exact ho k h1
  · exact hp k h1
theorem Off.nil (p : Nat → Prop) : Off (.slice none 0 0) p := fun k hk => by simp [Value.ownBlock] at hk
theorem Off.own {w : World} {base e size n : Nat} {v : Value} {xs : List Value} (h : w.ownsRow base e size v n xs) {p : Nat → Prop} (hp : ∀ k, base ≤ k → k < w.heap.size → ¬ p k) : Off v p := fun k hk => hp k (h.lt k hk).1 (h.lt k hk).2
theorem own_off {w w' : World} {b e sz n : Nat} {v u : Value} {xs : List Value} (h : w.ownsRow b e sz v n xs) (hg : w.grownBy w' u.ownBlock) (ho : ∀ k, v.ownBlock = some k → u.ownBlock ≠ some k) : w'.ownsRow b e sz v n xs := by
  refine h.kept hg ?_
  cases e : v.ownBlock with
  | none => exact .inl rfl
  | some k => exact .inr fun h2 => ho k e h2.symm
theorem bx_off {w w' : World} {g t : Nat} {cs : List Value} {u : Value} (h : Bx w g t cs) (hg : w.grownBy w' u.ownBlock) (ho : u.ownBlock ≠ some g) : Bx w' g t cs := (hg.block g h.lt fun e => ho e.symm).trans h
theorem run_apx {P : Program} {t ty e : TypeId} {i : TypeInfo} {z : Value} {size bytes base : Nat} (ht : P.underlying t = some (.slice e)) (hi : P.info? e = some i) (hz : i.zero = some z) (hsize : i.size = size) (hby : i.bytes = bytes) (hzs : z.cells.size = size) (hsz : 0 < size)
    {w : World} {v : Value} {n : Nat} {xs : List Value} (hown : w.ownsRow base e size v n xs) {a : Addr} {m c : Nat} {news : List Value} (hm : 0 < m) (hl : news.length = m * size) (hnews : ∀ j u, news[j]? = some u → w.cell? (a.add j) = some u) (h1 : ∀ u ∈ news, u.oneCell' = true)
    (h63 : n + m ≤ maxLen) (hbytes : (n + m) * bytes ≤ 140737488355328) (hbase : base ≤ w.heap.size) :
    ∃ v' w', (Builtin.append_ #[t, t] ty #[v, .slice (some a) m c]).run P w = .ok v' w' ∧ w'.ownsRow base e size v' (n + m) (xs ++ news) ∧ w.grownBy w' v.ownBlock ∧ NewOr w.heap.size v v' := by
  obtain ⟨v', w', r1, r2, r3, _⟩ := run_append_own (P := P) w base t ty e i z size bytes ht hi hz hsize hby hzs hsz v n xs hown a m c news hl hnews h1 h63 hbytes hbase
  refine ⟨v', w', r1, r2, r3, ?_⟩
  unfold maxLen at h63
  subst hsize hby
  -- which block it is, by the three ways that 'append' goes
  rcases hown.2 with ⟨rfl, rfl⟩ | ⟨g, cap, cur, rfl, _, hg, _, _, hcs, _⟩
  · have h9 := run_append_nil (P := P) w t ty e i z ht hi hz a m c news hl hnews hm (by omega) (by simp only [Nat.zero_add] at hbytes; omega)
    rw [r1] at h9
    injection h9 with e1 e2
    subst e1
    intro k hk
    simp only [Value.ownBlock, Option.some.injEq] at hk
    exact .inr (by omega)
  · by_cases hroom : n + m ≤ cap
    · have hfit : n * i.size + news.length ≤ cur.size := by rw [hl, hcs, ← Nat.add_mul]; exact Nat.mul_le_mul_right _ hroom
      have h9 := run_append_room (P := P) w t ty e i ht hi g n cap cur hg a m c news hl hnews h1 hroom hfit
      rw [r1] at h9
      injection h9 with e1 e2
      subst e1
      intro k hk
      simp only [Value.ownBlock] at hk ⊢
      exact .inl hk
    · have h9 := run_append_grow (P := P) w t ty e i z ht hi hz ⟨g, 0, none⟩ n cap xs hown.1 (hown.cells (g := g) rfl) a m c news hl hnews (by omega) (by omega) (growslice_fits (by omega) hbytes)
      rw [r1] at h9
      injection h9 with e1 e2
      subst e1
      intro k hk
      simp only [Value.ownBlock, Option.some.injEq] at hk
      exact .inr (by omega)
theorem wpList_apx {P : Program} {ops : Array Oper} {rest : List Oper} {o : Oper} {ac : Act} {Q : Exit → Act → World → Prop} {w : World} (hg : o.guard = none) (s x : Operand) {t : TypeId}
    (hop : o.op = .call { callee := .builtin .append, args := #[s, x], argTypes := #[t, t] }) {e : TypeId} {z : Value} {size bytes base : Nat}
    (ht : P.underlying t = some (.slice e)) (h2 : (P.info? e).map (fun i => (i.zero, i.size, i.bytes)) = some (some z, size, bytes)) (hzs : z.cells.size = size) (hsz : 0 < size)
    {v : Value} {n : Nat} {xs : List Value} (hown : w.ownsRow base e size v n xs) (hv : ac.eval s = v) {a : Addr} {m c : Nat} {news : List Value} (hx : ac.eval x = .slice (some a) m c) (hm : 0 < m) (hl : news.length = m * size) (hnews : ∀ j u, news[j]? = some u → w.cell? (a.add j) = some u) (h1 : ∀ u ∈ news, u.oneCell' = true)
    (h63 : n + m ≤ maxLen) (hbytes : (n + m) * bytes ≤ 140737488355328) (hbase : base ≤ w.heap.size)
    (hK : ∀ v' w', w'.ownsRow base e size v' (n + m) (xs ++ news) → w.grownBy w' v.ownBlock → NewOr w.heap.size v v' → wpList P ops Q rest (ac.put o.dst v') w') : wpList P ops Q (o :: rest) ac w := by
  obtain ⟨i0, hi, hz0, hz1, hz2⟩ := info_parts h2
  refine wpList_plain hg fun K hK' => ?_
  obtain ⟨v', w', hrun, r1, r2, r3⟩ := run_apx (ty := o.type) ht hi hz0 hz1 hz2 hzs hsz hown hm hl hnews h1 h63 hbytes hbase
  obtain ⟨vs, hvs⟩ : ∃ vs, vs = Value.slice (some a) m c := ⟨_, rfl⟩
  rw [← hvs] at hx hrun
  unfold Oper.wp
  simp [execOp, hop, resolve, invoke, builtin, hv, hx, hrun, Result.andThen]
  exact hK' _ _ (hK v' w' r1 r2 r3)
theorem wpList_ap1 {P : Program} {ops : Array Oper} {rest : List Oper} {o : Oper} {ac : Act} {Q : Exit → Act → World → Prop} {w : World} (hg : o.guard = none) (s x : Operand) {t : TypeId}
    (hop : o.op = .call { callee := .builtin .append, args := #[s, x], argTypes := #[t, t] }) {e : TypeId} {z : Value} {bytes base : Nat}
    (ht : P.underlying t = some (.slice e)) (h2 : (P.info? e).map (fun i => (i.zero, i.size, i.bytes)) = some (some z, 1, bytes)) (hzs : z.cells.size = 1)
    {v : Value} {n : Nat} {xs : List Value} (hown : w.ownsRow base e 1 v n xs) (hv : ac.eval s = v) {g : Nat} {y : Value} (hx : ac.eval x = .slice (some ⟨g, 0, none⟩) 1 1) (hc : w.cell? ⟨g, 0, none⟩ = some y) (h1 : y.oneCell' = true)
    (h63 : n + 1 ≤ maxLen) (hbytes : (n + 1) * bytes ≤ 140737488355328) (hbase : base ≤ w.heap.size)
    (hK : ∀ v' w', w'.ownsRow base e 1 v' (n + 1) (xs ++ [y]) → w.grownBy w' v.ownBlock → NewOr w.heap.size v v' → wpList P ops Q rest (ac.put o.dst v') w') : wpList P ops Q (o :: rest) ac w :=
  wpList_apx hg s x hop ht h2 hzs (by omega) hown hv (a := ⟨g, 0, none⟩) (m := 1) (news := [y]) hx (by omega) rfl (fun j u hu => by
    cases j with
    | zero =>
      simp only [List.getElem?_cons_zero, Option.some.injEq] at hu
      subst hu
      exact hc
    | succ j => simp at hu) (fun u hu => by simp only [List.mem_singleton] at hu; rw [hu]; exact h1) h63 hbytes hbase hK
end Go.Proofs.YtflmjdjkfognjaaGreat
namespace Go.Proofs.YtflmjdjkfognjaaGreat.C9
open Go.RowKit W8
set_option linter.unusedVariables false
def lostR (d : Int) (l : List Sc) : List Int × Int := if d < 1 ∨ 401408 < d then ([], 1) else if fitA (d.toNat + 108) l = false then ([], 1) else (lostN l d.toNat, 0)
def LostP (R : List Int × Int) (w : World) (e : Ending) (w' : World) : Prop := ∃ v, e = .returned (.tuple #[v, .int .i64 R.2]) ∧ w'.ownsRow w.heap.size 3 1 v R.1.length (is R.1) ∧ Below w.heap.size w w'
theorem LostP.none (c : Int) {w : World} {e : Ending} {w' : World} (he : e = .returned (.tuple #[.slice none 0 0, .int .i64 c])) (hb : Below w.heap.size w w') : LostP ([], c) w e w' := ⟨_, he, ownsRow_nil _ _ _, hb⟩
theorem frN_ok {n : Nat} (h1 : 1 ≤ n) (h2 : n ≤ 401408) : frN n = ((n + 108 : Nat) : Int) := by unfold frN; rw [if_neg (by omega)]; omega
theorem ixI_some {E : List Int} {k : Nat} (h : k < E.length) : E[k]? = some (ixI E k) := by rw [ixI_get h]; exact List.getElem?_eq_getElem h
end Go.Proofs.YtflmjdjkfognjaaGreat.C9
namespace Go.Proofs.YtflmjdjkfognjaaGreat.C9
open Go.RowKit W8
set_option linter.unusedVariables false
def ErB (eb : Nat) (E : List Int) (W : World) : Prop := ∃ ve, Bx W eb 53 [ve] ∧ W.ownsRow (eb + 1) 3 1 ve E.length (is E)
def ErP (eb : Nat) (E : List Int) (w : World) (e : Ending) (w' : World) : Prop := e = .returned (.tuple #[]) ∧ ErB eb E w' ∧ Below eb w w'
end Go.Proofs.YtflmjdjkfognjaaGreat.C9
namespace Go.Proofs.YtflmjdjkfognjaaGreat.C9
open Go.RowKit W8
set_option linter.unusedVariables false
section
variable {w0 W W' : World} {N gg gb gt : Nat} {G T : List Bool}
end
end Go.Proofs.YtflmjdjkfognjaaGreat.C9
namespace Go.Proofs.YtflmjdjkfognjaaGreat
open Go.RowKit
set_option linter.unusedVariables false
theorem ginv_all (x : Int) (a : UInt8) (w : World) (hx : x = a.toNat) :
    Calls Tryz.prog 200 #[.int .u8 x] w fun e w' => ∃ k : Int, e = .returned (.tuple #[B (G.inv a), .int .i64 k]) ∧ Below w.heap.size w w' := by
  subst hx
  refine (inv_any a.toNat w (G.lt a)).mono fun e w' ⟨h1, h2⟩ => ⟨if a.toNat = 0 then 1 else 0, ?_, h2⟩
  rw [h1, invV, B, G.toNat_inv]
def RdX (b : Nat) (w : World) (v : Value) (l : List UInt8) : Prop :=
  l.length ≤ 140737488351232 ∧ ∃ a cap bb off, v = .slice a l.length cap ∧ l.length ≤ cap ∧ ∀ i, i < l.length → a = some ⟨bb, off, none⟩ ∧ bb ≠ b ∧ w.cell? ⟨bb, off + i, none⟩ = some (B (G.ix l i))
theorem RdX.rd {b : Nat} {w : World} {v : Value} {l : List UInt8} (h : RdX b w v l) : Rd w v l := by
  obtain ⟨h0, a, c, bb, off, e, hc, h⟩ := h
  exact ⟨h0, a, c, bb, off, e, hc, fun i hi => ⟨(h i hi).1, (h i hi).2.2⟩⟩
theorem RdX.keepW {b : Nat} {w w' : World} {v : Value} {l : List UInt8} (h : RdX b w v l) (hb : ∀ k, k < w.heap.size → k ≠ b → w'.heap[k]? = w.heap[k]?) : RdX b w' v l := by
  obtain ⟨h0, a, c, bb, off, e, hc, h⟩ := h
  refine ⟨h0, a, c, bb, off, e, hc, fun i hi => ⟨(h i hi).1, (h i hi).2.1, ?_⟩⟩
  have e := (h i hi).2.2
  rw [← e]
  exact World.cell?_of_block (hb bb (World.block_lt_of_cell? w _ e) (h i hi).2.1)
theorem RdX.keep {b : Nat} {w w' : World} {v : Value} {l : List UInt8} (h : RdX b w v l) (hb : Below w.heap.size w w') : RdX b w' v l := h.keepW fun k hk _ => hb.block k hk
theorem RdX.drew {b : Nat} {w : World} {v : Value} {l : List UInt8} (h : RdX b w v l) : RdX b w.drew v l := h.keepW fun k hk _ => rfl
theorem RdX.set {b o : Nat} {w : World} {v u : Value} {l : List UInt8} (h : RdX b w v l) : RdX b (w.setCell ⟨b, o, none⟩ u) v l := h.keepW fun k hk hne => Below.heap_setCell _ _ _ _ hne
theorem Rd.x {b : Nat} {w : World} {v : Value} {l : List UInt8} (h : Rd w v l) (hb : w.heap.size ≤ b) : RdX b w v l := by
  obtain ⟨h0, a, c, bb, off, e, hc, h⟩ := h
  refine ⟨h0, a, c, bb, off, e, hc, fun i hi => ⟨(h i hi).1, ?_, (h i hi).2⟩⟩
  have := World.block_lt_of_cell? w _ (h i hi).2
  simp at this
  omega
theorem RdX.ofOwn {b : Nat} {w : World} {base e n : Nat} {v : Value} {l : List UInt8} (h : w.ownsRow base e 1 v n (bs l)) (hn : l.length = n) (hb : b < base) (hl : l.length ≤ 140737488351232) : RdX b w v l := by
  subst hn
  refine ⟨hl, ?_⟩
  rcases h.2 with ⟨rfl, h0⟩ | ⟨g, cap, cur, rfl, hg, hh, hn, hm, hcs, ht⟩
  · rw [h0]; exact ⟨none, 0, 0, 0, rfl, by omega, fun i hi => by omega⟩
  · refine ⟨_, cap, g, 0, rfl, hn, fun i hi => ⟨rfl, by omega, ?_⟩⟩
    rw [Nat.zero_add, h.cellAt i (by omega), bs_get hi]
theorem gmul_B (a b : UInt8) (w : World) :
    Calls Tryz.prog 201 #[B a, B b] w fun e w' => e = .returned (B (G.mul a b)) ∧ w = w' := gmul_at _ _ a b w rfl rfl
set_option maxRecDepth 100000 in
set_option maxHeartbeats 4000000 in
theorem repair_any (p psi om : List UInt8) (vp vo : Value) (w : World) (hpl : p.length ≤ 255) (hp : Rd w vp psi) (ho : Rd w vo om) (hp1 : 1 ≤ psi.length) :
    Calls Tryz.prog 162 #[.string (str p), vp, vo] w fun e w' => e = .returned (.string (str (G.repair p psi om))) ∧ Below w.heap.size w w' := by
  have hs := str_size p
  obtain ⟨pa, pc, rfl⟩ := hp.form
  obtain ⟨oa, oc, rfl⟩ := ho.form
  have hpsl := hp.1
  obtain ⟨n, hn⟩ : ∃ n, n = p.length := ⟨_, rfl⟩
  rw [← hn] at hpl hs
  have HN := Lib.hid hn; clear hn
  have hsz : (str p).data.toList = p := rfl
  have HZ := Lib.hid hsz; clear hsz
  go_enter Tryz.func162, Tryz.ntmps162
  go_wp2_with (refine wpList_bytes rfl _ rfl Tryz.underlying9 Tryz.underlying123 Tryz.underlying5 rfl ?_; intro w2 cap hr2 hb2 hcap; have hp2 := (hp.x (Nat.le_refl _)).keepW (fun k hk _ => hb2.block k hk); have ho2 := (ho.x (Nat.le_refl _)).keepW (fun k hk _ => hb2.block k hk))
  rw [HZ.out] at hr2
  have hw2 : w.heap.size < w2.heap.size := hr2.lt
  refine (derivative_any _ psi _ hp2.rd hp1).mono ?_
  rintro e w3 ⟨vd, rfl, hod, hb3⟩
  have hd3 : RdX w.heap.size w3 vd (G.deriv psi) := RdX.ofOwn hod (deriv_length _) hw2 (by rw [deriv_length]; omega)
  have hp3 := hp2.keep hb3
  have ho3 := ho2.keep hb3
  have hr3 := hr2.below hb3
  have hB3 := hb2.trans (hb3.mono hb2.size)
  clear hod hb3 hp2 ho2 hr2
  go_wp2_with fail
  refine (ginv_all _ 2 _ rfl).mono ?_
  rintro e w4 ⟨k2, rfl, hb4⟩
  have hd4 := hd3.keep hb4
  have hp4 := hp3.keep hb4
  have ho4 := ho3.keep hb4
  have hr4 := hr3.below hb4
  have hB4 := hB3.trans (hb4.mono hB3.size)
  clear hd3 hp3 ho3 hr3 hB3 hb4
  obtain ⟨half, hhalf⟩ : ∃ half, half = G.inv 2 := ⟨_, rfl⟩
  rw [← hhalf]
  have HH := Lib.hid hhalf; clear hhalf
  obtain ⟨dl, da, dc, rfl⟩ : ∃ dl da dc, vd = .slice da dl dc := by
    obtain ⟨a, c, rfl⟩ := hd4.rd.form
    exact ⟨_, _, _, rfl⟩
  have hwg : w.heap.size ≤ w.heap.size := Nat.le_refl _
  go_wp2_with fail
  go_loopw [11, 12, 13] (fun vx vy vi wr => ∃ (m j : Nat) (R : List UInt8), m + j = n ∧ vx = B (G.exp j) ∧ vy = B (G.hp j) ∧ vi = .int .i64 ((m : Int) - 1) ∧ Row wr 5 w.heap.size cap R ∧ Hid (R.length = n) ∧ Hid (∀ i, i < n → G.ix R i = if i < m then G.ix p i else G.ix p i ^^^ G.fixB psi om (n - 1 - i)) ∧
    RdX w.heap.size wr (.slice pa psi.length pc) psi ∧ RdX w.heap.size wr (.slice oa om.length oc) om ∧ RdX w.heap.size wr (.slice da dl dc) (G.deriv psi) ∧ Below w.heap.size w wr) (fun _ _ vi _ => (intOf vi + 1).toNat)
  case atStart => exact ⟨n, 0, p, by omega, by rw [G.exp_zero]; rfl, rfl, rfl, hr4, Lib.hid HN.out.symm, Lib.hid (fun i hi => by rw [if_pos hi]), hp4, ho4, hd4, hB4⟩
  case round =>
    clear hr4 hp4 ho4 hd4 hB4 hp ho hb2
    obtain ⟨m, j, R, hmj, rfl, rfl, rfl, hr, HL, HI, hp, ho, hd, hb⟩ := hrel
    by_cases h0m : m = 0
    · subst h0m
      obtain ⟨l', hl'⟩ : ∃ l', l' = n := ⟨_, rfl⟩
      have hrd : Rd wr (.slice (some ⟨w.heap.size, 0, none⟩) n cap) R := by
        have := hr.rd (by rw [HL.out]; omega)
        rwa [HL.out] at this
      have hcx := run_str (P := Tryz.prog) Tryz.underlying123 Tryz.underlying5 Tryz.underlying9 hrd
      clear hl'
      go_wp2_with fail
      go_ret
      have e : R = G.repair p psi om := by
        apply G.ext_ix
        · rw [HL.out, G.repair_length, HN.out]
        · intro i hi
          rw [HL.out] at hi
          rw [HI.out i hi, if_neg (by omega), G.ix_repair p psi om i (by rw [← HN.out]; exact hi), HN.out]
      rw [← e]
      exact ⟨rfl, hb⟩
    · obtain ⟨k, rfl⟩ : ∃ k, m = k + 1 := ⟨m - 1, by omega⟩
      have hk1 : ((k + 1 : Nat) : Int) - 1 = k := by omega
      simp only [hk1]
      have hkn : k < n := by omega
      have HJ : Hid (n - 1 - k = j) := Lib.hid (by omega)
      have hRk := HI.out k hkn
      rw [if_pos (by omega)] at hRk
      have HRk := Lib.hid hRk; clear hRk
      obtain ⟨X, hX⟩ : ∃ X, X = G.exp j := ⟨_, rfl⟩
      obtain ⟨Y, hY⟩ : ∃ Y, Y = G.hp j := ⟨_, rfl⟩
      rw [← hX, ← hY]
      have HX : Hid (G.mul X 2 = G.exp (j + 1)) := Lib.hid (by rw [hX, G.exp_add, G.exp_one])
      have HY : Hid (G.mul Y half = G.hp (j + 1)) := Lib.hid (by rw [hY, HH.out]; rfl)
      have HXj := Lib.hid hX; clear hX
      have HYj := Lib.hid hY; clear hY
      go_wp2_with fail
      refine (at_any _ _ psi Y _ rfl hp.rd).mono ?_
      rintro e w5 ⟨rfl, hb5⟩
      have hp5 := hp.keep hb5
      have ho5 := ho.keep hb5
      have hd5 := hd.keep hb5
      have hr5 := hr.below hb5
      have hB5 := hb.trans (hb5.mono hb.size)
      clear hp ho hd hr hb hb5
      obtain ⟨V, hV⟩ : ∃ V, V = G.val psi Y := ⟨_, rfl⟩
      rw [← hV]
      have HV := Lib.hid hV; clear hV
      by_cases hz : V = 0
      · have hzb : ((V.toNat : Int) == 0) = true := by rw [hz]; rfl
        have Hz := Lib.hid hz; clear hz
        go_wp2_with fail
        refine (at_any _ _ _ Y _ rfl hd5.rd).mono ?_
        rintro e w6 ⟨rfl, hb6⟩
        have hp6 := hp5.keep hb6
        have ho6 := ho5.keep hb6
        have hd6 := hd5.keep hb6
        have hr6 := hr5.below hb6
        have hB6 := hB5.trans (hb6.mono hB5.size)
        clear hp5 ho5 hd5 hr5 hB5 hb6
        obtain ⟨S, hS⟩ : ∃ S, S = G.val (G.deriv psi) Y := ⟨_, rfl⟩
        rw [← hS]
        have HS := Lib.hid hS; clear hS
        go_wp2_with fail
        refine (ginv_all _ S _ rfl).mono ?_
        rintro e w7 ⟨kd, rfl, hb7⟩
        have hp7 := hp6.keep hb7
        have ho7 := ho6.keep hb7
        have hd7 := hd6.keep hb7
        have hr7 := hr6.below hb7
        have hB7 := hB6.trans (hb7.mono hB6.size)
        clear hp6 ho6 hd6 hr6 hB6 hb7
        obtain ⟨d, hdv⟩ : ∃ d, d = G.inv S := ⟨_, rfl⟩
        rw [← hdv]
        have HD := Lib.hid hdv; clear hdv
        go_wp2_with fail
        have hod := ho7.drew
        have hpd := hp7.drew
        have hdd := hd7.drew
        have hL := HL.out
        have hcd := hr7.drew.cell k (by omega)
        have hk256 : k < n := hkn
        obtain ⟨O, hO⟩ : ∃ O, O = G.val om Y := ⟨_, rfl⟩
        have HO := Lib.hid hO; clear hO hL
        have HCall : Hid (Calls Tryz.prog 208 #[.slice oa om.length oc, B Y] w7.drew fun e w' => e = .returned (B O) ∧ w'.cell? ⟨w.heap.size, k, none⟩ = some (B (G.ix R k)) ∧ w'.frozen? ⟨w.heap.size, k, none⟩ = false ∧
            Row w' 5 w.heap.size cap R ∧ RdX w.heap.size w' (.slice pa psi.length pc) psi ∧ RdX w.heap.size w' (.slice oa om.length oc) om ∧ RdX w.heap.size w' (.slice da dl dc) (G.deriv psi) ∧ Below w.heap.size w w') := Lib.hid (by
          refine (at_any _ _ om Y _ rfl hod.rd).mono ?_
          rintro e w8 ⟨rfl, hb8⟩
          rw [← HO.out]
          have hr8 := hr7.drew.below hb8
          have hL := HL.out
          exact ⟨rfl, hr8.cell k (by omega), hr8.frozen k (by have := hr8.le; omega), hr8, hpd.keep hb8, hod.keep hb8, hdd.keep hb8, hB7.drew.trans (hb8.mono hB7.drew.size)⟩)
        rw [HRk.out] at hcd
        rw [HRk.out] at HCall
        clear hr7 hp7 ho7 hd7
        go_region_with (first | (go_at_call 208; refine HCall.out.mono ?_; rintro e w8 ⟨rfl, hc8, hf8, hr8, hp8, ho8, hd8, hB8⟩) | (go_at_call 201; (with_reducible refine (gmul_B _ _ _).mono ?_); rintro e w' ⟨rfl, rfl⟩))
        all_goals
          rw [xorB]
          have hL := HL.out
          have hr9 := hr8.store k (G.ix p k ^^^ G.mul X (G.mul O d)) (by omega)
          have hp9 := hp8.set (o := k) (u := B (G.ix p k ^^^ G.mul X (G.mul O d)))
          have ho9 := ho8.set (o := k) (u := B (G.ix p k ^^^ G.mul X (G.mul O d)))
          have hd9 := hd8.set (o := k) (u := B (G.ix p k ^^^ G.mul X (G.mul O d)))
          have hB9 := hB8.setCell (p := ⟨w.heap.size, k, none⟩) hwg (B (G.ix p k ^^^ G.mul X (G.mul O d)))
          clear hr8 hp8 ho8 hd8 hB8 hc8 hf8 hcd hL
          generalize w8.setCell ⟨w.heap.size, k, none⟩ (B (G.ix p k ^^^ G.mul X (G.mul O d))) = w9 at hr9 hp9 ho9 hd9 hB9 ⊢
          go_wp2_with fail
          refine (gmul_at _ _ X 2 _ rfl rfl).mono ?_
          rintro e w' ⟨rfl, rfl⟩
          rw [HX.out]
          go_wp2_with fail
          refine (gmul_at _ _ Y half _ rfl rfl).mono ?_
          rintro e w' ⟨rfl, rfl⟩
          rw [HY.out]
          go_wp2_with fail
          go_roundw
          case rel =>
            refine ⟨k, j + 1, R.set k (G.ix p k ^^^ G.mul X (G.mul O d)), by omega, rfl, rfl, rfl, hr9, Lib.hid (by rw [List.length_set, HL.out]), Lib.hid fun i hi => ?_, hp9, ho9, hd9, hB9⟩
            have hL := HL.out
            by_cases e : i = k
            · subst e
              rw [ix_set_self _ _ (by omega), if_neg (by omega), HJ.out]
              unfold G.fixB
              rw [← HYj.out, ← HXj.out, if_pos (by rw [← HV.out]; exact Hz.out), HO.out, HD.out, HS.out]
            · have := HI.out i hi
              rw [ix_set_ne _ _ e, this]
              have e2 : (i < k + 1) ↔ (i < k) := by omega
              simp only [e2]
          case measure => simp [intOf]
      · have hzb : ((V.toNat : Int) == 0) = false := by rw [byte_beq0]; simpa using hz
        have Hz := Lib.hid hz; clear hz
        go_wp2_with fail
        refine (gmul_at _ _ X 2 _ rfl rfl).mono ?_
        rintro e w' ⟨rfl, rfl⟩
        rw [HX.out]
        go_wp2_with fail
        refine (gmul_at _ _ Y half _ rfl rfl).mono ?_
        rintro e w' ⟨rfl, rfl⟩
        rw [HY.out]
        go_wp2_with fail
        go_roundw
        case rel =>
          refine ⟨k, j + 1, R, by omega, rfl, rfl, rfl, hr5, HL, Lib.hid fun i hi => ?_, hp5, ho5, hd5, hB5⟩
          rw [HI.out i hi]
          by_cases e : i = k
          · subst e
            rw [if_pos (by omega), if_neg (by omega), HJ.out]
            unfold G.fixB
            rw [← HYj.out, if_neg (by rw [← HV.out]; exact Hz.out)]
            simp
          · have e2 : (i < k + 1) ↔ (i < k) := by omega
            simp only [e2]
        case measure => simp [intOf]
end Go.Proofs.YtflmjdjkfognjaaGreat
