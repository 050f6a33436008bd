/- Shaken out of XWm XCw XCx XCy XAp XCz XD1 XD2 XD3 -/
import Derived.Test.YtflmjdjkfognjaaGreatTp34
import Derived.Test.YtflmjdjkfognjaaGreatTp05
import Derived.Test.YtflmjdjkfognjaaGreatTp08
import Derived.Test.YtflmjdjkfognjaaGreatTp18
import Derived.Outline
import Derived.Deep.Cut
import Derived.Deep.CutRange
import Derived.Test.YtflmjdjkfognjaaGreatTp06
import Derived.Test.YtflmjdjkfognjaaGreatTp19
namespace Go.Proofs.YtflmjdjkfognjaaGreat.W8
open Go.RowKit Go.Shelf
set_option linter.unusedVariables false
theorem ext_str (l : List UInt8) (n : Nat) : (str l).extract 0 n = str (l.take n) := by
  unfold str
  ext1
  simp [ByteArray.extract, ByteArray.copySlice]
theorem soundN_of {R : List UInt8} {f : Int} : ∀ k, (∀ j, j < k → G.validB (takeL R (wd j) f) 2 = true) → soundN R f k = true
  | 0, _ => rfl
  | k + 1, h => by rw [soundN, soundN_of k (fun j hj => h j (by omega)), h k (by omega)]; rfl
theorem fst_16 (m : Int) : fstI m ≤ 16 := by unfold fstI; split <;> (try split) <;> omega
theorem enc8_ok {raw : List UInt8} {m : Int} (hl : raw.length = 2352) (hm : fstB m = true) : enc8 raw m = (encN raw (fstI m) 138, 0) := by
  unfold enc8 fitB
  rw [hl, hm]
  rfl
theorem vld_enc {raw : List UInt8} {m : Int} (hl : raw.length = 2352) (hm : fstB m = true) : vldB (encN raw (fstI m) 138) m = true := by
  unfold vldB soundB
  rw [hm, encN_length, hl, soundN_of 138 (enc_words hl (fst_16 m) 138 (Nat.le_refl _))]
  rfl
theorem take_enc {raw : List UInt8} {f : Int} (hl : raw.length = 2352) : (encN raw f 138).take 2076 = raw.take 2076 := by
  apply G.ext_ix
  · rw [List.length_take, List.length_take, encN_length]
  · intro i hi
    have h1 : i < 2076 := by rw [List.length_take] at hi; omega
    rw [ix_take h1, ix_take h1, enc_keeps hl i h1 138 (Nat.le_refl _)]
end Go.Proofs.YtflmjdjkfognjaaGreat.W8
namespace Go.Proofs.YtflmjdjkfognjaaGreat.C9
open Go.RowKit W8
set_option linter.unusedVariables false
theorem Tryz.sizeSc : (Tryz.prog.info? 96).map (·.size) = some 2 := by kernel_rfl
theorem Tryz.sizeInt9 : (Tryz.prog.info? 3).map (·.size) = some 1 := by kernel_rfl
theorem Tryz.infoInt9 : (Tryz.prog.info? 3).map (fun i => (i.zero, i.size, i.bytes)) = some (some (.int .i64 0), 1, 8) := by kernel_rfl
/-- what a function ends with that returns one value -/
def RV (v : Value) (w : World) (e : Ending) (w' : World) : Prop := e = .returned v ∧ Below w.heap.size w w'
/-- scratches as cells -/
def scz : Sc := ⟨0, 0⟩
def scc (s : Sc) : List Value := [.int .i64 s.f, .int .i64 s.c]
def scA (l : List Sc) (i : Nat) : Sc := atD scz l i
def Wf (s : Sc) : Prop := (-9223372036854775808 ≤ s.f ∧ s.f ≤ 9223372036854775807) ∧ (-9223372036854775808 ≤ s.c ∧ s.c ≤ 9223372036854775807)
def RdSc (w : World) (v : Value) (l : List Sc) : Prop := RdD scz scc 2 w v l
theorem rd2 {w : World} {b o : Nat} {x : Sc} (h : w.rangeAt b o (scc x)) : w.cell? ⟨b, o, none⟩ = some (.int .i64 x.f) ∧ w.cell? ⟨b, o + 1, none⟩ = some (.int .i64 x.c) := ⟨h 0 _ rfl, h 1 _ rfl⟩
def frN (d : Int) : Int := if d < 1 ∨ 401408 < d then 0 else d + 108
theorem frames_any (d : Int) (w : World) : Calls Tryz.prog 84 #[.int .i64 d] w fun e w' => e = .returned (.int .i64 (frN d)) ∧ w = w' := by
  unfold frN
  by_cases h1 : d < 1
  · rw [if_pos (.inl h1)]
    go_enter Tryz.func84, Tryz.ntmps84
    go_wp2
    go_ret
    exact ⟨rfl, rfl⟩
  by_cases h2 : 401408 < d
  · rw [if_pos (.inr h2)]
    go_enter Tryz.func84, Tryz.ntmps84
    go_wp2
    go_ret
    exact ⟨rfl, rfl⟩
  rw [if_neg (by omega)]
  go_enter Tryz.func84, Tryz.ntmps84
  go_wp2
  go_ret
  exact ⟨rfl, rfl⟩
theorem fits_any (f c : Int) (n : Nat) (w : World) (hs : Wf ⟨f, c⟩) (hn : n ≤ 1000000000) :
    Calls Tryz.prog 88 #[.agg #[.int .i64 f, .int .i64 c], .int .i64 n] w (RV (.bool (fitB n ⟨f, c⟩)) w) := by
  obtain ⟨⟨f1, f2⟩, c1, c2⟩ := hs
  have hb := (Below.refl w.heap.size w).alloc (Nat.le_refl _) (.cells #[.int .i64 f, .int .i64 c] 96)
  simp only at f1 f2 c1 c2
  have no : ∀ (h : ¬ (0 ≤ f ∧ 1 ≤ c ∧ c ≤ (n : Int) ∧ f ≤ (n : Int) - c)), fitB n ⟨f, c⟩ = false := fun h => by
    rw [Bool.eq_false_iff]; intro h2; exact h ((fitB_iff n ⟨f, c⟩).1 h2)
  by_cases h1 : 0 ≤ f
  · by_cases h2 : 1 ≤ c
    · by_cases h3 : c ≤ (n : Int)
      · by_cases h4 : f ≤ (n : Int) - c
        · rw [(fitB_iff n ⟨f, c⟩).2 ⟨h1, h2, h3, h4⟩]
          clear no
          go_enter Tryz.func88, Tryz.ntmps88
          go_wp2
          go_ret
          exact ⟨rfl, hb⟩
        · rw [no (by omega)]
          clear no
          go_enter Tryz.func88, Tryz.ntmps88
          go_wp2
          go_ret
          exact ⟨rfl, hb⟩
      · rw [no (by omega)]
        clear no
        go_enter Tryz.func88, Tryz.ntmps88
        go_wp2
        go_ret
        exact ⟨rfl, hb⟩
    · rw [no (by omega)]
      clear no
      go_enter Tryz.func88, Tryz.ntmps88
      go_wp2
      go_ret
      exact ⟨rfl, hb⟩
  · rw [no (by omega)]
    clear no
    go_enter Tryz.func88, Tryz.ntmps88
    go_wp2
    go_ret
    exact ⟨rfl, hb⟩
end Go.Proofs.YtflmjdjkfognjaaGreat.C9
namespace Go.Proofs.YtflmjdjkfognjaaGreat.C9
open Go.RowKit W8
set_option linter.unusedVariables false
/-- the first 'k' scratches fit -/
def fitK (n : Nat) (l : List Sc) (k : Nat) : Prop := ∀ m, m < k → fitB n (scA l m) = true
theorem scA_get {l : List Sc} {i : Nat} (h : i < l.length) : scA l i = l[i] := by simp [scA, atD, h]
theorem fitA_true {n : Nat} {l : List Sc} (h : fitK n l l.length) : fitA n l = true := by
  unfold fitA
  rw [List.all_eq_true]
  intro s hs
  obtain ⟨i, hi, rfl⟩ := List.getElem_of_mem hs
  rw [← scA_get hi]
  exact h i hi
theorem fitA_false {n : Nat} {l : List Sc} {k : Nat} (hk : k < l.length) (h : fitB n (scA l k) = false) : fitA n l = false := by
  rw [Bool.eq_false_iff]
  intro h2
  unfold fitA at h2
  rw [List.all_eq_true] at h2
  have := h2 _ (List.getElem_mem hk)
  rw [← scA_get hk, h] at this
  exact absurd this (by decide)
end Go.Proofs.YtflmjdjkfognjaaGreat.C9
namespace Go.Proofs.YtflmjdjkfognjaaGreat.C9
open Go.RowKit W8
set_option linter.unusedVariables false
theorem take_snocS {l : List Sc} {i : Nat} (h : i < l.length) : l.take (i + 1) = l.take i ++ [scA l i] := by
  rw [List.take_succ_eq_append_getElem h, scA_get h]
end Go.Proofs.YtflmjdjkfognjaaGreat.C9
namespace Go.Proofs.YtflmjdjkfognjaaGreat
open Go.RowKit
set_option linter.unusedVariables false
/-- the slice lies in no block that 'p' names -/
def Off (v : Value) (p : Nat → Prop) : Prop := ∀ k, v.ownBlock = some k → ¬ p k
/-- the slice 'v'' lies where 'v' lay, or in a block from 'h' on -/
def NewOr (h : Nat) (v v' : Value) : Prop := ∀ k, v'.ownBlock = some k → v.ownBlock = some k ∨ h ≤ k
theorem Off.step {h : Nat} {v v' : Value} {p : Nat → Prop} (ho : Off v p) (hn : NewOr h v v') (hp : ∀ k, h ≤ k → ¬ p k) : Off v' p := fun k hk => by
  rcases hn k hk with h1 | h1
  · exact ho k h1
  · exact hp k h1
theorem Off.nil (p : Nat → Prop) : Off (.slice none 0 0) p := fun k hk => by simp [Value.ownBlock] at hk
theorem Off.own {w : World} {base e size n : Nat} {v : Value} {xs : List Value} (h : w.ownsRow base e size v n xs) {p : Nat → Prop} (hp : ∀ k, base ≤ k → k < w.heap.size → ¬ p k) : Off v p := fun k hk => hp k (h.lt k hk).1 (h.lt k hk).2
/-- what another row holds stays -/
theorem own_off {w w' : World} {b e sz n : Nat} {v u : Value} {xs : List Value} (h : w.ownsRow b e sz v n xs) (hg : w.grownBy w' u.ownBlock) (ho : ∀ k, v.ownBlock = some k → u.ownBlock ≠ some k) : w'.ownsRow b e sz v n xs := by
  refine h.kept hg ?_
  cases e : v.ownBlock with
  | none => exact .inl rfl
  | some k => exact .inr fun h2 => ho k e h2.symm
theorem bx_off {w w' : World} {g t : Nat} {cs : List Value} {u : Value} (h : Bx w g t cs) (hg : w.grownBy w' u.ownBlock) (ho : u.ownBlock ≠ some g) : Bx w' g t cs := (hg.block g h.lt fun e => ho e.symm).trans h
/-- 'append(v, x, ..)' of elements that lie in memory -/
theorem run_apx {P : Program} {t ty e : TypeId} {i : TypeInfo} {z : Value} {size bytes base : Nat} (ht : P.underlying t = some (.slice e)) (hi : P.info? e = some i) (hz : i.zero = some z) (hsize : i.size = size) (hby : i.bytes = bytes) (hzs : z.cells.size = size) (hsz : 0 < size)
    {w : World} {v : Value} {n : Nat} {xs : List Value} (hown : w.ownsRow base e size v n xs) {a : Addr} {m c : Nat} {news : List Value} (hm : 0 < m) (hl : news.length = m * size) (hnews : ∀ j u, news[j]? = some u → w.cell? (a.add j) = some u) (h1 : ∀ u ∈ news, u.oneCell' = true)
    (h63 : n + m ≤ maxLen) (hbytes : (n + m) * bytes ≤ 140737488355328) (hbase : base ≤ w.heap.size) :
    ∃ v' w', (Builtin.append_ #[t, t] ty #[v, .slice (some a) m c]).run P w = .ok v' w' ∧ w'.ownsRow base e size v' (n + m) (xs ++ news) ∧ w.grownBy w' v.ownBlock ∧ NewOr w.heap.size v v' := by
  obtain ⟨v', w', r1, r2, r3, _⟩ := run_append_own (P := P) w base t ty e i z size bytes ht hi hz hsize hby hzs hsz v n xs hown a m c news hl hnews h1 h63 hbytes hbase
  refine ⟨v', w', r1, r2, r3, ?_⟩
  unfold maxLen at h63
  subst hsize hby
  -- which block it is, by the three ways that 'append' goes
  rcases hown.2 with ⟨rfl, rfl⟩ | ⟨g, cap, cur, rfl, _, hg, _, _, hcs, _⟩
  · have h9 := run_append_nil (P := P) w t ty e i z ht hi hz a m c news hl hnews hm (by omega) (by simp only [Nat.zero_add] at hbytes; omega)
    rw [r1] at h9
    injection h9 with e1 e2
    subst e1
    intro k hk
    simp only [Value.ownBlock, Option.some.injEq] at hk
    exact .inr (by omega)
  · by_cases hroom : n + m ≤ cap
    · have hfit : n * i.size + news.length ≤ cur.size := by rw [hl, hcs, ← Nat.add_mul]; exact Nat.mul_le_mul_right _ hroom
      have h9 := run_append_room (P := P) w t ty e i ht hi g n cap cur hg a m c news hl hnews h1 hroom hfit
      rw [r1] at h9
      injection h9 with e1 e2
      subst e1
      intro k hk
      simp only [Value.ownBlock] at hk ⊢
      exact .inl hk
    · have h9 := run_append_grow (P := P) w t ty e i z ht hi hz ⟨g, 0, none⟩ n cap xs hown.1 (hown.cells (g := g) rfl) a m c news hl hnews (by omega) (by omega) (growslice_fits (by omega) hbytes)
      rw [r1] at h9
      injection h9 with e1 e2
      subst e1
      intro k hk
      simp only [Value.ownBlock, Option.some.injEq] at hk
      exact .inr (by omega)
theorem wpList_apx {P : Program} {ops : Array Oper} {rest : List Oper} {o : Oper} {ac : Act} {Q : Exit → Act → World → Prop} {w : World} (hg : o.guard = none) (s x : Operand) {t : TypeId}
    (hop : o.op = .call { callee := .builtin .append, args := #[s, x], argTypes := #[t, t] }) {e : TypeId} {z : Value} {size bytes base : Nat}
    (ht : P.underlying t = some (.slice e)) (h2 : (P.info? e).map (fun i => (i.zero, i.size, i.bytes)) = some (some z, size, bytes)) (hzs : z.cells.size = size) (hsz : 0 < size)
    {v : Value} {n : Nat} {xs : List Value} (hown : w.ownsRow base e size v n xs) (hv : ac.eval s = v) {a : Addr} {m c : Nat} {news : List Value} (hx : ac.eval x = .slice (some a) m c) (hm : 0 < m) (hl : news.length = m * size) (hnews : ∀ j u, news[j]? = some u → w.cell? (a.add j) = some u) (h1 : ∀ u ∈ news, u.oneCell' = true)
    (h63 : n + m ≤ maxLen) (hbytes : (n + m) * bytes ≤ 140737488355328) (hbase : base ≤ w.heap.size)
    (hK : ∀ v' w', w'.ownsRow base e size v' (n + m) (xs ++ news) → w.grownBy w' v.ownBlock → NewOr w.heap.size v v' → wpList P ops Q rest (ac.put o.dst v') w') : wpList P ops Q (o :: rest) ac w := by
  obtain ⟨i0, hi, hz0, hz1, hz2⟩ := info_parts h2
  refine wpList_plain hg fun K hK' => ?_
  obtain ⟨v', w', hrun, r1, r2, r3⟩ := run_apx (ty := o.type) ht hi hz0 hz1 hz2 hzs hsz hown hm hl hnews h1 h63 hbytes hbase
  obtain ⟨vs, hvs⟩ : ∃ vs, vs = Value.slice (some a) m c := ⟨_, rfl⟩
  rw [← hvs] at hx hrun
  unfold Oper.wp
  simp [execOp, hop, resolve, invoke, builtin, hv, hx, hrun, Result.andThen]
  exact hK' _ _ (hK v' w' r1 r2 r3)
/-- 'append(v, y)' of one cell that lies in a literal -/
theorem wpList_ap1 {P : Program} {ops : Array Oper} {rest : List Oper} {o : Oper} {ac : Act} {Q : Exit → Act → World → Prop} {w : World} (hg : o.guard = none) (s x : Operand) {t : TypeId}
    (hop : o.op = .call { callee := .builtin .append, args := #[s, x], argTypes := #[t, t] }) {e : TypeId} {z : Value} {bytes base : Nat}
    (ht : P.underlying t = some (.slice e)) (h2 : (P.info? e).map (fun i => (i.zero, i.size, i.bytes)) = some (some z, 1, bytes)) (hzs : z.cells.size = 1)
    {v : Value} {n : Nat} {xs : List Value} (hown : w.ownsRow base e 1 v n xs) (hv : ac.eval s = v) {g : Nat} {y : Value} (hx : ac.eval x = .slice (some ⟨g, 0, none⟩) 1 1) (hc : w.cell? ⟨g, 0, none⟩ = some y) (h1 : y.oneCell' = true)
    (h63 : n + 1 ≤ maxLen) (hbytes : (n + 1) * bytes ≤ 140737488355328) (hbase : base ≤ w.heap.size)
    (hK : ∀ v' w', w'.ownsRow base e 1 v' (n + 1) (xs ++ [y]) → w.grownBy w' v.ownBlock → NewOr w.heap.size v v' → wpList P ops Q rest (ac.put o.dst v') w') : wpList P ops Q (o :: rest) ac w :=
  wpList_apx hg s x hop ht h2 hzs (by omega) hown hv (a := ⟨g, 0, none⟩) (m := 1) (news := [y]) hx (by omega) rfl (fun j u hu => by
    cases j with
    | zero =>
      simp only [List.getElem?_cons_zero, Option.some.injEq] at hu
      subst hu
      exact hc
    | succ j => simp at hu) (fun u hu => by simp only [List.mem_singleton] at hu; rw [hu]; exact h1) h63 hbytes hbase hK
end Go.Proofs.YtflmjdjkfognjaaGreat
namespace Go.Proofs.YtflmjdjkfognjaaGreat.C9
open Go.RowKit W8
set_option linter.unusedVariables false
/-- what Lost returns: the offsets and the code -/
def lostR (d : Int) (l : List Sc) : List Int × Int := if d < 1 ∨ 401408 < d then ([], 1) else if fitA (d.toNat + 108) l = false then ([], 1) else (lostN l d.toNat, 0)
def LostP (R : List Int × Int) (w : World) (e : Ending) (w' : World) : Prop := ∃ v, e = .returned (.tuple #[v, .int .i64 R.2]) ∧ w'.ownsRow w.heap.size 3 1 v R.1.length (is R.1) ∧ Below w.heap.size w w'
theorem LostP.none (c : Int) {w : World} {e : Ending} {w' : World} (he : e = .returned (.tuple #[.slice none 0 0, .int .i64 c])) (hb : Below w.heap.size w w') : LostP ([], c) w e w' := ⟨_, he, ownsRow_nil _ _ _, hb⟩
theorem frN_ok {n : Nat} (h1 : 1 ≤ n) (h2 : n ≤ 401408) : frN n = ((n + 108 : Nat) : Int) := by unfold frN; rw [if_neg (by omega)]; omega
theorem ixI_some {E : List Int} {k : Nat} (h : k < E.length) : E[k]? = some (ixI E k) := by rw [ixI_get h]; exact List.getElem?_eq_getElem h
end Go.Proofs.YtflmjdjkfognjaaGreat.C9
namespace Go.Proofs.YtflmjdjkfognjaaGreat.C9
open Go.RowKit W8
set_option linter.unusedVariables false
/-- the box 'eb' holds a slice that owns the ints 'E' -/
def ErB (eb : Nat) (E : List Int) (W : World) : Prop := ∃ ve, Bx W eb 53 [ve] ∧ W.ownsRow (eb + 1) 3 1 ve E.length (is E)
def ErP (eb : Nat) (E : List Int) (w : World) (e : Ending) (w' : World) : Prop := e = .returned (.tuple #[]) ∧ ErB eb E w' ∧ Below eb w w'
end Go.Proofs.YtflmjdjkfognjaaGreat.C9
namespace Go.Proofs.YtflmjdjkfognjaaGreat.C9
open Go.RowKit W8
set_option linter.unusedVariables false
section
variable {w0 W W' : World} {N gg gb gt : Nat} {G T : List Bool}
end
end Go.Proofs.YtflmjdjkfognjaaGreat.C9
namespace Go.Proofs.YtflmjdjkfognjaaGreat.C9
open Go.RowKit W8
set_option linter.unusedVariables false
/-- 'N' rows of 28 bytes, one behind the other -/
def fl28 (N : Nat) (p : Nat → Nat → UInt8) : List UInt8 := (List.range (N * 28)).map fun x => p (x / 28) (x % 28)
theorem fl28_length (N : Nat) (p : Nat → Nat → UInt8) : (fl28 N p).length = N * 28 := by simp [fl28]
theorem fl28_get {N g i : Nat} (p : Nat → Nat → UInt8) (hg : g < N) (hi : i < 28) : (fl28 N p)[g * 28 + i]? = some (p g i) := by
  have e1 : (g * 28 + i) / 28 = g := by omega
  have e2 : (g * 28 + i) % 28 = i := by omega
  have e3 : g * 28 + i < N * 28 := by omega
  simp [fl28, e1, e2, e3]
theorem fl28_congr {N : Nat} {p q : Nat → Nat → UInt8} (h : ∀ g i, g < N → i < 28 → p g i = q g i) : fl28 N p = fl28 N q := List.map_congr_left fun x hx => by
  have := List.mem_range.1 hx
  exact h _ _ (by omega) (by omega)
theorem fl28_set {N g i : Nat} (p : Nat → Nat → UInt8) (hi : i < 28) (c : UInt8) : (fl28 N p).set (g * 28 + i) c = fl28 N (fun g' i' => if g' = g ∧ i' = i then c else p g' i') := by
  apply List.ext_getElem?
  intro x
  rw [List.getElem?_set, fl28_length]
  by_cases hx : x < N * 28
  · have e : x / 28 * 28 + x % 28 = x := by omega
    have h1 := fl28_get (N := N) (g := x / 28) (i := x % 28) p (by omega) (by omega)
    have h2 := fl28_get (N := N) (g := x / 28) (i := x % 28) (fun g' i' => if g' = g ∧ i' = i then c else p g' i') (by omega) (by omega)
    rw [e] at h1 h2
    rw [h1, h2]
    by_cases hh : g * 28 + i = x
    · rw [if_pos hh, if_pos (by omega), if_pos (by omega)]
    · rw [if_neg hh, if_neg (by omega)]
  · rw [List.getElem?_eq_none (l := fl28 N p) (by rw [fl28_length]; omega), List.getElem?_eq_none (l := fl28 N _) (by rw [fl28_length]; omega)]
    split
    · rw [if_neg (by omega)]
    · rfl
/-- what of the rows is written when 'f' words are done and of the next one 'k' symbols -/
def symX (d : List UInt8) (f k g i : Nat) : UInt8 := if 4 * i ≤ g ∧ (g - 4 * i < f ∨ (g - 4 * i = f ∧ i < k)) then G.ix (wrd d (g - 4 * i)) i else 0
theorem symX_zero (d : List UInt8) (g i : Nat) : symX d 0 0 g i = 0 := by unfold symX; rw [if_neg (by omega)]
theorem symX_step (d : List UInt8) (N f k : Nat) (hk : k < 28) : (fl28 N (symX d f k)).set ((f + 4 * k) * 28 + k) (G.ix (wrd d f) k) = fl28 N (symX d f (k + 1)) := by
  rw [fl28_set _ hk]
  refine fl28_congr fun g i _ hi => ?_
  unfold symX
  by_cases h : g = f + 4 * k ∧ i = k
  · obtain ⟨rfl, rfl⟩ := h
    rw [if_pos ⟨rfl, rfl⟩, if_pos ⟨by omega, .inr ⟨by omega, by omega⟩⟩, Nat.add_sub_cancel]
  · rw [if_neg h]
    by_cases h2 : 4 * i ≤ g ∧ (g - 4 * i < f ∨ (g - 4 * i = f ∧ i < k))
    · rw [if_pos h2, if_pos ⟨h2.1, by omega⟩]
    · rw [if_neg h2, if_neg]
      intro h3
      omega
theorem symX_next (d : List UInt8) (N f : Nat) : fl28 N (symX d f 28) = fl28 N (symX d (f + 1) 0) := fl28_congr fun g i _ hi => by
  unfold symX
  by_cases h : 4 * i ≤ g ∧ (g - 4 * i < f ∨ (g - 4 * i = f ∧ i < 28))
  · rw [if_pos h, if_pos ⟨h.1, by omega⟩]
  · rw [if_neg h, if_neg (by omega)]
theorem symX_all (d : List UInt8) (n g i : Nat) : symX d n 0 g i = sym d n g i := by
  unfold symX sym
  by_cases h : 4 * i ≤ g ∧ g - 4 * i < n
  · rw [if_pos h, if_pos ⟨h.1, .inl h.2⟩]
  · rw [if_neg h, if_neg (by omega)]
theorem fl28_zero (N : Nat) (p : Nat → Nat → UInt8) (h : ∀ g i, p g i = 0) : fl28 N p = List.replicate (N * 28) 0 := by
  apply List.ext_getElem
  · simp [fl28]
  · intro x h1 h2
    simp [fl28, h]
theorem Tryz.sizeRow28 : (Tryz.prog.info? 179).map (·.size) = some 28 := by kernel_rfl
set_option maxRecDepth 100000 in
set_option maxHeartbeats 1000000 in
theorem enc1_any (i fr wb rb gr N : Nat) (wd : List UInt8) (R : List UInt8) (w : World) (hw : w.cell? ⟨wb, 0, none⟩ = some (.string (str wd))) (hr : w.cell? ⟨rb, 0, none⟩ = some (.slice (some ⟨gr, 0, none⟩) N N))
    (hb : Bx w gr 179 (bs R)) (hR : R.length = N * 28) (hi : i < 28) (hwl : wd.length = 28) (hfr : fr < N) (x : Int) (hx : x = fr) :
    Calls Tryz.prog 87 #[.int .i64 i, .int .i64 x, .pointer (some ⟨wb, 0, none⟩), .pointer (some ⟨rb, 0, none⟩)] w fun e w' => e = .returned (.tuple #[]) ∧ w' = w.drew.setCell ⟨gr, fr * 28 + i, none⟩ (B (G.ix wd i)) := by
  have hix := fun w' => run_idxS Tryz.underlying177 Tryz.sizeRow28 (a := some ⟨gr, 0, none⟩) (cap := N) rfl hfr x hx w'
  simp only [Nat.zero_add] at hix
  have Hx := Lib.hid hx; clear hx
  have hs := str_size wd
  have hcl : w.cell? ⟨gr, fr * 28 + i, none⟩ = some (B (G.ix R (fr * 28 + i))) := hb.cell (bs_get (by omega))
  have hfz := hb.free (fr * 28 + i)
  have hi' : (i : Int) < 28 := by omega
  have hstr : ∀ W, (Instr.index 9 (.string (str wd)) (.int .i64 (i : Int))).run Tryz.prog W = .ok (B (G.ix wd i)) W := fun W => run_sidx Tryz.underlying9 wd i (by omega) _ rfl W
  clear hb
  go_enter Tryz.func87, Tryz.ntmps87
  go_wp2_with fail
  go_still_tail 8, (by kernel_rfl)
  repeat still_step
  change wpList _ _ _ _ _ w.drew
  go_wp2_with fail
  go_end0
  exact ⟨rfl, rfl⟩
/-- what a closure leaves that writes into the rows alone -/
def EncS (gr : Nat) (R : List UInt8) (w : World) (e : Ending) (w' : World) : Prop := e = .returned (.tuple #[]) ∧ Bx w' gr 179 (bs R) ∧ Below gr w w' ∧ ∀ k, k < w.heap.size → k ≠ gr → w'.heap[k]? = w.heap[k]?
set_option maxRecDepth 100000 in
set_option maxHeartbeats 1000000 in
theorem collect_enc (d : List UInt8) (f n N wb rb gr : Nat) (w : World) (hd : d.length = 24 * n) (hf : f < n) (hn : n ≤ 784) (hN : N = n + 108) (hwb : wb ≠ gr) (hrb : rb ≠ gr) (hw : w.cell? ⟨wb, 0, none⟩ = some (.string (str (wrd d f)))) (hr : w.cell? ⟨rb, 0, none⟩ = some (.slice (some ⟨gr, 0, none⟩) N N))
    (hb : Bx w gr 179 (bs (fl28 N (symX d f 0)))) :
    Calls Tryz.prog 86 #[.int .i64 f, .func (.func 87) #[] #[.pointer (some ⟨wb, 0, none⟩), .pointer (some ⟨rb, 0, none⟩)]] w (EncS gr (fl28 N (symX d f 28)) w) := by
  have hwl := wrd_length hd hf
  have hbl1 := World.block_lt_of_cell? w _ hw
  have hbl2 := World.block_lt_of_cell? w _ hr
  have HW := Lib.hid hw
  have HR := Lib.hid hr
  have HB := Lib.hid hb
  have HS := Lib.hid (fun k hk => symX_step d N f k hk)
  have HL := Lib.hid (fun k => fl28_length N (symX d f k))
  generalize wrd d f = wd at *
  have hN1 : n + 108 ≤ N := by omega
  have hN2 : N ≤ n + 108 := by omega
  have HWL := Lib.hid hwl
  clear hw hr hb hd hN hwl
  simp only at hbl1 hbl2
  go_enter Tryz.func86, Tryz.ntmps86
  go_wp2_with fail
  go_loopw [5] (fun vi wr => ∃ i : Nat, i ≤ 28 ∧ vi = .int .i64 i ∧ Bx wr gr 179 (bs (fl28 N (symX d f i))) ∧ Below gr w wr ∧ Hid (∀ k, k < w.heap.size → k ≠ gr → wr.heap[k]? = w.heap[k]?)) (fun vi _ => 28 - (intOf vi).toNat)
  case atStart => exact ⟨0, by omega, rfl, HB.out, Below.refl _ _, Lib.hid fun k _ _ => rfl⟩
  case round =>
    obtain ⟨i, hi, rfl, hbx, hbe, HK⟩ := hrel
    by_cases hit : i < 28
    · have hit' : (i : Int) < 28 := by omega
      have hcw : wr.cell? ⟨wb, 0, none⟩ = some (.string (str wd)) := (World.cell?_of_block (w := w) (a := ⟨wb, 0, none⟩) (HK.out wb hbl1 hwb)).trans HW.out
      have hcr : wr.cell? ⟨rb, 0, none⟩ = some (.slice (some ⟨gr, 0, none⟩) N N) := (World.cell?_of_block (w := w) (a := ⟨rb, 0, none⟩) (HK.out rb hbl2 hrb)).trans HR.out
      have HC := Lib.hid (enc1_any i (f + 4 * i) wb rb gr N wd _ wr hcw hcr hbx (HL.out i) hit HWL.out (by omega) ((f : Int) + 4 * i) (by omega))
      have hset := hbx.set ((f + 4 * i) * 28 + i) (B (G.ix wd i))
      rw [bs_set, HS.out i hit] at hset
      have HSET := Lib.hid hset
      have HBX := Lib.hid hbx
      clear hcw hcr hset hbx
      go_wp2_with fail
      refine HC.out.mono ?_
      rintro e w1 ⟨rfl, rfl⟩
      go_wp2_with fail
      go_roundw
      case rel =>
        refine ⟨i + 1, by omega, by go_num, HSET.out, (hbe.drew).setCell (Nat.le_refl _) _, Lib.hid fun k hk hkb => ?_⟩
        exact (Below.heap_setCell wr ⟨gr, (f + 4 * i) * 28 + i, none⟩ (B (G.ix wd i)) k hkb).trans (HK.out k hk hkb)
      case measure => simp [intOf]; omega
    · obtain rfl : i = 28 := by omega
      go_wp2_with fail
      go_end0
      exact ⟨rfl, hbx, hbe, HK.out⟩
end Go.Proofs.YtflmjdjkfognjaaGreat.C9
