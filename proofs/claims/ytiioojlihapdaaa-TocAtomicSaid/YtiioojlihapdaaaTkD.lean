/- Copies of tables (chapter 14): Clone, clone, changed walked. -/
import Derived.Test.YtiioojlihapdaaaTkR
import Derived.WalkSpells
import Derived.Outline
namespace Go.Proofs.Ytiioojlihapdaaa
open Go.RowKit
set_option linter.unusedVariables false

/-- the cells of a list of tracks -/
def fl (l : List T.Trk) : List Value := l.flatMap tcs
theorem fl_eq (l : List T.Trk) : (List.range l.length).flatMap (fun i => tcs (T.tr l i)) = fl l := by
  unfold fl
  have h : l = (List.range l.length).map (T.tr l) := by
    apply List.ext_getElem
    · simp
    · intro i h1 h2
      simp [T.tr, h1]
  conv => rhs; rw [h]
  rw [List.flatMap_map]
theorem fl_length (l : List T.Trk) : (fl l).length = l.length * 7 := by rw [← fl_eq]; exact length_flat (fun _ => tcs_length _) _
theorem fl_get (l : List T.Trk) (i j : Nat) (hi : i < l.length) (hj : j < 7) : (fl l)[i * 7 + j]? = (tcs (T.tr l i))[j]? := by
  rw [← fl_eq]; exact get_flat (fun _ => tcs_length _) _ i j hi hj
theorem fl_append (l m : List T.Trk) : fl (l ++ m) = fl l ++ fl m := by simp [fl]
theorem fl_one (l : List T.Trk) : ∀ u ∈ fl l, u.oneCell' = true := by
  intro u hu
  simp only [fl, List.mem_flatMap] at hu
  obtain ⟨x, _, hu⟩ := hu
  simp only [tcs, List.mem_cons, List.not_mem_nil, or_false] at hu
  rcases hu with rfl | rfl | rfl | rfl | rfl | rfl | rfl <;> rfl
/-- the field 'j' of the track 'i' turns -/
theorem fl_set (l : List T.Trk) (i j : Nat) (hi : i < l.length) (hj : j < 7) (v : Value) (x : T.Trk) (hx : tcs x = (tcs (T.tr l i)).set j v) : (fl l).set (i * 7 + j) v = fl (l.set i x) := by
  have hl : (l.set i x).length = l.length := by simp
  apply List.ext_getElem?
  intro k
  by_cases hk : k < l.length * 7
  · have e : k / 7 * 7 + k % 7 = k := by omega
    have h2 := fl_get (l.set i x) (k / 7) (k % 7) (by rw [hl]; omega) (by omega)
    rw [e] at h2
    rw [h2, List.getElem?_set]
    by_cases h : i * 7 + j = k
    · rw [if_pos h, if_pos (by rw [fl_length]; omega)]
      obtain ⟨h3, h4⟩ : k / 7 = i ∧ k % 7 = j := by omega
      rw [h3, h4, T.tr_set_eq _ _ _ hi, hx, List.getElem?_set, if_pos rfl, if_pos (by rw [tcs_length]; omega)]
    · rw [if_neg h]
      have h1 := fl_get l (k / 7) (k % 7) (by omega) (by omega)
      rw [e] at h1
      rw [h1]
      by_cases h5 : k / 7 = i
      · rw [h5, T.tr_set_eq _ _ _ hi, hx, List.getElem?_set, if_neg (by omega)]
      · rw [T.tr_set_ne _ _ _ _ h5]
  · rw [List.getElem?_eq_none (by rw [List.length_set, fl_length]; omega), List.getElem?_eq_none (by rw [fl_length, hl]; omega)]
theorem RdK.ofOwn {w : World} {base e : Nat} {v : Value} {l : List T.Trk} (h : w.ownsRow base e 7 v l.length (fl l)) : RdK w v l := by
  rw [← fl_eq] at h
  exact RdS.ofOwn (fun _ => tcs_length _) h
theorem RdK.reads {w : World} {v : Value} {l : List T.Trk} (h : RdK w v l) : Reads w 7 v l.length (fl l) := by
  have := RdS.reads (fun _ => tcs_length _) h
  rwa [fl_eq] at this
theorem Try.infoTrack : (Try.prog.info? 40).map (fun i => (i.zero, i.size, i.bytes)) = some (some (.agg #[.int .i64 0, .int .i64 0, .int .i64 0, .int .i64 0, .int .i64 0, .int .i64 0, .int .i64 0]), 7, 56) := by kernel_rfl
/-- 'append(v, s...)' at tracks -/
theorem wpList_appT {ops : Array Oper} {rest : List Oper} {o : Oper} {a : Act} {Q : Exit → Act → World → Prop} {w : World} (hg : o.guard = none) (s x : Operand)
    (hop : o.op = .call { callee := .builtin .append, args := #[s, x], argTypes := #[22, 22] }) {base : Nat}
    {v : Value} {n : Nat} {l : List T.Trk} (hown : w.ownsRow base 40 7 v n (fl l)) (hv : a.eval s = v) {vs : Value} {m : List T.Trk} (hs : RdK w vs m) (hx : a.eval x = vs)
    (h63 : n + m.length ≤ 1099511627776) (hbase : base ≤ w.heap.size)
    (hK : ∀ v' w', w'.ownsRow base 40 7 v' (n + m.length) (fl (l ++ m)) → w.grownBy w' v.ownBlock → wpList Try.prog ops Q rest (a.put o.dst v') w') : wpList Try.prog ops Q (o :: rest) a w := by
  obtain ⟨i0, hi, hz0, hz1, hz2⟩ := info_parts Try.infoTrack
  refine wpList_app hg s x hop Try.underlying22 hi hz0 hz1 hz2 rfl (by omega) hown hv hs.reads hx (fl_one m) (by unfold maxLen; omega) (by omega) hbase fun v' w' g1 g2 g3 => ?_
  rw [← fl_append] at g1
  exact hK v' w' g1 g2

set_option maxRecDepth 100000 in
set_option maxHeartbeats 1000000 in
theorem sclone_any (v : Value) (l : List T.Trk) (w : World) (hr : RdK w v l) (hn : l.length ≤ 110) :
    Calls Try.prog 81 #[v] w fun e w' => ∃ v', e = .returned v' ∧ w'.ownsRow w.heap.size 40 7 v' l.length (fl l) ∧ Below w.heap.size w w' := by
  obtain ⟨a, c, rfl, hac⟩ := RdS.form hr
  have heq := fun W => Lib.run_eql_slice_nil (P := Try.prog) W 22 40 a l.length c 0 0 Try.underlying22
  cases a with
  | none =>
    have hl : l = [] := by
      obtain ⟨a, c, b, off, h1, _, h2⟩ := hr
      cases l with
      | nil => rfl
      | cons x l => have := (h2 0 (by simp)).1; injection h1 with h1; rw [← h1] at this; cases this
    subst hl
    simp only [List.length_nil] at heq
    go_enter Try.func81, Try.ntmps81
    go_wp2
    go_ret
    exact ⟨_, rfl, ⟨rfl, .inl ⟨rfl, rfl⟩⟩, Below.refl _ _⟩
  | some ad =>
    have hown0 : (w.alloc (.cells #[] 40)).ownsRow w.heap.size 40 7 (.slice (some ⟨w.heap.size, 0, none⟩) 0 0) 0 (fl []) := World.ownsRow_lit w #[] 0 (Nat.le_refl _) (by simp [maxLen]) (by simp)
    have hr1 : RdK (w.alloc (.cells #[] 40)) (.slice (some ad) l.length c) l := hr.keep ((Below.refl _ _).alloc (Nat.le_refl _) _)
    go_enter Try.func81, Try.ntmps81
    go_wp2_with (refine wpList_appT rfl _ _ rfl hown0 rfl hr1 rfl (by omega) (by simp) ?_; intro v' w' hown' hg')
    go_ret
    rw [Nat.zero_add, List.nil_append] at hown'
    exact ⟨v', rfl, hown', ((Below.refl _ _).alloc (Nat.le_refl _) _).grown hg' (by simp) (fun k hk => by obtain rfl := Option.some.inj hk; exact Nat.le_refl _)⟩

theorem own_set {w : World} {base e size n : Nat} {v : Value} {xs : List Value} (h : w.ownsRow base e size v n xs) {p : Addr} (hp : p.block < base) (u : Value) : (w.setCell p u).ownsRow base e size v n xs := by
  refine ⟨h.1, ?_⟩
  rcases h.2 with h | ⟨g, cap, cur, hv, hg, hh, r⟩
  · exact .inl h
  · exact .inr ⟨g, cap, cur, hv, hg, (Below.heap_setCell w p u g (by omega)).trans hh, r⟩
theorem own_kept {w w' : World} {base e size n : Nat} {v : Value} {xs : List Value} (h : w.ownsRow base e size v n xs) (hb : ∀ k, k < w.heap.size → w'.heap[k]? = w.heap[k]?) : w'.ownsRow base e size v n xs := by
  refine ⟨h.1, ?_⟩
  rcases h.2 with h | ⟨g, cap, cur, hv, hg, hh, r⟩
  · exact .inl h
  · exact .inr ⟨g, cap, cur, hv, hg, (hb g (Array.getElem?_eq_some_iff.1 hh).1).trans hh, r⟩
/-- a table as a value -/
abbrev tval (cl : Int) (fin : Bool) (v : Value) : Value := .agg #[.int .i64 cl, .bool fin, v]
/-- a table with tracks of the call's own -/
def OwnT (base : Nat) (cl : Int) (fin : Bool) (l : List T.Trk) (w : World) (e : Ending) (w' : World) : Prop :=
  ∃ v', e = .returned (tval cl fin v') ∧ w'.ownsRow base 40 7 v' l.length (fl l) ∧ Below w.heap.size w w'
set_option maxRecDepth 100000 in
set_option maxHeartbeats 1000000 in
theorem clone_any (cl : Int) (fin : Bool) (v : Value) (l : List T.Trk) (w : World) (hr : RdK w v l) (hn : l.length ≤ 110) :
    Calls Try.prog 51 #[tval cl fin v] w (OwnT w.heap.size cl fin l w) := by
  have hb0 := ((Below.refl w.heap.size w).alloc (Nat.le_refl _) (.cells #[.int .i64 cl, .bool fin, v] 24)).alloc (by simp) (.cells #[.int .i64 0, .bool false, .slice none 0 0] 24)
  have hr1 := hr.keep hb0
  have hcon := sclone_any v l _ hr1 hn
  have HCON := Lib.hid hcon; clear hcon
  obtain ⟨a, c, rfl, hac⟩ := RdS.form hr
  go_enter Try.func51, Try.ntmps51
  go_wp2_with fail
  refine HCON.out.mono ?_
  rintro e w1 ⟨v', rfl, hown, hb⟩
  have hb1 := hb0.trans (hb.mono (by simp; omega))
  have ht0 : w1.cell? ⟨w.heap.size, 0, none⟩ = some (.int .i64 cl) := (hb.cell (p := ⟨w.heap.size, 0, none⟩) (by simp; omega)).trans (by simp [go_sem])
  have ht1 : w1.cell? ⟨w.heap.size, 1, none⟩ = some (.bool fin) := (hb.cell (p := ⟨w.heap.size, 1, none⟩) (by simp; omega)).trans (by simp [go_sem])
  have ht2 : w1.cell? ⟨w.heap.size, 2, none⟩ = some (.slice a l.length c) := (hb.cell (p := ⟨w.heap.size, 2, none⟩) (by simp; omega)).trans (by simp [go_sem])
  have hs0 : w1.cell? ⟨w.heap.size + 1, 0, none⟩ = some (.int .i64 0) := (hb.cell (p := ⟨w.heap.size + 1, 0, none⟩) (by simp)).trans (by simp [go_sem])
  have hs1 : w1.cell? ⟨w.heap.size + 1, 1, none⟩ = some (.bool false) := (hb.cell (p := ⟨w.heap.size + 1, 1, none⟩) (by simp)).trans (by simp [go_sem])
  have hs2 : w1.cell? ⟨w.heap.size + 1, 2, none⟩ = some (.slice none 0 0) := (hb.cell (p := ⟨w.heap.size + 1, 2, none⟩) (by simp)).trans (by simp [go_sem])
  have hf0 : ∀ k, w1.frozen? ⟨w.heap.size, k, none⟩ = false := fun k => (hb.frozen (p := ⟨w.heap.size, k, none⟩) (by simp; omega)).trans (by simp [go_sem])
  have hf1 : ∀ k, w1.frozen? ⟨w.heap.size + 1, k, none⟩ = false := fun k => (hb.frozen (p := ⟨w.heap.size + 1, k, none⟩) (by simp)).trans (by simp [go_sem])
  obtain ⟨a2, c2, rfl, _⟩ := RdS.form (RdK.ofOwn hown)
  have hw1 : w.heap.size + 1 < w1.heap.size := by have := hb.size; simp at this; omega
  go_wp2_with fail
  refine bodyPost_ret (v := tval cl fin (.slice a2 l.length c2)) (by simp [results, Try.results51, go_sem, hs0, hs1, hs2]) rfl ⟨_, rfl, ?_, ?_⟩
  · refine own_mono (base := w.heap.size + 2) ?_ (by omega)
    have hown2 : w1.ownsRow (w.heap.size + 2) 40 7 (.slice a2 l.length c2) l.length (fl l) := by simpa using hown
    exact own_set (own_set (own_set (own_set hown2 (by simp) _) (by simp) _) (by simp) _) (by simp) _
  · exact (((hb1.setCell (by simp) _).setCell (by simp) _).setCell (by simp) _).setCell (by simp) _
theorem own_fld {w : World} {base e g n c : Nat} {l : List T.Trk} (h : w.ownsRow base e 7 (.slice (some ⟨g, 0, none⟩) n c) n (fl l)) (i j : Nat) (hi : i < l.length) (hj : j < 7) (v : Value) (x : T.Trk) (hx : tcs x = (tcs (T.tr l i)).set j v) :
    (w.setCell ⟨g, i * 7 + j, none⟩ v).ownsRow base e 7 (.slice (some ⟨g, 0, none⟩) n c) n (fl (l.set i x)) := by
  have := (h.stored (i * 7 + j) v).1
  rwa [fl_set l i j hi hj v x hx] at this
/-- a whole track is stored -/
theorem own_put {w : World} {base e g n c : Nat} {l : List T.Trk} (h : w.ownsRow base e 7 (.slice (some ⟨g, 0, none⟩) n c) n (fl l)) (i : Nat) (hi : i < l.length) (x : T.Trk) :
    (((((((w.setCell ⟨g, i * 7, none⟩ (.int .i64 x.num)).setCell ⟨g, i * 7 + 1, none⟩ (.int .i64 x.ses)).setCell ⟨g, i * 7 + 2, none⟩ (.int .i64 x.st)).setCell ⟨g, i * 7 + 3, none⟩ (.int .i64 x.len)).setCell ⟨g, i * 7 + 4, none⟩ (.int .i64 x.nx)).setCell
      ⟨g, i * 7 + 5, none⟩ (.int .i64 x.sta)).setCell ⟨g, i * 7 + 6, none⟩ (.int .i64 x.pk)).ownsRow base e 7 (.slice (some ⟨g, 0, none⟩) n c) n (fl (l.set i x)) := by
  have ht : ∀ y, T.tr (l.set i y) i = y := fun y => T.tr_set_eq l y i hi
  have hl : ∀ y, i < (l.set i y).length := fun y => by simpa using hi
  have h0 := own_fld h i 0 hi (by omega) (.int .i64 x.num) { T.tr l i with num := x.num } rfl
  have h1 := own_fld h0 i 1 (hl _) (by omega) (.int .i64 x.ses) { T.tr l i with num := x.num, ses := x.ses } (by rw [ht]; rfl)
  rw [List.set_set] at h1
  have h2 := own_fld h1 i 2 (hl _) (by omega) (.int .i64 x.st) { T.tr l i with num := x.num, ses := x.ses, st := x.st } (by rw [ht]; rfl)
  rw [List.set_set] at h2
  have h3 := own_fld h2 i 3 (hl _) (by omega) (.int .i64 x.len) { T.tr l i with num := x.num, ses := x.ses, st := x.st, len := x.len } (by rw [ht]; rfl)
  rw [List.set_set] at h3
  have h4 := own_fld h3 i 4 (hl _) (by omega) (.int .i64 x.nx) { T.tr l i with num := x.num, ses := x.ses, st := x.st, len := x.len, nx := x.nx } (by rw [ht]; rfl)
  rw [List.set_set] at h4
  have h5 := own_fld h4 i 5 (hl _) (by omega) (.int .i64 x.sta) { T.tr l i with num := x.num, ses := x.ses, st := x.st, len := x.len, nx := x.nx, sta := x.sta } (by rw [ht]; rfl)
  rw [List.set_set] at h5
  have h6 := own_fld h5 i 6 (hl _) (by omega) (.int .i64 x.pk) x (by rw [ht]; rfl)
  rw [List.set_set] at h6
  simpa using h6
theorem own_addr {w : World} {base e n : Nat} {v : Value} {l : List T.Trk} (h : w.ownsRow base e 7 v n (fl l)) (hn : 0 < n) : ∃ g c, v = .slice (some ⟨g, 0, none⟩) n c ∧ base ≤ g ∧ g < w.heap.size := by
  rcases h.2 with ⟨_, h0⟩ | ⟨g, cap, cur, hv, hb, hg, _⟩
  · omega
  · exact ⟨g, cap, hv, hb, (Array.getElem?_eq_some_iff.1 hg).1⟩
theorem own_cells {w : World} {base e g n c : Nat} {l : List T.Trk} (h : w.ownsRow base e 7 (.slice (some ⟨g, 0, none⟩) n c) n (fl l)) (i : Nat) (hi : i < l.length) : w.rangeAt g (i * 7) (tcs (T.tr l i)) := fun j u hu => by
  have hj : j < 7 := by have := (List.getElem?_eq_some_iff.1 hu).1; rwa [tcs_length] at this
  have hn : l.length = n := by have := h.1; rw [fl_length] at this; omega
  rw [h.cellAt (i * 7 + j) (by omega), fl_get l i j hi hj]; exact hu

theorem chg_facts {cl : Int} {fin : Bool} {a : Option Addr} {n c : Nat} {x : T.Trk} {w w1 : World} (hg : World.grownBy ((((w.alloc (.cells #[.int .i64 cl, .bool fin, .slice a n c] 24)).alloc (tobj x)).alloc (.cells #[.int .i64 0, .bool false, .slice none 0 0] 24)).alloc (.cells #[] 40)) w1 (some (w.heap.size + 1 + 1 + 1))) :
    Below w.heap.size w w1 ∧ w.heap.size + 1 + 1 < w1.heap.size ∧ w1.cell? ⟨w.heap.size, 0, none⟩ = some (.int .i64 cl) ∧ w1.cell? ⟨w.heap.size, 1, none⟩ = some (.bool fin) ∧ w1.cell? ⟨w.heap.size, 2, none⟩ = some (.slice a n c) ∧ w1.cell? ⟨w.heap.size + 1, 0, none⟩ = some (.int .i64 x.num) ∧ w1.cell? ⟨w.heap.size + 1, 1, none⟩ = some (.int .i64 x.ses) ∧ w1.cell? ⟨w.heap.size + 1, 2, none⟩ = some (.int .i64 x.st) ∧ w1.cell? ⟨w.heap.size + 1, 3, none⟩ = some (.int .i64 x.len) ∧ w1.cell? ⟨w.heap.size + 1, 4, none⟩ = some (.int .i64 x.nx) ∧ w1.cell? ⟨w.heap.size + 1, 5, none⟩ = some (.int .i64 x.sta) ∧ w1.cell? ⟨w.heap.size + 1, 6, none⟩ = some (.int .i64 x.pk) ∧ w1.cell? ⟨w.heap.size + 1 + 1, 0, none⟩ = some (.int .i64 0) ∧ w1.cell? ⟨w.heap.size + 1 + 1, 1, none⟩ = some (.bool false) ∧ w1.cell? ⟨w.heap.size + 1 + 1, 2, none⟩ = some (.slice none 0 0) ∧ (∀ k, w1.frozen? ⟨w.heap.size, k, none⟩ = false) ∧ (∀ k, w1.frozen? ⟨w.heap.size + 1 + 1, k, none⟩ = false) := by
  have hbx := (Below.refl (w.heap.size + 1 + 1 + 1) _).grown hg (by simp) (fun k hk => by obtain rfl := Option.some.inj hk; exact Nat.le_refl _)
  have hs := hbx.size
  simp only [World.size_alloc] at hs
  refine ⟨((((Below.refl _ _).alloc (Nat.le_refl _) _).alloc (by simp) _).alloc (by simp; omega) _).alloc (by simp; omega) _ |>.trans (hbx.mono (by omega)), by omega, ?_⟩
  refine ⟨(hbx.cell (p := ⟨w.heap.size, 0, none⟩) (by simp only; omega)).trans (by simp [go_sem]), (hbx.cell (p := ⟨w.heap.size, 1, none⟩) (by simp only; omega)).trans (by simp [go_sem]), (hbx.cell (p := ⟨w.heap.size, 2, none⟩) (by simp only; omega)).trans (by simp [go_sem]), (hbx.cell (p := ⟨w.heap.size + 1, 0, none⟩) (by simp only; omega)).trans (by simp [go_sem]), (hbx.cell (p := ⟨w.heap.size + 1, 1, none⟩) (by simp only; omega)).trans (by simp [go_sem]), (hbx.cell (p := ⟨w.heap.size + 1, 2, none⟩) (by simp only; omega)).trans (by simp [go_sem]), (hbx.cell (p := ⟨w.heap.size + 1, 3, none⟩) (by simp only; omega)).trans (by simp [go_sem]), (hbx.cell (p := ⟨w.heap.size + 1, 4, none⟩) (by simp only; omega)).trans (by simp [go_sem]), (hbx.cell (p := ⟨w.heap.size + 1, 5, none⟩) (by simp only; omega)).trans (by simp [go_sem]), (hbx.cell (p := ⟨w.heap.size + 1, 6, none⟩) (by simp only; omega)).trans (by simp [go_sem]), (hbx.cell (p := ⟨w.heap.size + 1 + 1, 0, none⟩) (by simp only; omega)).trans (by simp [go_sem]), (hbx.cell (p := ⟨w.heap.size + 1 + 1, 1, none⟩) (by simp only; omega)).trans (by simp [go_sem]), (hbx.cell (p := ⟨w.heap.size + 1 + 1, 2, none⟩) (by simp only; omega)).trans (by simp [go_sem]), fun k => (hbx.frozen (p := ⟨w.heap.size, k, none⟩) (by simp only; omega)).trans (by simp [go_sem]), fun k => (hbx.frozen (p := ⟨w.heap.size + 1 + 1, k, none⟩) (by simp only; omega)).trans (by simp [go_sem])⟩
set_option maxRecDepth 100000 in
set_option maxHeartbeats 1000000 in
theorem changed_any (cl : Int) (fin : Bool) (v : Value) (l : List T.Trk) (i : Nat) (x : T.Trk) (w : World) (hr : RdK w v l) (hn : l.length ≤ 110) (hi : i < l.length) :
    Calls Try.prog 55 #[tval cl fin v, .int .i64 (i : Int), tagg x] w (OwnT w.heap.size cl fin (l.set i x) w) := by
  obtain ⟨a, c, rfl, hac⟩ := RdS.form hr
  have hb0 := (((Below.refl w.heap.size w).alloc (Nat.le_refl _) (.cells #[.int .i64 cl, .bool fin, .slice a l.length c] 24)).alloc (by simp) (tobj x)).alloc (by simp; omega) (.cells #[.int .i64 0, .bool false, .slice none 0 0] 24)
  have hr1 := RdK.keep hr (hb0.alloc (by simp; omega) (.cells #[] 40))
  generalize hwl : (((w.alloc (.cells #[.int .i64 cl, .bool fin, .slice a l.length c] 24)).alloc (tobj x)).alloc (.cells #[.int .i64 0, .bool false, .slice none 0 0] 24)) = wl at hb0 hr1
  have hown0 : (wl.alloc (.cells #[] 40)).ownsRow wl.heap.size 40 7 (.slice (some ⟨wl.heap.size, 0, none⟩) 0 0) 0 (fl []) := World.ownsRow_lit wl #[] 0 (Nat.le_refl _) (by simp [maxLen]) (by simp)
  have hwz : wl.heap.size = w.heap.size + 1 + 1 + 1 := by rw [← hwl]; simp
  rw [hwz] at hown0
  subst hwl
  clear hwz
  go_enter Try.func55, Try.ntmps55
  go_wp2_with (at_builtin; refine wpList_appT rfl _ _ rfl hown0 rfl hr1 rfl (by omega) (by simp) ?_; intro v' w1 hown hg; rw [Nat.zero_add, List.nil_append] at hown; obtain ⟨g, c2, rfl, hgb, hgl⟩ := own_addr hown (by omega); obtain ⟨hb1, hw1, ht0, ht1, ht2, hx0, hx1, hx2, hx3, hx4, hx5, hx6, hs0, hs1, hs2, hf0, hf2⟩ := chg_facts hg; have hfg := fun k => hown.frozenAt k; have hix := fun W => (run_idxS (P := Try.prog) Try.underlying22 Try.sizeTrack (cap := c2) (rfl : some (⟨g, 0, none⟩ : Addr) = _) hi _ rfl W).trans (by rw [Nat.zero_add]); obtain ⟨hc0, hc1, hc2, hc3, hc4, hc5, hc6⟩ := rd7 (own_cells hown i hi); clear hg)
  refine bodyPost_ret (v := tval cl fin (.slice (some ⟨g, 0, none⟩) l.length c2)) (by simp [results, Try.results55, go_sem, hs0, hs1, hs2]) rfl ⟨_, rfl, ?_, ?_⟩
  · rw [List.length_set]
    refine own_mono (base := w.heap.size + 1 + 1 + 1) ?_ (by omega)
    exact own_set (own_set (own_set (own_put (own_set hown (by simp only; omega) _) i hi x) (by simp) _) (by simp) _) (by simp) _
  · exact ((((((((((hb1.setCell (by simp) _).setCell (by simp only; omega) _).setCell (by simp only; omega) _).setCell (by simp only; omega) _).setCell (by simp only; omega) _).setCell (by simp only; omega) _).setCell (by simp only; omega) _).setCell (by simp only; omega) _).setCell (by simp only; omega) _).setCell (by simp only; omega) _).setCell (by simp only; omega) _
end Go.Proofs.Ytiioojlihapdaaa
