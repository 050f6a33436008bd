/- Copies of tables (chapter 14): Clone, clone, changed walked. -/
import Derived.Test.YtjnedcncfdpjoaaTkR
import Derived.WalkSpells
import Derived.Outline
namespace Go.Proofs.Ytjnedcncfdpjoaa
open Go.RowKit
set_option linter.unusedVariables false

/-- the cells of a list of tracks -/
def fl (l : List T.Trk) : List Value := l.flatMap tcs
theorem fl_eq (l : List T.Trk) : (List.range l.length).flatMap (fun i => tcs (T.tr l i)) = fl l := by
  unfold fl
  have h : l = (List.range l.length).map (T.tr l) := by
    apply List.ext_getElem
    · simp
    · intro i h1 h2
      simp [T.tr, h1]
  conv => rhs; rw [h]
  rw [List.flatMap_map]
theorem fl_length (l : List T.Trk) : (fl l).length = l.length * 7 := by rw [← fl_eq]; exact length_flat (fun _ => tcs_length _) _
theorem fl_get (l : List T.Trk) (i j : Nat) (hi : i < l.length) (hj : j < 7) : (fl l)[i * 7 + j]? = (tcs (T.tr l i))[j]? := by
  rw [← fl_eq]; exact get_flat (fun _ => tcs_length _) _ i j hi hj
theorem fl_append (l m : List T.Trk) : fl (l ++ m) = fl l ++ fl m := by simp [fl]
theorem fl_one (l : List T.Trk) : ∀ u ∈ fl l, u.oneCell' = true := by
  intro u hu
  simp only [fl, List.mem_flatMap] at hu
  obtain ⟨x, _, hu⟩ := hu
  simp only [tcs, List.mem_cons, List.not_mem_nil, or_false] at hu
  rcases hu with rfl | rfl | rfl | rfl | rfl | rfl | rfl <;> rfl
/-- the field 'j' of the track 'i' turns -/
theorem fl_set (l : List T.Trk) (i j : Nat) (hi : i < l.length) (hj : j < 7) (v : Value) (x : T.Trk) (hx : tcs x = (tcs (T.tr l i)).set j v) : (fl l).set (i * 7 + j) v = fl (l.set i x) := by
  have hl : (l.set i x).length = l.length := by simp
  apply List.ext_getElem?
  intro k
  by_cases hk : k < l.length * 7
  · have e : k / 7 * 7 + k % 7 = k := by omega
    have h2 := fl_get (l.set i x) (k / 7) (k % 7) (by rw [hl]; omega) (by omega)
    rw [e] at h2
    rw [h2, List.getElem?_set]
    by_cases h : i * 7 + j = k
    · rw [if_pos h, if_pos (by rw [fl_length]; omega)]
      obtain ⟨h3, h4⟩ : k / 7 = i ∧ k % 7 = j := by omega
      rw [h3, h4, T.tr_set_eq _ _ _ hi, hx, List.getElem?_set, if_pos rfl, if_pos (by rw [tcs_length]; omega)]
    · rw [if_neg h]
      have h1 := fl_get l (k / 7) (k % 7) (by omega) (by omega)
      rw [e] at h1
      rw [h1]
      by_cases h5 : k / 7 = i
      · rw [h5, T.tr_set_eq _ _ _ hi, hx, List.getElem?_set, if_neg (by omega)]
      · rw [T.tr_set_ne _ _ _ _ h5]
  · rw [List.getElem?_eq_none (by rw [List.length_set, fl_length]; omega), List.getElem?_eq_none (by rw [fl_length, hl]; omega)]
theorem RdK.ofOwn {w : World} {base e : Nat} {v : Value} {l : List T.Trk} (h : w.ownsRow base e 7 v l.length (fl l)) : RdK w v l := by
  rw [← fl_eq] at h
  exact RdS.ofOwn (fun _ => tcs_length _) h
theorem RdK.reads {w : World} {v : Value} {l : List T.Trk} (h : RdK w v l) : Reads w 7 v l.length (fl l) := by
  have := RdS.reads (fun _ => tcs_length _) h
  rwa [fl_eq] at this
theorem own_set {w : World} {base e size n : Nat} {v : Value} {xs : List Value} (h : w.ownsRow base e size v n xs) {p : Addr} (hp : p.block < base) (u : Value) : (w.setCell p u).ownsRow base e size v n xs := by
  refine ⟨h.1, ?_⟩
  rcases h.2 with h | ⟨g, cap, cur, hv, hg, hh, r⟩
  · exact .inl h
  · exact .inr ⟨g, cap, cur, hv, hg, (Below.heap_setCell w p u g (by omega)).trans hh, r⟩
theorem own_kept {w w' : World} {base e size n : Nat} {v : Value} {xs : List Value} (h : w.ownsRow base e size v n xs) (hb : ∀ k, k < w.heap.size → w'.heap[k]? = w.heap[k]?) : w'.ownsRow base e size v n xs := by
  refine ⟨h.1, ?_⟩
  rcases h.2 with h | ⟨g, cap, cur, hv, hg, hh, r⟩
  · exact .inl h
  · exact .inr ⟨g, cap, cur, hv, hg, (hb g (Array.getElem?_eq_some_iff.1 hh).1).trans hh, r⟩
/-- a table as a value -/
abbrev tval (cl : Int) (fin : Bool) (v : Value) : Value := .agg #[.int .i64 cl, .bool fin, v]
theorem own_fld {w : World} {base e g n c : Nat} {l : List T.Trk} (h : w.ownsRow base e 7 (.slice (some ⟨g, 0, none⟩) n c) n (fl l)) (i j : Nat) (hi : i < l.length) (hj : j < 7) (v : Value) (x : T.Trk) (hx : tcs x = (tcs (T.tr l i)).set j v) :
    (w.setCell ⟨g, i * 7 + j, none⟩ v).ownsRow base e 7 (.slice (some ⟨g, 0, none⟩) n c) n (fl (l.set i x)) := by
  have := (h.stored (i * 7 + j) v).1
  rwa [fl_set l i j hi hj v x hx] at this
/-- a whole track is stored -/
theorem own_put {w : World} {base e g n c : Nat} {l : List T.Trk} (h : w.ownsRow base e 7 (.slice (some ⟨g, 0, none⟩) n c) n (fl l)) (i : Nat) (hi : i < l.length) (x : T.Trk) :
    (((((((w.setCell ⟨g, i * 7, none⟩ (.int .i64 x.num)).setCell ⟨g, i * 7 + 1, none⟩ (.int .i64 x.ses)).setCell ⟨g, i * 7 + 2, none⟩ (.int .i64 x.st)).setCell ⟨g, i * 7 + 3, none⟩ (.int .i64 x.len)).setCell ⟨g, i * 7 + 4, none⟩ (.int .i64 x.nx)).setCell
      ⟨g, i * 7 + 5, none⟩ (.int .i64 x.sta)).setCell ⟨g, i * 7 + 6, none⟩ (.int .i64 x.pk)).ownsRow base e 7 (.slice (some ⟨g, 0, none⟩) n c) n (fl (l.set i x)) := by
  have ht : ∀ y, T.tr (l.set i y) i = y := fun y => T.tr_set_eq l y i hi
  have hl : ∀ y, i < (l.set i y).length := fun y => by simpa using hi
  have h0 := own_fld h i 0 hi (by omega) (.int .i64 x.num) { T.tr l i with num := x.num } rfl
  have h1 := own_fld h0 i 1 (hl _) (by omega) (.int .i64 x.ses) { T.tr l i with num := x.num, ses := x.ses } (by rw [ht]; rfl)
  rw [List.set_set] at h1
  have h2 := own_fld h1 i 2 (hl _) (by omega) (.int .i64 x.st) { T.tr l i with num := x.num, ses := x.ses, st := x.st } (by rw [ht]; rfl)
  rw [List.set_set] at h2
  have h3 := own_fld h2 i 3 (hl _) (by omega) (.int .i64 x.len) { T.tr l i with num := x.num, ses := x.ses, st := x.st, len := x.len } (by rw [ht]; rfl)
  rw [List.set_set] at h3
  have h4 := own_fld h3 i 4 (hl _) (by omega) (.int .i64 x.nx) { T.tr l i with num := x.num, ses := x.ses, st := x.st, len := x.len, nx := x.nx } (by rw [ht]; rfl)
  rw [List.set_set] at h4
  have h5 := own_fld h4 i 5 (hl _) (by omega) (.int .i64 x.sta) { T.tr l i with num := x.num, ses := x.ses, st := x.st, len := x.len, nx := x.nx, sta := x.sta } (by rw [ht]; rfl)
  rw [List.set_set] at h5
  have h6 := own_fld h5 i 6 (hl _) (by omega) (.int .i64 x.pk) x (by rw [ht]; rfl)
  rw [List.set_set] at h6
  simpa using h6
theorem own_addr {w : World} {base e n : Nat} {v : Value} {l : List T.Trk} (h : w.ownsRow base e 7 v n (fl l)) (hn : 0 < n) : ∃ g c, v = .slice (some ⟨g, 0, none⟩) n c ∧ base ≤ g ∧ g < w.heap.size := by
  rcases h.2 with ⟨_, h0⟩ | ⟨g, cap, cur, hv, hb, hg, _⟩
  · omega
  · exact ⟨g, cap, hv, hb, (Array.getElem?_eq_some_iff.1 hg).1⟩
theorem own_cells {w : World} {base e g n c : Nat} {l : List T.Trk} (h : w.ownsRow base e 7 (.slice (some ⟨g, 0, none⟩) n c) n (fl l)) (i : Nat) (hi : i < l.length) : w.rangeAt g (i * 7) (tcs (T.tr l i)) := fun j u hu => by
  have hj : j < 7 := by have := (List.getElem?_eq_some_iff.1 hu).1; rwa [tcs_length] at this
  have hn : l.length = n := by have := h.1; rw [fl_length] at this; omega
  rw [h.cellAt (i * 7 + j) (by omega), fl_get l i j hi hj]; exact hu

end Go.Proofs.Ytjnedcncfdpjoaa
