/- Chapter 8: words, sound and Valid of the package walked. -/
import Derived.Shelf.Abstract
import Derived.WalkKit
import Derived.OwnWalkIn
import Derived.TacticsInMore
import Derived.LoopNIn
import Derived.LoopIn
import Derived.Test.YtepdcpbgdfjobaaGiv
import Derived.Test.YtepdcpbgdfjobaaWt
import Derived.Test.YtepdcpbgdfjobaaBx
namespace Go.Proofs.Ytepdcpbgdfjobaa.W8
open Go.RowKit Go.Shelf
set_option linter.unusedVariables false
attribute [local go_sem] Oper.semAt_some

/-- what a block of cells holds stays when a loop keeps its books -/
theorem keeps_cells {W W' : World} {row : Option Nat} {g : Nat} {cs : Array Value} {t : TypeId} {fz : Nat × Nat} (h : W.heap[g]? = some (.cells cs t fz)) (hg : W.grownBy W' row) (hr : ∀ r, row = some r → ∃ o : Obj, W.heap[r]? = some o ∧ o.isCells = false) : W'.heap[g]? = some (.cells cs t fz) :=
  (hg.block g (Array.getElem?_eq_some_iff.1 h).1 (fun e => by
    obtain ⟨o, ho, hc⟩ := hr g e.symm
    rw [h] at ho
    obtain rfl := Option.some.inj ho
    cases hc)).trans h
theorem stays_own (B base e sz n : Nat) (v : Value) (xs : List Value) : Stays B fun W => W.ownsRow base e sz v n xs := fun _ W W' row h hg hr => by
  refine ⟨h.1, ?_⟩
  rcases h.2 with h2 | ⟨b, cap, cur, h1, h2, h3, h4⟩
  · exact .inl h2
  · exact .inr ⟨b, cap, cur, h1, h2, keeps_cells h3 hg (fun r e => (hr r e).2), h4⟩
theorem stays_row (B e g cap : Nat) (l : List UInt8) : Stays B fun W => Row W e g cap l := fun _ W W' row h hg hr => by
  obtain ⟨cur, fz, h1, h2⟩ := h
  exact ⟨cur, fz, keeps_cells h1 hg (fun r e => (hr r e).2), h2⟩
theorem stays_bx (B g t : Nat) (cs : List Value) : Stays B fun W => Bx W g t cs := fun _ W W' row h hg hr => keeps_cells h hg (fun r e => (hr r e).2)
theorem stays_below {n₀ B : Nat} {w₀ : World} (hn : n₀ ≤ w₀.heap.size) (hB : n₀ ≤ B) : Stays B fun W => Below n₀ w₀ W := ownFrom_below hn hB

theorem kf_below {B : Nat} {W W' : World} (hb : Below W.heap.size W W') : KeepsFrom B W W' := ⟨hb.size, fun k o _ hk _ => (hb.block k (Array.getElem?_eq_some_iff.1 hk).1).trans hk⟩
theorem kf_set (B : Nat) (W : World) (p : Addr) (v : Value) : KeepsFrom B W (W.setCell p v) := (KeepsOthers.setCell W p v).from B
/-- the word that a round is handed -/
def GW (B : Nat) (k : Nat) (v : Value) (W : World) : Prop := W.ownsRow B 3 1 v (wd k).length (is (wd k))
theorem GW.stays (B0 B k : Nat) (v : Value) : Stays B0 (GW B k v) := stays_own _ _ _ _ _ _ _

set_option maxRecDepth 100000 in
set_option maxHeartbeats 2000000 in
theorem words_gives (n : Nat) (hn : 2 ≤ n) (w : World) : Gives Fence.wide n Try.prog 60 #[] 138 (GW w.heap.size) w := fun l J Jx W hW hJ hY h0 => by
  refine callsIn_of_wp Try.func60 rfl trivial ?_ rfl
  simp only [Try.ntmps60, List.size_toArray, List.length_cons, List.length_nil, Nat.reduceAdd, Nat.reduceSub, Array.replicate_succ, Array.replicate_zero, List.push_toArray, List.append_toArray, List.nil_append, List.cons_append]
  have hW0 := hW.size
  have hn1 : 1 ≤ n := by omega
  have hn2 : 1 ≤ n - 1 := by omega
  clear hW
  gi_wp2
  gi_loopw [8] (fun i wr => ∃ k : Nat, k ≤ 86 ∧ i = .int .i64 k ∧ J k wr ∧ w.heap.size ≤ wr.heap.size) (fun i _ => 86 - (intOf i).toNat)
  case atStart => exact ⟨0, by omega, rfl, h0, hW0⟩
  case round =>
    obtain ⟨k, hk, rfl, hJk, hs⟩ := hrel
    clear h0 hW0
    by_cases hlt : k < 86
    · have hlt' : (k : Int) < 86 := by omega
      have hG : ∀ (v : Value) (w1 : World), w1.ownsRow wr.heap.size 3 1 v 26 (is (pw k)) → GW w.heap.size k v w1 := fun v w1 ho => by
        have e : wd k = pw k := if_pos hlt
        unfold GW
        rw [e, pw_length]
        exact own_mono ho hs
      have HG := Lib.hid hG; clear hG
      gi_wp2_with (refine ⟨trivial, ?_⟩; gi_at_call 12; refine (callsIn_wide.2 (pword_ok k _ _ rfl hlt)).mono ?_; rintro e w1 ⟨v, rfl, ho, hb⟩; have hs1 := hb.size; obtain ⟨fn, tmps, assign, body, hy, hR⟩ := hY k v w1 (by omega) (hJ k wr w1 hJk hb) (HG.out v w1 ho); clear ho hb)
      refine hR.mono ?_
      rintro e W3 (⟨rfl, hJ3, hs3⟩ | ⟨rfl, hJx3⟩)
      · gi_wp2
        go_roundw
        case rel => exact ⟨k + 1, by omega, by go_num, hJ3, by omega⟩
        case measure => simp [intOf]; omega
      · gi_wp2
        exact bodyPost_ret (results_none rfl _ _ _) rfl ⟨⟨_, rfl⟩, .inr hJx3⟩
    · obtain rfl : k = 86 := by omega
      rw [show ((86 : Nat) : Int) = 86 from rfl]
      gi_wp2
      gi_loopw [21] (fun i wr => ∃ k : Nat, k ≤ 52 ∧ i = .int .i64 k ∧ J (86 + k) wr ∧ w.heap.size ≤ wr.heap.size) (fun i _ => 52 - (intOf i).toNat)
      case atStart => exact ⟨0, by omega, rfl, hJk, hs⟩
      case round =>
        clear hJk hs hlt
        obtain ⟨k, hk, rfl, hJk, hs⟩ := hrel
        by_cases hlt : k < 52
        · have hlt' : (k : Int) < 52 := by omega
          have hG : ∀ (v : Value) (w1 : World), w1.ownsRow wr.heap.size 3 1 v 45 (is (qw k)) → GW w.heap.size (86 + k) v w1 := fun v w1 ho => by
            have e : wd (86 + k) = qw k := by unfold wd; rw [if_neg (by omega)]; congr 1; omega
            unfold GW
            rw [e, qw_length]
            exact own_mono ho hs
          have HG := Lib.hid hG; clear hG
          gi_wp2_with (refine ⟨trivial, ?_⟩; gi_at_call 13; refine (callsIn_wide.2 (qword_ok k _ _ rfl hlt)).mono ?_; rintro e w1 ⟨v, rfl, ho, hb⟩; have hs1 := hb.size; obtain ⟨fn, tmps, assign, body, hy, hR⟩ := hY (86 + k) v w1 (by omega) (hJ _ _ w1 hJk hb) (HG.out v w1 ho); clear ho hb)
          refine hR.mono ?_
          rintro e W3 (⟨rfl, hJ3, hs3⟩ | ⟨rfl, hJx3⟩)
          · gi_wp2
            go_roundw
            case rel => exact ⟨k + 1, by omega, by go_num, hJ3, by omega⟩
            case measure => simp [intOf]; omega
          · gi_wp2
            exact bodyPost_ret (results_none rfl _ _ _) rfl ⟨⟨_, rfl⟩, .inr hJx3⟩
        · obtain rfl : k = 52 := by omega
          gi_wp2
          go_end0
          exact ⟨⟨_, rfl⟩, .inl hJk⟩
end Go.Proofs.Ytepdcpbgdfjobaa.W8
