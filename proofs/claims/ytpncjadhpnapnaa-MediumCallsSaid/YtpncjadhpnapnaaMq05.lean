/- Chapter 12: what Scratch needs: scratches appended to a full slice, whatever they are; the groups of the lost offsets moved to another world. -/
import Derived.Test.YtpncjadhpnapnaaMq03
import Derived.Test.YtpncjadhpnapnaaMq04
import Derived.Maps.OwnRows
import Derived.Maps.GroupsBeside
import Derived.ArgAppend
import Derived.Deep.Upon
/- Chapter 12: Kind and Sectors walked; the lost offsets of the sectors. -/
namespace Go.Proofs.Ytpncjadhpnapnaa.D12
open Go.RowKit Go.Maps C9
open D13 (RdI ixI)
set_option linter.unusedVariables false

set_option maxRecDepth 100000 in
theorem kind12 {w : World} {g : Nat} {M : Med} {X R : Nat → Prop} (h : MedW w g M X R) :
    Calls Try.prog 53 #[.pointer (some ⟨g, 0, none⟩)] w fun e w' => e = .returned (.int .i64 M.kind) ∧ w' = w := by
  obtain ⟨L, h⟩ := h
  obtain ⟨c0, c1, c2, c3, c4⟩ := h.cells
  clear h
  go_enter Try.func53, Try.ntmps53
  go_wp2_with fail
  go_ret
  exact ⟨rfl, rfl⟩
set_option maxRecDepth 100000 in
theorem sectors12 {w : World} {g : Nat} {M : Med} {X R : Nat → Prop} (h : MedW w g M X R) (hn : M.n ≤ 4096) :
    Calls Try.prog 54 #[.pointer (some ⟨g, 0, none⟩)] w fun e w' => e = .returned (.int .i64 M.n) ∧ w' = w := by
  obtain ⟨L, h⟩ := h
  obtain ⟨c0, c1, c2, c3, c4⟩ := h.cells
  rw [h.n] at c2
  clear h
  generalize M.n = n at *
  go_enter Try.func54, Try.ntmps54
  go_wp2_with fail
  go_ret
  exact ⟨rfl, rfl⟩
/-- the lost offsets of the sectors among the first 'k' lost bytes: those of sector 'i' -/
def part (l : List Int) (i : Nat) : List Int := (l.filter fun x => decide (x / 2352 = (i : Int))).map (· % 2352)
theorem part_nil (i : Nat) : part [] i = [] := rfl
theorem part_snoc (l : List Int) (x : Int) (i : Nat) : part (l ++ [x]) i = if x / 2352 = (i : Int) then part l i ++ [x % 2352] else part l i := by
  unfold part
  rw [List.filter_append, List.map_append]
  by_cases h : x / 2352 = (i : Int) <;> simp [h]
theorem part_lost (n : Nat) (scr : List Sc) (i : Nat) : part (lostL n scr) i = lostS n scr i := by
  have hs := lostN_sorted scr (98 * n)
  have hb := lostN_bd scr (98 * n)
  refine sorted_eq ?_ ?_ fun z => ?_
  · unfold part
    rw [List.pairwise_map]
    refine (List.Pairwise.filter _ hs).imp_of_mem fun {a b} ha hb' h => ?_
    rw [List.mem_filter] at ha hb'
    have h1 := of_decide_eq_true ha.2
    have h2 := of_decide_eq_true hb'.2
    omega
  · unfold lostS
    rw [List.pairwise_map]
    exact (List.Pairwise.filter _ List.pairwise_lt_range).imp fun h => by simpa using h
  · unfold part lostS lostP
    simp only [List.mem_map, List.mem_filter, List.mem_range, decide_eq_true_eq]
    constructor
    · rintro ⟨y, ⟨h1, h2⟩, rfl⟩
      have h3 := hb y h1
      refine ⟨(y % 2352).toNat, ⟨by omega, ?_⟩, by show ((y % 2352).toNat : Int) = _; omega⟩
      have e : ((2352 * i + (y % 2352).toNat : Nat) : Int) = y := by omega
      rw [e]; exact h1
    · rintro ⟨k, ⟨h1, h2⟩, rfl⟩
      refine ⟨((2352 * i + k : Nat) : Int), ⟨h2, by omega⟩, ?_⟩
      show _ = (k : Int)
      omega
end Go.Proofs.Ytpncjadhpnapnaa.D12
/- Chapter 12: Raw of the reference walked. -/
namespace Go.Proofs.Ytpncjadhpnapnaa.D12
open Go.RowKit Go.Maps C9
open D13 (RdI ixI)
set_option linter.unusedVariables false

theorem Try.infoB12 : (Try.prog.info? 5).map (fun i => (i.zero, i.size, i.bytes)) = some (some (.int .u8 0), 1, 1) := by kernel_rfl
def actv (k a b : Int) (sh : Bool) (vs vE vC : Value) (d : Dam) : Value := .agg #[.int .i64 k, .int .i64 a, .int .i64 b, .bool sh, vs, .int .i64 d.lba, vE, vC]
theorem b8_wrap (x : Int) : wrap64 x % 256 = ((b8 x).toNat : Int) := by
  unfold b8 wrap64
  rw [UInt8.toNat_ofNat']
  omega
set_option maxRecDepth 100000 in
set_option maxHeartbeats 2000000 in
theorem raw12 (k a b : Int) (sh : Bool) (vs vE vC : Value) (d : Dam) (hb : In64 b) (w : World) :
    Calls Try.prog 17 #[actv k a b sh vs vE vC d] w fun e w' => e = .returned (.string (str (rawR b sh))) ∧ Below w.heap.size w w' := by
  cases sh with
  | true =>
    go_enter Try.func17, Try.ntmps17
    unfold actv
    go_wp2_with fail
    have hb1 : Below w.heap.size w (w.alloc (.cells #[.int .i64 k, .int .i64 a, .int .i64 b, .bool true, vs, .int .i64 d.lba, vE, vC] 46)) := (Below.refl _ w).alloc (Nat.le_refl _) _
    have hx1 := Bx.new w 46 [.int .i64 k, .int .i64 a, .int .i64 b, .bool true, vs, .int .i64 d.lba, vE, vC]
    obtain ⟨w1, hw1⟩ : ∃ w1, w1 = w.alloc (.cells #[.int .i64 k, .int .i64 a, .int .i64 b, .bool true, vs, .int .i64 d.lba, vE, vC] 46) := ⟨_, rfl⟩
    change Bx (w.alloc (.cells #[.int .i64 k, .int .i64 a, .int .i64 b, .bool true, vs, .int .i64 d.lba, vE, vC] 46)) _ _ _ at hx1
    have hs1 : w1.heap.size = w.heap.size + 1 := by rw [hw1]; simp
    rw [← hw1] at hb1 hx1 ⊢
    rw [← hs1]
    have ho0 : (w1.alloc (.cells #[] 5)).ownsRow w1.heap.size 5 1 (.slice (some ⟨w1.heap.size, 0, none⟩) 0 0) 0 (bs (rawK b 0)) := World.ownsRow_lit w1 #[] 0 (Nat.le_refl _) (by simp) (by simp)
    have hb0 := hb1.alloc hb1.size (.cells #[] 5)
    have hx0 := hx1.alloc (.cells #[] 5)
    have HS := Lib.hid hs1
    clear hb1 hx1 hw1 hs1
    go_loopw [3, 5] (fun vo vk wr => ∃ j : Nat, j ≤ 2351 ∧ vk = .int .i64 j ∧ wr.ownsRow w1.heap.size 5 1 vo j (bs (rawK b j)) ∧ Bx wr w.heap.size 46 [.int .i64 k, .int .i64 a, .int .i64 b, .bool true, vs, .int .i64 d.lba, vE, vC] ∧ Below w.heap.size w wr) (fun _ vk _ => 2351 - (RowKit.intOf vk).toNat)
    case atStart => exact ⟨0, by omega, rfl, ho0, hx0, hb0⟩
    case round =>
      clear ho0 hx0 hb0
      obtain ⟨j, hj, rfl, ho, hx, hbb⟩ := hrel
      by_cases hlt : j < 2351
      · have hbs := hbb.size
        have hc2 := hx.cell (i := 2) rfl
        obtain ⟨c, hcd⟩ : ∃ c, c = b8 (b + (j % 7 : Nat)) := ⟨_, rfl⟩
        have hwp : wrap64 (b + (j : Int) % 7) % 256 = (c.toNat : Int) := by
          rw [hcd]
          have := b8_wrap (b + (j % 7 : Nat))
          push_cast at this ⊢
          exact this
        have HK := Lib.hid (rawK_succ b j)
        rw [← hcd] at HK
        clear hcd
        have hal := (Below.refl wr.heap.size wr).alloc (Nat.le_refl _) (.cells #[B c] 5)
        have ho6 := ownD_keep ho hal
        have hx6 := hx.call hal
        have hrd1 : Rd (wr.alloc (.cells #[B c] 5)) (.slice (some ⟨wr.heap.size, 0, none⟩) 1 1) [c] := Rd.ofOwn' (World.ownsRow_lit wr #[B c] 1 (Nat.le_refl _) (by simp [maxLen]) (by simp)) (by simp)
        have hb6 := hbb.trans (hal.mono hbs)
        have hlt1 := hx6.lt
        have hb6s : w1.heap.size ≤ (wr.alloc (.cells #[B c] 5)).heap.size := by rw [HS.out]; omega
        have HX6 := Lib.hid hx6
        have HB6 := Lib.hid hb6
        have HO6 := Lib.hid ho6
        clear ho hx hbb hal hx6 hb6
        go_wp2_with (refine wpList_appB rfl _ _ rfl Try.underlying52 Try.infoB12 HO6.out rfl hrd1 rfl (by simp; omega) hb6s ?_; intro v7 w7 hown7 hgr7 _)
        have hb7 := HB6.out.grown hgr7 HB6.out.size (fun q hq => by have := ownD_block HO6.out q hq; rw [HS.out] at this; omega)
        have hx7 := (hgr7.block w.heap.size hlt1 (fun e => by have := ownD_block HO6.out _ e.symm; rw [HS.out] at this; omega)).trans HX6.out
        rw [show ([c] : List UInt8).length = 1 from rfl, ← HK.out] at hown7
        clear hgr7
        go_roundw
        case rel => exact ⟨j + 1, by omega, by go_num, hown7, hx7, hb7⟩
        case measure => simp [RowKit.intOf]; omega
      · obtain rfl : j = 2351 := by omega
        have hrd := Rd.ofOwn' ho (by omega)
        obtain ⟨a3, c3, rfl⟩ := hrd.form
        have hcx := run_str (P := Try.prog) Try.underlying52 Try.underlying5 Try.underlying9 hrd
        clear ho hrd
        go_wp2_with fail
        go_ret
        exact ⟨rfl, hbb⟩
  | false =>
    go_enter Try.func17, Try.ntmps17
    unfold actv
    go_wp2_with fail
    have hb1 : Below w.heap.size w (w.alloc (.cells #[.int .i64 k, .int .i64 a, .int .i64 b, .bool false, vs, .int .i64 d.lba, vE, vC] 46)) := (Below.refl _ w).alloc (Nat.le_refl _) _
    have hx1 := Bx.new w 46 [.int .i64 k, .int .i64 a, .int .i64 b, .bool false, vs, .int .i64 d.lba, vE, vC]
    obtain ⟨w1, hw1⟩ : ∃ w1, w1 = w.alloc (.cells #[.int .i64 k, .int .i64 a, .int .i64 b, .bool false, vs, .int .i64 d.lba, vE, vC] 46) := ⟨_, rfl⟩
    change Bx (w.alloc (.cells #[.int .i64 k, .int .i64 a, .int .i64 b, .bool false, vs, .int .i64 d.lba, vE, vC] 46)) _ _ _ at hx1
    have hs1 : w1.heap.size = w.heap.size + 1 := by rw [hw1]; simp
    rw [← hw1] at hb1 hx1 ⊢
    rw [← hs1]
    have ho0 : (w1.alloc (.cells #[] 5)).ownsRow w1.heap.size 5 1 (.slice (some ⟨w1.heap.size, 0, none⟩) 0 0) 0 (bs (rawK b 0)) := World.ownsRow_lit w1 #[] 0 (Nat.le_refl _) (by simp) (by simp)
    have hb0 := hb1.alloc hb1.size (.cells #[] 5)
    have hx0 := hx1.alloc (.cells #[] 5)
    have HS := Lib.hid hs1
    clear hb1 hx1 hw1 hs1
    go_loopw [3, 5] (fun vo vk wr => ∃ j : Nat, j ≤ 2352 ∧ vk = .int .i64 j ∧ wr.ownsRow w1.heap.size 5 1 vo j (bs (rawK b j)) ∧ Bx wr w.heap.size 46 [.int .i64 k, .int .i64 a, .int .i64 b, .bool false, vs, .int .i64 d.lba, vE, vC] ∧ Below w.heap.size w wr) (fun _ vk _ => 2352 - (RowKit.intOf vk).toNat)
    case atStart => exact ⟨0, by omega, rfl, ho0, hx0, hb0⟩
    case round =>
      clear ho0 hx0 hb0
      obtain ⟨j, hj, rfl, ho, hx, hbb⟩ := hrel
      by_cases hlt : j < 2352
      · have hbs := hbb.size
        have hc2 := hx.cell (i := 2) rfl
        obtain ⟨c, hcd⟩ : ∃ c, c = b8 (b + (j % 7 : Nat)) := ⟨_, rfl⟩
        have hwp : wrap64 (b + (j : Int) % 7) % 256 = (c.toNat : Int) := by
          rw [hcd]
          have := b8_wrap (b + (j % 7 : Nat))
          push_cast at this ⊢
          exact this
        have HK := Lib.hid (rawK_succ b j)
        rw [← hcd] at HK
        clear hcd
        have hal := (Below.refl wr.heap.size wr).alloc (Nat.le_refl _) (.cells #[B c] 5)
        have ho6 := ownD_keep ho hal
        have hx6 := hx.call hal
        have hrd1 : Rd (wr.alloc (.cells #[B c] 5)) (.slice (some ⟨wr.heap.size, 0, none⟩) 1 1) [c] := Rd.ofOwn' (World.ownsRow_lit wr #[B c] 1 (Nat.le_refl _) (by simp [maxLen]) (by simp)) (by simp)
        have hb6 := hbb.trans (hal.mono hbs)
        have hlt1 := hx6.lt
        have hb6s : w1.heap.size ≤ (wr.alloc (.cells #[B c] 5)).heap.size := by rw [HS.out]; omega
        have HX6 := Lib.hid hx6
        have HB6 := Lib.hid hb6
        have HO6 := Lib.hid ho6
        clear ho hx hbb hal hx6 hb6
        go_wp2_with (refine wpList_appB rfl _ _ rfl Try.underlying52 Try.infoB12 HO6.out rfl hrd1 rfl (by simp; omega) hb6s ?_; intro v7 w7 hown7 hgr7 _)
        have hb7 := HB6.out.grown hgr7 HB6.out.size (fun q hq => by have := ownD_block HO6.out q hq; rw [HS.out] at this; omega)
        have hx7 := (hgr7.block w.heap.size hlt1 (fun e => by have := ownD_block HO6.out _ e.symm; rw [HS.out] at this; omega)).trans HX6.out
        rw [show ([c] : List UInt8).length = 1 from rfl, ← HK.out] at hown7
        clear hgr7
        go_roundw
        case rel => exact ⟨j + 1, by omega, by go_num, hown7, hx7, hb7⟩
        case measure => simp [RowKit.intOf]; omega
      · obtain rfl : j = 2352 := by omega
        have hrd := Rd.ofOwn' ho (by omega)
        obtain ⟨a3, c3, rfl⟩ := hrd.form
        have hcx := run_str (P := Try.prog) Try.underlying52 Try.underlying5 Try.underlying9 hrd
        clear ho hrd
        go_wp2_with fail
        go_ret
        exact ⟨rfl, hbb⟩
end Go.Proofs.Ytpncjadhpnapnaa.D12
/- Chapter 12: the map of the lost offsets: put together as groups, read for ever after. -/
namespace Go.Proofs.Ytpncjadhpnapnaa.D12
open Go.RowKit Go.Maps C9
open D13 (RdI ixI)
open Go.WideElems (Fit rd rg)
open Go.ChangeShapes (lits)
set_option linter.unusedVariables false

/-- the groups read as 'f' -/
def GrD (D : DataW Unit) (f : Nat → List Int) : Prop := ∀ i : Nat, i < 5000 → (D.atKey (.int .i64 (i : Nat)) .nil = .nil ∧ f i = []) ∨ D.atKey (.int .i64 (i : Nat)) .nil = .slice (lits .i64 (f i)) []
theorem wfK12 {i : Nat} (h : i < 5000) : (Lit.int .i64 (i : Nat)).wf = true := by simp [Lit.wf, IntKind.min, IntKind.max, IntKind.signed, IntKind.bits]; omega
theorem zeroLo : ∀ w, (zeroValue 30).run Try.prog w = .ok (.slice none 0 0) w := fun _ => by kernel_rfl
theorem lits_inj {a b : List Int} (h : (lits .i64 a : List (DataW Unit)) = lits .i64 b) : a = b := by
  unfold lits at h
  exact (List.map_inj_right (fun x y e => by simpa using e)).1 h
theorem rawMap {w : World} {base b n : Nat} {D : DataW Unit} (h : w.ownsGroups Try.prog 3 base 3 .i64 b n D) : ∃ D2 : DataW Value, w.ownsMap Try.prog 3 Mp.rawE b n D2 := by
  obtain ⟨es, clock, hb, F, hs, _, _⟩ := h
  refine ⟨_, es, clock, hb, ⟨F.size, F.stamped, fun x hx => ?_⟩, hs, rfl⟩
  obtain ⟨y, hy⟩ := F.reads x hx
  have hk := Go.WideElems.rd_key hy
  exact ⟨(y.1, .held x.val), by simp [rd, hk, Mp.rawE]⟩
set_option maxRecDepth 100000 in
theorem LoM.ofGroups {w : World} {base b N : Nat} {D : DataW Unit} {n : Nat} {scr : List Sc} (h : w.ownsGroups Try.prog 3 base 3 .i64 b N D) (hN : N ≤ 100000000) (hn : n ≤ 4096) (hD : GrD D (lostS n scr)) : LoM w (some b) n scr := by
  obtain ⟨D2, h2⟩ := rawMap h
  refine ⟨N, hN, D2, h2, fun i hi => ?_⟩
  have hkey := keyOf_int_mk Try.underlying3 (wfK12 (show i < 5000 by omega))
  obtain ⟨v, zs, hrun, hat, hown, _, _⟩ := h.at lawI12 Try.underlying86 (zeroLo w) (by unfold maxLen; omega) hkey
  obtain ⟨v2, ps, hrun2, hat2⟩ := h2.lookup lawI12 Try.underlying86 (zeroLo w) (zd := .held (.slice none 0 0)) (zp := []) rfl hkey
  rw [hrun] at hrun2
  obtain rfl : v = v2 := by simpa using hrun2
  refine ⟨v, ?_, ?_⟩
  · simp only [Mp.rawE, Option.some.injEq, Prod.mk.injEq] at hat2
    exact hat2.1.symm
  · have hz : zs = lostS n scr i := by
      rcases hD i (by omega) with ⟨h3, h4⟩ | h3
      · rw [h3] at hat
        rcases hown.datum (H := Unit) with ⟨_, h5⟩ | h5
        · rw [h5, h4]
        · rw [h5] at hat; cases hat
      · rw [h3] at hat
        rcases hown.datum (H := Unit) with ⟨h5, _⟩ | h5
        · rw [h5] at hat; cases hat
        · rw [h5] at hat
          injection hat with e1 _
          exact (lits_inj e1).symm
    subst hz
    have hl : (lostS n scr i).length ≤ 2352 := by unfold lostS; rw [List.length_map]; exact Nat.le_trans (List.length_filter_le _ _) (by rw [List.length_range]; exact Nat.le_refl _)
    exact D13.rdI_own hown.1 rfl (by omega) fun x hx => by
      unfold lostS at hx
      obtain ⟨k, hk, rfl⟩ := List.mem_map.1 hx
      have := List.mem_range.1 (List.mem_filter.1 hk).1
      show -9223372036854775808 ≤ (k : Int) ∧ (k : Int) ≤ 9223372036854775807
      omega
/-- a group grows by one number -/
theorem GrD.put {D : DataW Unit} {f : Nat → List Int} (h : GrD D f) (hm : ∃ es, D = .map es) {i : Nat} (hi : i < 5000) (v : Value) (x : Int) (hv : (rowDatum .i64 v (f i ++ [x]) : DataW Unit) = .slice (lits .i64 (f i ++ [x])) []) :
    GrD (D.put (.int .i64 (i : Nat)) (rowDatum .i64 v (f i ++ [x]))) (fun j => if j = i then f i ++ [x] else f j) := by
  intro j hj
  obtain ⟨es, rfl⟩ := hm
  by_cases e : j = i
  · subst e
    right
    rw [atKey_put_same (by exact ⟨es, rfl⟩) (by trivial)]
    show _ = DataW.slice (lits .i64 (if j = j then f j ++ [x] else f j)) []
    rw [if_pos rfl]
    exact hv
  · have hne : ¬ ((j : Nat) : Int) = (i : Nat) := by omega
    rw [atKey_put_other (by simpa using hne)]
    show (_ ∧ (if j = i then _ else f j) = []) ∨ _ = DataW.slice (lits .i64 (if j = i then _ else f j)) []
    rw [if_neg e]
    exact h j hj
end Go.Proofs.Ytpncjadhpnapnaa.D12
/- Chapter 12: scratches appended to a full slice that is only read. -/
namespace Go.Proofs.Ytpncjadhpnapnaa.D12
open Go.RowKit Go.Maps C9
open D13 (RdI ixI)
set_option linter.unusedVariables false

theorem Try.infoSc12 : (Try.prog.info? 36).map (fun i => (i.zero, i.size, i.bytes)) = some (some (.agg (scc scz).toArray), 2, 16) := by kernel_rfl
theorem scc_one (x : Sc) : ∀ u ∈ scc x, u.oneCell' = true := fun u hu => by
  simp only [scc, List.mem_cons, List.not_mem_nil, or_false] at hu
  rcases hu with rfl | rfl <;> rfl
set_option maxRecDepth 100000 in
/-- 'append(s, l...)' of scratches where 's' has no room -/
theorem sc_append {w : World} {a : Option Addr} {scr l : List Sc} {vl : Value} (hs : RdSc w (.slice a scr.length scr.length) scr) (hl : RdSc w vl l) (h0 : l ≠ []) (hlen : scr.length + l.length ≤ 1000000000000) (hnil : a = none → scr = []) (ty : TypeId) :
    ∃ v' w', (Builtin.append_ #[22, 22] ty #[.slice a scr.length scr.length, vl]).run Try.prog w = .ok v' w' ∧ w'.ownsRow w.heap.size 36 2 v' (scr.length + l.length) (flD scc (scr ++ l)) ∧ w.grownBy w' none := by
  obtain ⟨i0, hi, hz0, hz1, hz2⟩ := info_parts Try.infoSc12
  have hr1 := RdD.reads scc_len hs
  have hr2 := RdD.reads scc_len hl
  have hpos : 0 < l.length := List.length_pos_iff.2 h0
  obtain ⟨e1, a1, c1, b1, o1, hv1, _, hc1⟩ := hr1
  obtain ⟨e2, a2, c2, b2, o2, hv2, _, hc2⟩ := hr2
  subst hv2
  have hl2 : (flD scc l).length = l.length * 2 := flD_length scc_len l
  have h2 : a2 = some ⟨b2, o2, none⟩ := (hc2 0 ((flD scc l)[0]'(by omega)) (List.getElem?_eq_getElem _)).1
  subst h2
  have hn2 : ∀ j u, (flD scc l)[j]? = some u → w.cell? ((⟨b2, o2, none⟩ : Addr).add j) = some u := fun j u hu => by rw [Addr.add_lit]; exact (hc2 j u hu).2
  rw [flD_append]
  cases a with
  | none =>
    have hscr := hnil rfl
    subst hscr
    obtain ⟨v', w', hrun, r1, r2, _⟩ := run_append_own (P := Try.prog) w w.heap.size 22 ty 36 i0 _ 2 16 Try.underlying22 hi hz0 hz1 hz2 rfl (by decide) (.slice none 0 0) 0 [] (World.ownsRow_nil w _ _ 2) ⟨b2, o2, none⟩ l.length c2 (flD scc l) hl2 hn2 (flD_one scc_one l) (by unfold maxLen; omega) (by omega) (Nat.le_refl _)
    exact ⟨v', w', hrun, by rw [show flD scc ([] : List Sc) = [] from rfl]; simpa using r1, by simpa [Value.ownBlock] using r2⟩
  | some ad =>
    have ho : ∀ j u, (flD scc scr)[j]? = some u → w.cell? (ad.add j) = some u := fun j u hu => by
      obtain ⟨g1, g2⟩ := hc1 j u hu
      have : ad = ⟨b1, o1, none⟩ := by
        injection hv1 with g3 _ _
        exact Option.some.inj (g3.trans g1)
      rw [this, Addr.add_lit]; exact g2
    obtain ⟨v', w', hrun, r1, r2⟩ := run_append_arg_grows (P := Try.prog) w 22 ty 36 i0 _ 2 16 Try.underlying22 hi hz0 hz1 hz2 rfl (by decide) ad scr.length scr.length (flD scc scr) (flD_length scc_len scr) ho ⟨b2, o2, none⟩ l.length c2 (flD scc l) hl2 hn2 (by omega) (by unfold maxLen; omega) (by omega)
    exact ⟨v', w', hrun, r1, r2⟩
/-- 'v[:hi:hi]', its value told -/
theorem cut3_form {P : Program} {t e : TypeId} (ht : P.underlying t = some (.slice e)) {sz : Nat} (hs : (P.info? e).map (·.size) = some sz) {a : Option Addr} {c : Nat} {w : World} {n : Nat} {f : Nat → List Value} (h : RdS w sz (.slice a n c) n f) (hi : Nat) (h2 : hi ≤ n) :
    RdS w sz (.slice a hi hi) hi f ∧ ∀ (x y : Int) (w' : World), x = hi → y = hi → (Instr.slice t (.slice a n c) none (some (.int .i64 x)) (some (.int .i64 y))).run P w' = .ok (.slice a hi hi) w' := by
  obtain ⟨a1, c1, b, off, hv, hc, hcell⟩ := h
  injection hv with g1 g2 g3
  subst g1 g3
  cases hq : P.info? e with
  | none => simp [hq] at hs
  | some i =>
    have hs1 : i.size = sz := by simpa [hq] using hs
    refine ⟨⟨a, hi, b, off, rfl, Nat.le_refl _, fun j hj => hcell j (by omega)⟩, ?_⟩
    rintro x y w' rfl rfl
    have ha : ¬ hi = 0 → Option.map (fun x => x.add 0) a = a := fun h0 => by
      rw [(hcell 0 (by omega)).1]; simp [Addr.add]
    simp [Instr.slice, run_underlying ht, Instr.sliceBounds, run_sliceBound, sizeOf, typeInfo, hq, (by omega : hi ≤ c)]
    exact ha
/-- 'append(s, l...)' of scratches where 's' has no room, at the operation -/
theorem wpList_scApp {w : World} {ops : Array Oper} {rest : List Oper} {o : Oper} {ac : Act} {Q : Exit → Act → World → Prop} (hg : o.guard = none) (s x : Operand)
    (hop : o.op = .call { callee := .builtin .append, args := #[s, x], argTypes := #[22, 22] })
    {a : Option Addr} {scr l : List Sc} {vl : Value} (hs : RdSc w (.slice a scr.length scr.length) scr) (hl : RdSc w vl l) (h0 : l ≠ []) (hlen : scr.length + l.length ≤ 1000000000000) (hnil : a = none → scr = [])
    (hv : ac.eval s = .slice a scr.length scr.length) (hx : ac.eval x = vl)
    (hK : ∀ v' w', w'.ownsRow w.heap.size 36 2 v' (scr.length + l.length) (flD scc (scr ++ l)) → w.grownBy w' none → wpList Try.prog ops Q rest (ac.put o.dst v') w') :
    wpList Try.prog ops Q (o :: rest) ac w := by
  refine wpList_plain hg fun K hK' => ?_
  obtain ⟨v', w', hrun, r1, r2⟩ := sc_append hs hl h0 hlen hnil o.type
  unfold Oper.wp execOp
  simp only [hop, resolve, invoke, builtin, Sem.run_bind, Sem.run_pure, Result.andThen_ok, List.map_toArray, List.map_cons, List.map_nil, hv, hx, hrun]
  exact hK' _ _ (hK v' w' r1 r2)
end Go.Proofs.Ytpncjadhpnapnaa.D12
namespace Go.Proofs.Ytpncjadhpnapnaa.D12
open Go.RowKit Go.Maps C9
open D13 (RdI ixI)
open Go.ChangeShapes (lits)
set_option linter.unusedVariables false

/-- 'make([]string, n)' -/
theorem wpList_mkStr {w : World} {ops : Array Oper} {rest : List Oper} {o : Oper} {a : Act} {Q : Exit → Act → World → Prop}
    (hg : o.guard = none) (l c : Operand) (hop : o.op = Op.makeSlice 95 l c)
    {L C : Int} (n : Nat) (hl : a.eval l = .int .i64 L) (hc : a.eval c = .int .i64 C) (hL : L = (n : Int)) (hC : C = (n : Int)) (b3 : n ≤ 1000000)
    (hK : ∀ w' v, v = .slice (some ⟨w.heap.size, 0, none⟩) n n → RdStr w' v (List.replicate n []) → Below w.heap.size w w' → wpList Try.prog ops Q rest (a.put o.dst v) w') :
    wpList Try.prog ops Q (o :: rest) a w := by
  obtain ⟨i0, hi, hz0, hz1, hz2⟩ := info_parts Try.infoStr9
  refine wpList_make_full w hg l c _ hop w.heap.size 9 i0 _ 1 Try.underlying95 hi hz0 hz1 .i64 .i64 L C n hl hc hL hC (by rw [hz2]; omega) (by unfold maxLen; omega) (Nat.le_refl _) fun w' h3 h4 => hK w' _ rfl ?_ ((Below.refl _ _).grown h4 (Nat.le_refl _) (fun k hk => by cases hk))
  have e1 : (Value.string ⟨#[]⟩).cells = (ssD []).toArray := rfl
  rw [e1, made_flD ssD [] 1 n (by decide) ssD_len] at h3
  have h5 : w'.ownsRow w.heap.size 9 1 (.slice (some ⟨w.heap.size, 0, none⟩) n n) (List.replicate n ([] : List UInt8)).length (flD ssD (List.replicate n [])) := by rw [List.length_replicate]; exact h3
  exact RdD.ofOwn ssD_len h5
/-- only blocks of 'K' are looked at -/
def Same (K : Nat → Prop) (w w' : World) : Prop := ∀ b, K b → w'.heap[b]? = w.heap[b]?
set_option maxRecDepth 100000 in
/-- 'append(s, l...)' of scratches where 's' has no room, at the operation; 'l' may be empty -/
theorem wpList_scAny {w : World} {ops : Array Oper} {rest : List Oper} {o : Oper} {ac : Act} {Q : Exit → Act → World → Prop} (hg : o.guard = none) (s x : Operand)
    (hop : o.op = .call { callee := .builtin .append, args := #[s, x], argTypes := #[22, 22] })
    {R : Nat → Prop} {a : Option Addr} {scr l : List Sc} {vl : Value} (hs : ∀ w', Same R w w' → RdSc w' (.slice a scr.length scr.length) scr) (hR : ∀ b, R b → b < w.heap.size) (hl : RdSc w vl l) (hlen : scr.length + l.length ≤ 1000000000000) (hnil : a = none → scr = [])
    (hv : ac.eval s = .slice a scr.length scr.length) (hx : ac.eval x = vl)
    (hK : ∀ v' w', (∀ w2, Same (fun b => R b ∨ (w.heap.size ≤ b ∧ b < w'.heap.size)) w' w2 → RdSc w2 v' (scr ++ l)) → w.grownBy w' none → wpList Try.prog ops Q rest (ac.put o.dst v') w') :
    wpList Try.prog ops Q (o :: rest) ac w := by
  by_cases h0 : l = []
  · subst h0
    obtain ⟨a2, c2, hvl, _⟩ := RdD.form hl
    subst hvl
    obtain ⟨i0, hi, hz0, hz1, hz2⟩ := info_parts Try.infoSc12
    refine wpList_plain hg fun K hK' => ?_
    have hsrc : Src Try.prog i0.size 22 (.slice a2 ([] : List Sc).length c2) 0 [] w := by
      cases a2 with
      | none => exact Src.ofNil w Try.underlying22 c2
      | some p => exact Src.ofSlice w Try.underlying22 p 0 c2 [] (by simp) (by simp) (by simp)
    have hrun := run_append_nothing (P := Try.prog) w 22 22 o.type 36 i0 Try.underlying22 hi a scr.length scr.length (Nat.le_refl _) _ hsrc
    unfold Oper.wp execOp
    simp only [hop, resolve, invoke, builtin, Sem.run_bind, Sem.run_pure, Result.andThen_ok, List.map_toArray, List.map_cons, List.map_nil, hv, hx, hrun]
    refine hK' _ _ (hK _ _ (fun w2 h2 => ?_) (World.grownBy.refl _ _))
    rw [List.append_nil]
    exact hs w2 fun b hb => h2 b (.inl hb)
  · refine wpList_scApp hg s x hop (hs w fun _ _ => rfl) hl h0 hlen hnil hv hx fun v' w' h1 h2 => hK v' w' (fun w2 h3 => ?_) h2
    have h4 : w2.ownsRow w.heap.size 36 2 v' (scr.length + l.length) (flD scc (scr ++ l)) := by
      refine ⟨h1.1, ?_⟩
      rcases h1.2 with h | ⟨g, cap, cur, hv, hg, hh, r⟩
      · exact .inl h
      · exact .inr ⟨g, cap, cur, hv, hg, (h3 g (.inr ⟨hg, (Array.getElem?_eq_some_iff.1 hh).1⟩)).trans hh, r⟩
    exact RdD.ofOwn (base := w.heap.size) (e := 36) scc_len (by rw [List.length_append]; exact h4)
theorem ownsInts_move {w w' : World} {base e : Nat} {q : IntKind} {v : Value} {zs : List Int} (h : w.ownsInts base e q v zs) (hk : ∀ x, base ≤ x → x < w.heap.size → w'.heap[x]? = w.heap[x]?) : w'.ownsInts base e q v zs := by
  refine ⟨⟨h.1.1, ?_⟩, h.2⟩
  rcases h.1.2 with h | ⟨g, cap, cur, hv, hg, hh, r⟩
  · exact .inl h
  · exact .inr ⟨g, cap, cur, hv, hg, (hk g hg (Array.getElem?_eq_some_iff.1 hh).1).trans hh, r⟩
/-- the groups in another world, in which their blocks are the same -/
theorem ownsGroups_move {H : Type} {P : Program} {k : TypeId} {w w' : World} {base e : Nat} {q : IntKind} {b n : Nat} {D : DataW H} (h : w.ownsGroups P k base e q b n D) (hk : ∀ x, (x = b ∨ base ≤ x) → x < w.heap.size → w'.heap[x]? = w.heap[x]?) : w'.ownsGroups P k base e q b n D := by
  obtain ⟨es, clock, hb, F, hs, rfl, hbb, hlen, hap⟩ := h
  have hblt : b < w.heap.size := (Array.getElem?_eq_some_iff.1 hb).1
  have hst : ∀ x ∈ es.toList, ∀ z, rowElem (H := H) w base e q x.val = some z → rowElem w' base e q x.val = some z := fun x hx z hz => by
    obtain ⟨zs, ho, rfl⟩ := rowElem_inv hz
    exact rowElem_mk (ownsInts_move ho fun x h1 h2 => hk x (.inr h1) h2)
  obtain ⟨F1, hmap, _⟩ := F.stay hst
  refine ⟨es, clock, (hk b (.inl rfl) hblt).trans hb, F1, hs, by rw [hmap], hbb, fun x hx zs ho => ?_, hap⟩
  obtain ⟨y, hy⟩ := F.reads x hx
  obtain ⟨z, hz, _⟩ := Go.WideElems.rd_val hy
  obtain ⟨zs0, ho0, _⟩ := rowElem_inv hz
  rw [ho.unique (ownsInts_move ho0 fun x h1 h2 => hk x (.inr h1) h2)]
  exact hlen x hx zs0 ho0
/-- no group at all, from any base -/
theorem ownsGroups_none {H : Type} {P : Program} {k : TypeId} {w : World} {base e : Nat} {q : IntKind} {b : Nat} (h : w.heap[b]? = some (.map #[] 0)) (hb : b < base) : w.ownsGroups (H := H) P k base e q b 0 (.map []) :=
  ⟨#[], 0, h, ⟨by simp, Go.MapKept.stamped_empty 0, by simp⟩, Nat.le_refl _, rfl, hb, by simp, by simp⟩
/-- a look-up depends on the map's block alone -/
theorem lookup_move {w w' : World} {base b n : Nat} {D : DataW Unit} (h : w.ownsGroups Try.prog 3 base 3 .i64 b n D) (hb : w'.heap[b]? = w.heap[b]?) {i : Nat} (hi : i < 5000) {v : Value} (hrun : (Instr.lookup 86 (.map (some b)) (.int .i64 (i : Nat)) false).run Try.prog w = .ok v w) :
    (Instr.lookup 86 (.map (some b)) (.int .i64 (i : Nat)) false).run Try.prog w' = .ok v w' := by
  obtain ⟨D2, h2⟩ := rawMap h
  have hkey := keyOf_int_mk Try.underlying3 (wfK12 hi)
  have h3 : w'.ownsMap Try.prog 3 Mp.rawE b n D2 := by
    obtain ⟨es, clock, hb', F, hs, hD⟩ := h2
    exact ⟨es, clock, hb.trans hb', F, hs, hD⟩
  obtain ⟨v2, ps, hrun2, hat2⟩ := h2.lookup lawI12 Try.underlying86 (zeroLo w) (zd := .held (.slice none 0 0)) (zp := []) rfl hkey
  obtain ⟨v3, ps3, hrun3, hat3⟩ := h3.lookup lawI12 Try.underlying86 (zeroLo w') (zd := .held (.slice none 0 0)) (zp := []) rfl hkey
  rw [hrun] at hrun2
  obtain rfl : v = v2 := by simpa using hrun2
  simp only [Mp.rawE, Option.some.injEq, Prod.mk.injEq] at hat2 hat3
  have : v3 = v := by
    have := hat3.1.trans hat2.1.symm
    simpa using this
  subst this
  exact hrun3
/-- one more lost offset -/
theorem GrD.snoc {D : DataW Unit} {L : List Int} {x : Int} {i : Nat} (h : GrD D (part L)) (hm : ∃ es, D = .map es) (hi : i < 5000) (hx : x / 2352 = (i : Int)) {v : Value} (hv : (rowDatum .i64 v (part L i ++ [x % 2352]) : DataW Unit) = .slice (lits .i64 (part L i ++ [x % 2352])) []) :
    GrD (D.put (.int .i64 (i : Nat)) (rowDatum .i64 v (part L i ++ [x % 2352]))) (part (L ++ [x])) := by
  have h1 := h.put hm hi v (x % 2352) hv
  have e : (fun j => if j = i then part L i ++ [x % 2352] else part L j) = part (L ++ [x]) := by
    funext j
    rw [part_snoc]
    by_cases e : j = i
    · subst e; rw [if_pos rfl, if_pos hx]
    · rw [if_neg e, if_neg (by omega)]
  rwa [e] at h1
theorem LoM.move {w w' : World} {base b N : Nat} {D : DataW Unit} {n : Nat} {scr : List Sc} (h : w.ownsGroups Try.prog 3 base 3 .i64 b N D) (hN : N ≤ 100000000) (hn : n ≤ 4096) (hD : GrD D (lostS n scr)) (hk : ∀ x, (x = b ∨ base ≤ x) → x < w.heap.size → w'.heap[x]? = w.heap[x]?) : LoM w' (some b) n scr :=
  LoM.ofGroups (ownsGroups_move h hk) hN hn hD
end Go.Proofs.Ytpncjadhpnapnaa.D12
