/- Shaken out of XSeqI XIb XRow -/
import Derived.Test.YtflmjdjkfognjaaGreatTp12
import Derived.Test.YtflmjdjkfognjaaGreatTp10
import Derived.Test.YtflmjdjkfognjaaGreatTp07
import Derived.Sort.LoopGhostIn
import Derived.Outline
import Derived.Test.YtflmjdjkfognjaaGreatChecked
import Derived.Lib.ConvBytes
import Derived.Lib.AppendZerosOnto
import Derived.Laws.CopyOwn
import Derived.WalkSpells
namespace Go.Proofs.YtflmjdjkfognjaaGreat
open Go.RowKit
set_option linter.unusedVariables false
section
variable {P : Program} {Q : Exit → Act → World → Prop} {n2 l₀ : Nat}
theorem wpIn_region_seq {id : Nat} {l : List Oper} {a0 : Act} {w : World} (hQ : ¬ LetsOut Q) (hd : l.all plainOp = true) (hm : P.follows .mixedOrders = true) (R : Nat → World → World → Prop) (C : Nat → World → Prop) (V : Nat → Value → World → Prop) (sk : Nat → Bool) (eff : Nat → Option Nat) (n : Nat) (hf : formR l a0.tmps.size = true)
    (hch : chainB l eff sk n = true) (hn : ((List.range l.length).any fun i => eff i == some (n - 1)) = true ∨ n = 0)
    (hV : ∀ i r v w w', (∀ k, eff i = some k → k < r) → R r w w' → V i v w → V i v w') (h0 : C 0 w.drew)
    (hstep : StepsS P Q R C V sk eff l a0 0 l)
    (hend : ∀ a w, C n w → a.defers = a0.defers → a.tmps.size = a0.tmps.size → (∀ t, freeB l t = true → a.tmps.getD t undef = a0.tmps.getD t undef) →
      (∀ (i : Nat) (o : Oper), l[i]? = some o → sk i = false → V i (slotV o.dst a) w) → Q .normal a w) : (Code.region id l.toArray true).wpIn (Fence.wide.inRound l₀) n2 P Q a0 w := by
  refine wpIn_region_any hm (wpAny_in hd hQ _ _ _ _ ?_)
  have hnn : (Array.replicate l.toArray.size false).size = l.length := by simp
  have hz : ∀ i, i < l.length → (Array.replicate l.toArray.size false).getD i false = false := fun i hi => by simp [Array.getD, hi]
  refine wpAny_seq hf hch hn hV hstep hend _ _ _ _ hnn ?_ ⟨⟨0, Nat.zero_le _, h0, fun i k hi _ => ?_⟩, rfl, rfl, fun t _ => rfl, fun i o ho _ hl => ?_, fun _ _ _ _ _ _ => rfl, fun j oj hoj hl => ?_⟩
  · have := List.length_filter_le (fun i => !(Array.replicate l.toArray.size false).getD i true) (List.range l.length)
    unfold left
    simpa using this
  · rw [hz i hi]; simp
  · rw [hz i (List.getElem?_eq_some_iff.1 ho).1] at hl; cases hl
  · rw [hz j (List.getElem?_eq_some_iff.1 hoj).1] at hl; cases hl
end
end Go.Proofs.YtflmjdjkfognjaaGreat
namespace Go.Proofs.YtflmjdjkfognjaaGreat.T7
open Go Go.RowKit
set_option linter.unusedVariables false
def rs (r : Nat) : Nat := (r / 2) ||| (((r % 2) ^^^ (r / 2 % 2)) * 16384)
def reg : Nat → Nat
  | 0 => 1
  | k + 1 => rs (reg k)
theorem rs_lt {r : Nat} (h : r < 32768) : rs r < 32768 := by
  unfold rs
  have hx : (r % 2) ^^^ (r / 2 % 2) < 2 := Nat.xor_lt_two_pow (n := 1) (by omega) (by omega)
  exact Nat.or_lt_two_pow (n := 15) (by omega) (by omega)
theorem reg_lt : ∀ k, reg k < 32768
  | 0 => by decide
  | k + 1 => rs_lt (reg_lt k)
theorem i64_and16 (a b : Nat) (ha : a < 65536) (hb : b < 65536) : bits .and .i64 (a : Int) (b : Int) = ((a &&& b : Nat) : Int) := by
  have hx : a &&& b ≤ a := Nat.and_le_left
  show IntKind.i64.wrap ((BitVec.ofInt 64 (a : Int) &&& BitVec.ofInt 64 (b : Int)).toNat : Int) = _
  rw [BitVec.toNat_and, ofInt_u64 a (by omega), ofInt_u64 b (by omega)]
  exact IntWalk.i64_in _ (by omega)
theorem i64_or16 (a b : Nat) (ha : a < 65536) (hb : b < 65536) : bits .or .i64 (a : Int) (b : Int) = ((a ||| b : Nat) : Int) := by
  have hx : a ||| b < 2 ^ 16 := Nat.or_lt_two_pow (by omega) (by omega)
  show IntKind.i64.wrap ((BitVec.ofInt 64 (a : Int) ||| BitVec.ofInt 64 (b : Int)).toNat : Int) = _
  rw [BitVec.toNat_or, ofInt_u64 a (by omega), ofInt_u64 b (by omega)]
  exact IntWalk.i64_in _ (by omega)
theorem i64_xor16 (a b : Nat) (ha : a < 65536) (hb : b < 65536) : bits .xor .i64 (a : Int) (b : Int) = ((a ^^^ b : Nat) : Int) := by
  have hx : a ^^^ b < 2 ^ 16 := Nat.xor_lt_two_pow (by omega) (by omega)
  show IntKind.i64.wrap ((BitVec.ofInt 64 (a : Int) ^^^ BitVec.ofInt 64 (b : Int)).toNat : Int) = _
  rw [BitVec.toNat_xor, ofInt_u64 a (by omega), ofInt_u64 b (by omega)]
  exact IntWalk.i64_in _ (by omega)
theorem and1_16 {x : Nat} (h : x < 65536) : bits .and .i64 (x : Int) 1 = ((x % 2 : Nat) : Int) := by
  have e := i64_and16 x 1 h (by omega)
  rw [Nat.and_one_is_mod] at e
  exact e
set_option maxRecDepth 100000 in
theorem registers_any (w : World) : Calls Tryz.prog 165 #[] w fun e w' => e = .returned (.func (.func 210) #[] #[]) ∧ w = w' := by
  go_enter Tryz.func165, Tryz.ntmps165
  go_wp2_with fail
  go_ret
  exact ⟨rfl, rfl⟩
def GR (k : Nat) (v : Value) (W : World) : Prop := v = .int .i64 (reg k : Nat)
set_option maxRecDepth 100000 in
set_option maxHeartbeats 2000000 in
theorem regs_gives (n N : Nat) (hn : 2 ≤ n) (w : World) : GivesN Fence.wide n Tryz.prog 210 #[] N GR w := fun l J Jx W hW hNJ hJ hY h0 => by
  refine callsIn_of_wp Tryz.func210 rfl trivial ?_ rfl
  simp only [Tryz.ntmps210, List.size_toArray, List.length_cons, List.length_nil, Nat.reduceAdd, Nat.reduceSub, Array.replicate_succ, Array.replicate_zero, List.push_toArray, List.append_toArray, List.nil_append, List.cons_append]
  have hW0 := hW.size
  have hn1 : 1 ≤ n := by omega
  have hn2 : 1 ≤ n - 1 := by omega
  clear hW
  have hN0 : 0 < N := by
    rcases Nat.eq_zero_or_pos N with h | h
    · subst h; exact absurd h0 (hNJ _)
    · exact h
  gi_wp2
  gi_loopg [2] N (fun m v wr => ∃ k : Nat, m + k = N ∧ k < N ∧ v = .int .i64 (reg k : Nat) ∧ J k wr ∧ w.heap.size ≤ wr.heap.size)
  case atStart => exact ⟨0, by omega, hN0, rfl, h0, hW0⟩
  case round =>
    obtain ⟨k, hk, hkN, rfl, hJk, hs⟩ := hrel
    clear h0 hW0
    have hr := reg_lt k
    have hgr : GR k (.int .i64 (reg k : Nat)) wr := rfl
    have HRS : Hid (reg (k + 1) = rs (reg k)) := Lib.hid rfl
    have HRU : Hid (rs (reg k) = (reg k / 2) ||| (((reg k % 2) ^^^ (reg k / 2 % 2)) * 16384)) := Lib.hid rfl
    generalize hrk : reg k = r at *
    have hx : (r % 2) ^^^ (r / 2 % 2) < 2 := Nat.xor_lt_two_pow (n := 1) (by omega) (by omega)
    have e1 := and1_16 (x := r) (by omega)
    have e2 := and1_16 (x := r / 2) (by omega)
    have e3 := i64_xor16 (r % 2) (r / 2 % 2) (by omega) (by omega)
    obtain ⟨x, hxx⟩ : ∃ x, x = (r % 2) ^^^ (r / 2 % 2) := ⟨_, rfl⟩
    rw [← hxx] at hx e3 HRU
    have e4 := i64_or16 (r / 2) (x * 16384) (by omega) (by omega)
    clear hxx hrk
    obtain ⟨fn, tmps, assign, body, hy, hR⟩ := hY k (.int .i64 (r : Nat)) wr hkN hJk hgr
    have E1 := Lib.hid e1
    have E2 := Lib.hid e2
    have E3 := Lib.hid e3
    have E4 := Lib.hid e4
    clear e1 e2 e3 e4
    gi_wp2
    refine hR.mono ?_
    rintro e W3 (⟨rfl, hJ3, hs3⟩ | ⟨rfl, hJx3⟩)
    · have e1 := E1.out
      have e2 := E2.out
      have e3 := E3.out
      have e4 := E4.out
      gi_wp2
      gi_roundg (gk - 1)
      case measure => omega
      case rel =>
        refine ⟨k + 1, by omega, ?_, congrArg (Value.int .i64) ?_, hJ3, by omega⟩
        · rcases Nat.lt_or_ge (k + 1) N with h | h
          · exact h
          · have h2 : k + 1 = N := by omega
            rw [h2] at hJ3
            exact absurd hJ3 (hNJ _)
        · rw [HRS.out, HRU.out]
          have a2 : bits .and .i64 ((r : Int) / 2) 1 = ((r / 2 % 2 : Nat) : Int) := E2.out
          have a3 : bits .xor .i64 ((r : Int) % 2) ((r / 2 % 2 : Nat) : Int) = (x : Int) := E3.out
          have a4 : bits .or .i64 ((r : Int) / 2) ((x : Int) * 16384) = ((r / 2 ||| x * 16384 : Nat) : Int) := E4.out
          have a5 : wrap64 ((x : Int) * 16384) = (x : Int) * 16384 := by unfold wrap64; omega
          rw [a2, a3, a5, a4]
    · gi_wp2
      go_end0
      exact ⟨⟨_, rfl⟩, hJx3⟩
end Go.Proofs.YtflmjdjkfognjaaGreat.T7
namespace Go.Proofs.YtflmjdjkfognjaaGreat
open Go.RowKit
set_option linter.unusedVariables false
/-- block 'g' is a row of 'cap' cells of type 'e'; the first ones hold the bytes 'l'; nothing of it is frozen -/
def Row (w : World) (e g cap : Nat) (l : List UInt8) : Prop :=
  ∃ (cur : Array Value) (fz : Nat × Nat), w.heap[g]? = some (.cells cur e fz) ∧ (fz = (0, 0) ∨ cur.size ≤ fz.1) ∧ l.length ≤ cap ∧ cur.size = cap ∧ cur.toList.take l.length = bs l
section
variable {w : World} {e g cap : Nat} {l : List UInt8}
theorem Row.lt (h : Row w e g cap l) : g < w.heap.size := by
  obtain ⟨cur, fz, hg, _⟩ := h
  exact (Array.getElem?_eq_some_iff.1 hg).1
theorem Row.le (h : Row w e g cap l) : l.length ≤ cap := by
  obtain ⟨cur, fz, hg, _, hl, _⟩ := h
  exact hl
theorem Row.cell (h : Row w e g cap l) (j : Nat) (hj : j < l.length) : w.cell? ⟨g, j, none⟩ = some (B (G.ix l j)) := by
  obtain ⟨cur, fz, hg, _, hl, hs, ht⟩ := h
  rw [cell_of_row w g j cur e fz hg, ← bs_get hj, ← ht, List.getElem?_take, if_pos hj]
  simp
theorem Row.frozen (h : Row w e g cap l) (j : Nat) (hj : j < cap) : w.frozen? ⟨g, j, none⟩ = false := by
  obtain ⟨cur, fz, hg, hf, hl, hs, ht⟩ := h
  obtain ⟨lo, hi⟩ := fz
  simp only [World.frozen?, hg, Bool.and_eq_false_iff, decide_eq_false_iff_not]
  rcases hf with hf | hf
  · simp only [Prod.mk.injEq] at hf
    right; omega
  · simp only at hf
    left; omega
theorem Row.store (h : Row w e g cap l) (j : Nat) (c : UInt8) (hj : j < l.length) : Row (w.setCell ⟨g, j, none⟩ (B c)) e g cap (l.set j c) := by
  obtain ⟨cur, fz, hg, hf, hl, hs, ht⟩ := h
  refine ⟨cur.setIfInBounds j (B c), fz, ?_, by simpa using hf, by simpa using hl, by simpa using hs, ?_⟩
  · rw [setCell_eq_setRow w g j cur e fz (B c) hg]
    exact setRow_heap w g cur _ e fz hg
  · rw [Array.toList_setIfInBounds, List.length_set, List.take_set, ht, bs_set]
theorem Row.keep {w' : World} (h : Row w e g cap l) (hk : w'.heap[g]? = w.heap[g]?) : Row w' e g cap l := by
  obtain ⟨cur, fz, hg, r⟩ := h
  exact ⟨cur, fz, hk.trans hg, r⟩
theorem Row.below {w' : World} (h : Row w e g cap l) (hb : Below w.heap.size w w') : Row w' e g cap l := h.keep (hb.block g h.lt)
theorem Row.rd (h : Row w e g cap l) (hl : l.length ≤ 140737488351232) : Rd w (.slice (some ⟨g, 0, none⟩) l.length cap) l :=
  ⟨hl, _, cap, g, 0, rfl, h.le, fun i hi => ⟨rfl, by rw [Nat.zero_add]; exact h.cell i hi⟩⟩
theorem Row.of_own {base n : Nat} (h : w.ownsRow base e 1 (.slice (some ⟨g, 0, none⟩) n cap) n (bs l)) : Row w e g cap l ∧ n = l.length ∧ base ≤ g := by
  have hl : l.length = n := by have := h.1; simpa [bs_length] using this
  rcases h.2 with ⟨h', _⟩ | ⟨g', cap', cur, h', hb, hg, hn, hm, hs, ht⟩
  · simp at h'
  · simp only [Value.slice.injEq, Option.some.injEq, Addr.mk.injEq, and_true, true_and] at h'
    obtain ⟨rfl, rfl⟩ := h'
    exact ⟨⟨cur, (0, 0), hg, .inl rfl, by omega, by simpa using hs, by rw [hl]; simpa using ht⟩, hl.symm, hb⟩
end
theorem run_storeCells_row (P : Program) (g o : Nat) (t : TypeId) (fz : Nat × Nat) : ∀ (vs : List Value) (i : Nat) (cur : Array Value) (w : World), w.heap[g]? = some (.cells cur t fz) → (fz = (0, 0) ∨ cur.size ≤ fz.1) → o + i + vs.length ≤ cur.size → (∀ v ∈ vs, v.oneCell' = true) →
    (storeCells ⟨g, o, none⟩ vs i).run P w = .ok () (w.setRow g (cur.toList.take (o + i) ++ vs ++ cur.toList.drop (o + i + vs.length)).toArray)
  | [], i, cur, w, hg, _, _, _ => by
    simp only [storeCells, List.append_nil, List.length_nil, Nat.add_zero, List.take_append_drop, Array.toArray_toList]
    rw [setRow_self w g cur t fz hg]
    rfl
  | v :: rest, i, cur, w, hg, hfz, hl, h1 => by
    have hi : o + i < cur.size := by simp at hl; omega
    have hadd : (⟨g, o, none⟩ : Addr).add i = ⟨g, o + i, none⟩ := by unfold Addr.add; split <;> simp_all
    have hcell : w.cell? ⟨g, o + i, none⟩ = some cur[o + i] := by simp [World.cell?, hg, hi]
    have hfro : w.frozen? ⟨g, o + i, none⟩ = false := by
      obtain ⟨lo, hi'⟩ := fz
      simp only [World.frozen?, hg, Bool.and_eq_false_iff, decide_eq_false_iff_not]
      rcases hfz with hf | hf
      · simp only [Prod.mk.injEq] at hf
        right; omega
      · simp only at hf
        left; omega
    have hst : (store ((⟨g, o, none⟩ : Addr).add i) v).run P w = .ok () (w.setRow g (cur.setIfInBounds (o + i) v)) := by
      rw [hadd, run_store P w _ v _ (h1 v (by simp)), hcell]
      simp [hfro, setCell_eq_setRow w g (o + i) cur t fz v hg]
    have ih := run_storeCells_row P g o t fz rest (i + 1) (cur.setIfInBounds (o + i) v) (w.setRow g (cur.setIfInBounds (o + i) v)) (setRow_heap w g cur _ t _ hg) (by simpa using hfz) (by simp at hl ⊢; omega) (fun x hx => h1 x (by simp [hx]))
    simp only [storeCells, Sem.run_bind, hst, Result.andThen_ok, ih, setRow_setRow]
    congr 3
    have e := list_seg_step cur.toList (o + i) v rest (by simp at hl ⊢; omega)
    simpa [Array.toList_setIfInBounds, Nat.add_assoc] using e
section
variable {P : Program}
theorem size_bytesCells (w : World) (e : TypeId) (s : ByteArray) : (Lib.bytesCells w e s).size = grownCap w s.size 0 e := by
  have := grownCap_ge w s.size 0 e
  have hs : s.data.size = s.size := rfl
  simp [Lib.bytesCells]
  omega
/-- '[]byte(s)' -/
theorem wpList_bytes {w : World} {ops : Array Oper} {rest : List Oper} {o : Oper} {a : Act} {Q : Exit → Act → World → Prop} (hg : o.guard = none) (x : Operand) {src dst e : TypeId} (hop : o.op = .convert src dst x)
    (hs : P.underlying src = some .string) (hd : P.underlying dst = some (.slice e)) (he : P.underlying e = some (.int .u8)) {s : ByteArray} (hx : a.eval x = .string s)
    (hK : ∀ w' cap, Row w' e w.heap.size cap s.data.toList → Below w.heap.size w w' → s.size ≤ cap → wpList P ops Q rest (a.put o.dst (.slice (some ⟨w.heap.size, 0, none⟩) s.size cap)) w') : wpList P ops Q (o :: rest) a w := by
  refine wpList_plain hg fun K hK' => ?_
  have hrun := Lib.run_convert_string_bytes (P := P) w src dst e s hs hd he
  unfold Oper.wp
  simp [execOp, hop, hx, hrun, Result.andThen]
  refine hK' _ _ (hK _ _ ?_ ?_ (grownCap_ge w s.size 0 e))
  · refine ⟨Lib.bytesCells w e s, _, Lib.bytesWorld_at_new w e s, .inr (Nat.le_refl _), ?_, size_bytesCells w e s, ?_⟩
    · have := grownCap_ge w s.size 0 e
      simpa using this
    · unfold Lib.bytesCells
      rw [Array.toList_append, List.take_append_of_le_length (by simp), List.take_of_length_le (by simp)]
      simp [bs]
  · exact ⟨rfl, rfl, rfl, by rw [Lib.bytesWorld_size]; omega, fun k hk => Lib.bytesWorld_at_old w e s k hk⟩
theorem zeroCells_u8 (m : Nat) : (Builtin.zeroCells (Value.int .u8 0).cells m).toList = bs (List.replicate m 0) := by
  rw [bs_replicate]
  have hsz : (Builtin.zeroCells (Value.int .u8 0).cells m).size = m := by rw [size_zeroCells]; simp [Value.cells]
  apply List.ext_getElem?
  intro j
  by_cases hj : j < m
  · rw [Array.getElem?_toList, Array.getElem?_eq_getElem (by omega)]
    simp [Builtin.zeroCells, Value.cells, hj, Nat.mod_one]
  · rw [Array.getElem?_toList, Array.getElem?_eq_none (by omega), List.getElem?_eq_none (by simp; omega)]
/-- 'append(b, make([]byte, m)...)' -/
theorem run_appz {t tn ty e : TypeId} (ht : P.underlying t = some (.slice e)) (htn : P.underlying tn = some (.int .i64)) (h2 : (P.info? e).map (fun i => (i.zero, i.size, i.bytes)) = some (some (.int .u8 0), 1, 1))
    {w : World} {g cap : Nat} {l : List UInt8} (h : Row w e g cap l) (m : Nat) (hb : l.length + m ≤ 1099511627776) :
    ∃ g' cap' w', (Builtin.append_ #[t, tn] ty #[.slice (some ⟨g, 0, none⟩) l.length cap, .int .i64 (m : Int)]).run P w = .ok (.slice (some ⟨g', 0, none⟩) (l.length + m) cap') w' ∧
      Row w' e g' cap' (l ++ List.replicate m 0) ∧ w.grownBy w' (some g) ∧ (g' = g ∨ g' = w.heap.size) := by
  obtain ⟨i0, hi, hz0, hz1, hz2⟩ := info_parts h2
  by_cases hroom : l.length + m ≤ cap
  · obtain ⟨cur, fz, hg, hf, hl, hs, ht'⟩ := id h
    have hst := run_storeCells_row P g l.length e fz (bs (List.replicate m 0)) 0 cur w hg hf (by simp [bs_length]; omega) (bs_one _)
    obtain ⟨C, hC⟩ : ∃ C, C = (cur.toList.take l.length ++ bs (List.replicate m 0) ++ cur.toList.drop (l.length + (bs (List.replicate m 0)).length)).toArray := ⟨_, rfl⟩
    simp only [Nat.add_zero] at hst
    rw [← hC] at hst
    refine ⟨g, cap, w.setRow g C, ?_, ⟨C, fz, setRow_heap w g cur C e fz hg, ?_, by simpa using hroom, ?_, ?_⟩, ⟨rfl, rfl, rfl, by simp, fun k _ hk => setRow_other w g k C (fun e => hk (by rw [e]))⟩, .inl rfl⟩
    · have hw : IntKind.i64.wrap (m : Int) = m := by rw [IntKind.wrap_i64]; omega
      have hneg : ¬ ((m : Int) < 0) := by omega
      have h48i : ¬ (281474976710656 < (m : Int)) := by omega
      by_cases hm : m = 0
      · subst hm
        simp only [List.replicate_zero, bs, List.map_nil] at hst
        simp [Builtin.append_, run_underlying ht, run_underlying htn, sizeOf, typeInfo, hi, hz1, hz2, asInt, asIntOf, hl, Addr.add_lit, IntKind.wrap_i64, hst]
      · simp [Builtin.append_, run_underlying ht, run_underlying htn, sizeOf, typeInfo, zeroValue, hi, hz0, hz1, hz2, asInt, asIntOf, hw, hneg, h48i, hm, hroom, Addr.add_lit, zeroCells_u8, hst]
    · rcases hf with hf | hf
      · exact .inl hf
      · right; rw [hC]; simp [bs_length]; omega
    · rw [hC]; simp [bs_length]; omega
    · rw [bs_append, hC]
      simp only [List.length_append, List.length_replicate]
      rw [ht', List.take_append_of_le_length (by simp [bs_length])]
      rw [List.take_of_length_le (by simp [bs_length])]
  · have hm : 0 < m := by have := h.le; omega
    have hold : (Builtin.firstCells i0.size l.length (.slice (some ⟨g, 0, none⟩) l.length cap)).run P w.drew = .ok (bs l).toArray w.drew :=
      run_firstCells_some (P := P) w.drew i0.size l.length ⟨g, 0, none⟩ l.length cap (bs l) (by rw [bs_length, hz1, Nat.mul_one]) (fun j u hu => by
        have hj : j < l.length := by have := (List.getElem?_eq_some_iff.1 hu).1; rwa [bs_length] at this
        rw [bs_get hj] at hu
        obtain rfl := Option.some.inj hu
        rw [Addr.add_lit, Nat.zero_add]
        exact h.cell j hj)
    have hfit : Builtin.nextslicecap (l.length + m) cap * i0.bytes ≤ 281474976710656 := growslice_fits (by omega) (by rw [hz2]; omega)
    have hr := Lib.run_append_grow_zeros (P := P) w t tn ty e i0 _ .i64 .i64 ht htn hi hz0 (some ⟨g, 0, none⟩) l.length cap (bs l) hold m hm (by omega) (by omega) (by omega) (by rw [hz2]; omega) hfit
    refine ⟨_, _, _, hr, ⟨_, (0, 0), heap_alloc_new w.drew _, .inl rfl, ?_, ?_, ?_⟩, ⟨rfl, rfl, rfl, by simp, fun k hk _ => Below.heap_alloc w.drew _ k hk⟩, .inr rfl⟩
    · have := grownCap_ge w (l.length + m) cap e
      simpa using this
    · have := grownCap_ge w (l.length + m) cap e
      simp only [Array.size_append, List.size_toArray, bs_length, size_zeroCells]
      simp [Value.cells]
      omega
    · rw [Array.toList_append, Array.toList_append, zeroCells_u8, bs_append]
      simp only [List.length_append, List.length_replicate]
      rw [List.take_append_of_le_length (by simp [bs_length])]
      rw [List.take_of_length_le (by simp [bs_length])]
theorem wpList_appz {ops : Array Oper} {rest : List Oper} {o : Oper} {a : Act} {Q : Exit → Act → World → Prop} {w : World} (hg : o.guard = none) (s x : Operand) {t tn : TypeId}
    (hop : o.op = .call { callee := .builtin .append, args := #[s, x], argTypes := #[t, tn] }) {e : TypeId}
    (ht : P.underlying t = some (.slice e)) (htn : P.underlying tn = some (.int .i64)) (h2 : (P.info? e).map (fun i => (i.zero, i.size, i.bytes)) = some (some (.int .u8 0), 1, 1))
    {g cap n : Nat} {l : List UInt8} (h : Row w e g cap l) (hn : n = l.length) (hv : a.eval s = .slice (some ⟨g, 0, none⟩) n cap) (m : Nat) (hx : a.eval x = .int .i64 (m : Int)) (hb : l.length + m ≤ 1099511627776)
    (hK : ∀ g' cap' w', Row w' e g' cap' (l ++ List.replicate m 0) → w.grownBy w' (some g) → (g' = g ∨ g' = w.heap.size) → wpList P ops Q rest (a.put o.dst (.slice (some ⟨g', 0, none⟩) (n + m) cap')) w') : wpList P ops Q (o :: rest) a w := by
  subst hn
  refine wpList_plain hg fun K hK' => ?_
  obtain ⟨g', cap', w', hrun, r1, r2, r3⟩ := run_appz (ty := o.type) ht htn h2 h m hb
  unfold Oper.wp
  simp [execOp, hop, resolve, invoke, builtin, hv, hx, hrun, Result.andThen]
  exact hK' _ _ (hK g' cap' w' r1 r2 r3)
end
end Go.Proofs.YtflmjdjkfognjaaGreat
