/- Chapter 10: bytes of tracks and points walked. -/
import Derived.Test.YtenbafolmmemgaaQb
import Derived.Maps.OwnOps
import Derived.Maps.OwnSet
import Derived.Maps.Views
import Derived.Maps.RangeWalk
import Derived.Deep.DeepMust
namespace Go.Proofs.Ytenbafolmmemgaa.W10
open Go.RowKit Go.Maps
set_option linter.unusedVariables false

theorem lawInt : Keyed Try.prog 3 := int_keyed Try.underlying3
theorem zeroU8 : ∀ w, (zeroValue 5).run Try.prog w = .ok (.int .u8 0) w := fun _ => by kernel_rfl
/-- an entry of a map literal -/
theorem wpList_insertM {H : Type} {P : Program} (w : World) {ops : Array Oper} {rest : List Oper} {o : Oper} {a : Act} {Q : Exit → Act → World → Prop}
    (hg : o.guard = none) (m x v : Operand) (t : TypeId) (hop : o.op = Op.insert t m x v)
    (k e : TypeId) (K : Keyed P k) (ht : P.underlying t = some (.map k e)) (R : Value → Option (DataW H × List MemPlace)) (b n : Nat) (D : DataW H)
    (hm : a.eval m = .map (some b)) (hown : w.ownsMap P k R b n D) (hn : n < maxLen) (key val : Value) (kl : Lit) (hx : a.eval x = key) (hv : a.eval v = val) (hkey : keyOf P k key = some kl)
    (d : DataW H) (ps : List MemPlace) (hval : R val = some (d, ps))
    (hK : ∀ w', w'.ownsMap P k R b (n + 1) (D.put kl d) → w.grownBy w' (some b) → wpList P ops Q rest (a.put o.dst undef) w') :
    wpList P ops Q (o :: rest) a w := by
  refine wpList_plain hg fun K' hK' => ?_
  obtain ⟨w', hrun, r1, r2⟩ := hown.update K ht hn hkey hval
  unfold Oper.wp
  simp [execOp, hop, hm, hx, hv, hrun, Result.andThen]
  exact hK' _ _ (hK w' r1 r2)
/-- the entries of 'special' -/
def spD : DataW Unit := .map [(.int .i64 160, .lit (.int .u8 160)), (.int .i64 161, .lit (.int .u8 161)), (.int .i64 162, .lit (.int .u8 162)), (.int .i64 170, .lit (.int .u8 170))]
theorem spD_eq : (((((DataW.map [] : DataW Unit).put (.int .i64 160) (.lit (.int .u8 160))).put (.int .i64 161) (.lit (.int .u8 161))).put (.int .i64 162) (.lit (.int .u8 162))).put (.int .i64 170) (.lit (.int .u8 170))) = spD := by kernel_rfl
/-- a number that is not written in digits -/
def isSp (n : Int) : Bool := n == 160 || n == 161 || n == 162 || n == 170
theorem isSp_iff {n : Int} : isSp n = true ↔ n = 160 ∨ n = 161 ∨ n = 162 ∨ n = 170 := by simp [isSp, or_assoc]
theorem sp_has (n : Int) : Maps.has spD (.int .i64 n) = isSp n := by
  rw [Bool.eq_iff_iff, isSp_iff]
  simp only [spD, Maps.has, List.any_cons, List.any_nil, Bool.or_false, Bool.or_eq_true, Lit.sameKey, decide_eq_true_eq]
  constructor
  · rintro (h | h | h | h) <;> simp at h <;> omega
  · rintro (h | h | h | h) <;> subst h <;> simp
theorem sp_at {n : Int} (h : isSp n = true) (z : DataW Unit) : spD.atKey (.int .i64 n) z = .lit (.int .u8 n) := by
  rcases isSp_iff.1 h with h | h | h | h <;> subst h <;> rfl
def SpP (w : World) (e : Ending) (w' : World) : Prop := ∃ b, e = .returned (.map (some b)) ∧ w'.ownsMap Try.prog 3 (plainElem Try.prog 5) b 4 spD ∧ Below w.heap.size w w'
set_option maxRecDepth 100000 in
set_option maxHeartbeats 2000000 in
theorem special_any (w : World) : Calls Try.prog 60 #[] w (SpP w) := by
  have hmm := @run_makeMap Try.prog
  have hk : ∀ n : Int, 0 ≤ n → n < 1000 → keyOf Try.prog 3 (.int .i64 n) = some (.int .i64 n) := fun n h1 h2 => keyOf_int_mk Try.underlying3 (by simp [Lit.wf, IntKind.min, IntKind.max, IntKind.signed, IntKind.bits]; omega)
  have he : ∀ n : Int, 0 ≤ n → n < 256 → plainElem (H := Unit) Try.prog 5 (.int .u8 n) = some (.lit (.int .u8 n), []) := fun n h1 h2 => plainElem_int Try.underlying5 (by simp [Lit.wf, IntKind.min, IntKind.max, IntKind.signed, IntKind.bits]; omega)
  have Hk := Lib.hid hk
  have He := Lib.hid he
  clear hk he
  have h0 := World.ownsMap_made (H := Unit) w Try.prog 3 (plainElem Try.prog 5)
  have b0 := (Below.refl w.heap.size w).alloc (Nat.le_refl _) (.map #[] 0)
  have H0 := Lib.hid h0
  clear h0
  go_enter Try.func60, Try.ntmps60
  go_wp2_with (first
    | (refine wpList_insertM _ rfl (.tmp 1) (.const (.int .i64 160)) (.const (.int .u8 160)) 83 rfl 3 5 lawInt Try.underlying83 _ w.heap.size 0 _ rfl H0.out (by unfold maxLen; omega) _ _ _ rfl rfl (Hk.out 160 (by omega) (by omega)) _ [] (He.out 160 (by omega) (by omega)) ?_; intro w1 h1 g1; have H1 := Lib.hid h1; clear h1)
    | (refine wpList_insertM _ rfl (.tmp 1) (.const (.int .i64 161)) (.const (.int .u8 161)) 83 rfl 3 5 lawInt Try.underlying83 _ w.heap.size 1 _ rfl H1.out (by unfold maxLen; omega) _ _ _ rfl rfl (Hk.out 161 (by omega) (by omega)) _ [] (He.out 161 (by omega) (by omega)) ?_; intro w2 h2 g2; have H2 := Lib.hid h2; clear h2)
    | (refine wpList_insertM _ rfl (.tmp 1) (.const (.int .i64 162)) (.const (.int .u8 162)) 83 rfl 3 5 lawInt Try.underlying83 _ w.heap.size 2 _ rfl H2.out (by unfold maxLen; omega) _ _ _ rfl rfl (Hk.out 162 (by omega) (by omega)) _ [] (He.out 162 (by omega) (by omega)) ?_; intro w3 h3 g3; have H3 := Lib.hid h3; clear h3)
    | (refine wpList_insertM _ rfl (.tmp 1) (.const (.int .i64 170)) (.const (.int .u8 170)) 83 rfl 3 5 lawInt Try.underlying83 _ w.heap.size 3 _ rfl H3.out (by unfold maxLen; omega) _ _ _ rfl rfl (Hk.out 170 (by omega) (by omega)) _ [] (He.out 170 (by omega) (by omega)) ?_; intro w4 h4 g4; have H4 := Lib.hid h4; clear h4))
  go_ret
  refine ⟨_, rfl, ?_, ?_⟩
  · have := H4.out; rw [spD_eq] at this; exact this
  · exact (((b0.grown g1 (by simp) (fun k hk => by cases hk; exact Nat.le_refl _)).grown g2 (by have := g1.size; simp at this; omega) (fun k hk => by cases hk; exact Nat.le_refl _)).grown g3 (by have := g1.size; have := g2.size; simp at *; omega) (fun k hk => by cases hk; exact Nat.le_refl _)).grown g4 (by have := g1.size; have := g2.size; have := g3.size; simp at *; omega) (fun k hk => by cases hk; exact Nat.le_refl _)
/-- the byte of a track or a point -/
def num (n : Int) : Int := if 99 < n then n else bcd n
theorem num_sp {n : Int} (h : isSp n = true) : num n = n := if_pos (by rcases isSp_iff.1 h with h | h | h | h <;> omega)
theorem num_d {n : Int} (h : n ≤ 99) : num n = bcd n := if_neg (by omega)
theorem not_sp {n : Int} (h : n ≤ 99) : isSp n = false := by
  rw [Bool.eq_false_iff]; intro e
  rcases isSp_iff.1 e with h | h | h | h <;> omega
theorem sp_c {n c : Int} (h : (.lit (.int .u8 n) : DataW Unit) = .lit (.int .u8 c)) : n = c := by simpa using h
set_option maxRecDepth 100000 in
set_option maxHeartbeats 2000000 in
theorem number_any (n : Int) (w : World) (h : (0 ≤ n ∧ n ≤ 99) ∨ isSp n = true) : Calls Try.prog 42 #[.int .i64 n] w (RV (.int .u8 (num n)) w) := by
  have hn : 0 ≤ n ∧ n ≤ 200 := by
    rcases h with h | h
    · omega
    · rcases isSp_iff.1 h with h | h | h | h <;> omega
  have Hn := Lib.hid hn
  have hkey : keyOf Try.prog 3 (.int .i64 n) = some (.int .i64 n) := keyOf_int_mk Try.underlying3 (by simp [Lit.wf, IntKind.min, IntKind.max, IntKind.signed, IntKind.bits]; omega)
  have HK := Lib.hid hkey
  clear hn hkey
  have HH := Lib.hid (sp_has n)
  cases hs : isSp n with
  | true =>
    have HA := Lib.hid (sp_at hs)
    have HN := Lib.hid (num_sp hs)
    have hh : Maps.has spD (.int .i64 n) = true := by rw [HH.out]; exact hs
    clear h hs
    rw [HN.out]
    go_enter Try.func42, Try.ntmps42
    go_wp2_with fail
    refine (special_any _).mono ?_
    rintro e w1 ⟨b, rfl, hown, hb⟩
    go_wp2_with (at_lookup; (refine wpList_lookup_own_ok_int _ rfl _ _ 83 rfl 3 5 .u8 lawInt Try.underlying83 Try.underlying5 (zeroU8 _) b 4 _ rfl hown _ _ rfl HK.out ?_; intro c hat hwc; have hc := sp_c ((HA.out _).symm.trans hat); clear hat hwc; rw [← hc]; clear hc))
    go_ret
    exact ⟨rfl, hb⟩
  | false =>
    have h2 : 0 ≤ n ∧ n ≤ 99 := by rcases h with h | h; exact h; rw [hs] at h; cases h
    obtain ⟨h3, h4⟩ := h2
    have HN := Lib.hid (num_d h4)
    have hh : Maps.has spD (.int .i64 n) = false := by rw [HH.out]; exact hs
    clear h hs
    rw [HN.out]
    go_enter Try.func42, Try.ntmps42
    go_wp2_with fail
    refine (special_any _).mono ?_
    rintro e w1 ⟨b, rfl, hown, hb⟩
    go_wp2_with (first
      | (at_lookup; (refine wpList_lookup_own_ok_int _ rfl _ _ 83 rfl 3 5 .u8 lawInt Try.underlying83 Try.underlying5 (zeroU8 _) b 4 _ rfl hown _ _ rfl HK.out ?_; intro c hat hwc; clear hat hwc))
      | (go_at_call 59; refine (bcd_any n _ h3 h4).mono ?_; rintro e w2 ⟨rfl, rfl⟩))
    go_ret
    exact ⟨rfl, hb⟩
set_option maxRecDepth 100000 in
theorem rnum_any (n : Int) (w : World) (h0 : 0 ≤ n) (h1 : n ≤ 255) : Calls Try.prog 48 #[.int .i64 n] w fun e w' => e = .returned (.int .u8 (num n)) ∧ w = w' := by
  by_cases h : 99 < n
  · have HN : Hid (num n = n) := Lib.hid (if_pos h)
    rw [HN.out]
    go_enter Try.func48, Try.ntmps48
    go_wp2_with fail
    go_ret
    exact ⟨rfl, rfl⟩
  · have HN : Hid (num n = bcd n) := Lib.hid (if_neg h)
    rw [HN.out]
    go_enter Try.func48, Try.ntmps48
    go_wp2_with (go_at_call 65; refine (rbcd_any n _ h0 (by omega)).mono ?_; rintro e w2 ⟨rfl, rfl⟩)
    go_ret
    exact ⟨rfl, rfl⟩
end Go.Proofs.Ytenbafolmmemgaa.W10
