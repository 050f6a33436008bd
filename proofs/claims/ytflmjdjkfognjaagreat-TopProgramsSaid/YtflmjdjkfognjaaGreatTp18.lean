/- Shaken out of XWi XWp XRep -/
import Derived.Test.YtflmjdjkfognjaaGreatTp17
namespace Go.Proofs.YtflmjdjkfognjaaGreat.W8
open Go.RowKit
set_option linter.unusedVariables false
/-- ints as cells -/
def is (l : List Int) : List Value := l.map (Value.int .i64)
theorem is_append (l m : List Int) : is (l ++ m) = is l ++ is m := by simp [is]
theorem is_length (l : List Int) : (is l).length = l.length := by simp [is]
theorem is_one (l : List Int) : ∀ u ∈ is l, u.oneCell' = true := by
  intro u hu
  simp only [is, List.mem_map] at hu
  obtain ⟨c, _, rfl⟩ := hu
  rfl
theorem is_get {l : List Int} {i : Nat} (h : i < l.length) : (is l)[i]? = some (.int .i64 (ixI l i)) := by
  simp [is, ixI, h]
theorem ixI_get {l : List Int} {i : Nat} (h : i < l.length) : ixI l i = l[i] := by simp [ixI, h]
theorem ixI_mem {l : List Int} {i : Nat} (h : i < l.length) : ixI l i ∈ l := by rw [ixI_get h]; exact List.getElem_mem h
/-- an owned row of ints can be read -/
theorem rdI_own {w : World} {base e n : Nat} {v : Value} {l : List Int} (h : w.ownsRow base e 1 v n (is l)) (hn : l.length = n) (hl : n ≤ 17592186044416) (hr : ∀ x ∈ l, -9223372036854775808 ≤ x ∧ x ≤ 9223372036854775807) : RdI w v l := by
  subst hn
  refine ⟨hl, ?_, fun i hi => hr _ (ixI_mem hi)⟩
  rcases h.2 with ⟨rfl, h0⟩ | ⟨g, cap, cur, rfl, hg, hh, hn, hm, hcs, ht⟩
  · rw [h0]; exact ⟨none, 0, 0, 0, rfl, by omega, fun i hi => by omega⟩
  · refine ⟨_, cap, g, 0, rfl, hn, fun i hi => ⟨rfl, ?_⟩⟩
    rw [Nat.zero_add, h.cellAt i (by omega), is_get hi]
theorem RdI.reads {w : World} {v : Value} {l : List Int} (h : RdI w v l) : Reads w 1 v l.length (is l) := by
  obtain ⟨h0, ⟨a, c, b, off, rfl, hc, hcell⟩, hr⟩ := h
  refine ⟨by simp [is_length], a, c, b, off, rfl, hc, fun i u hu => ?_⟩
  have hi : i < l.length := by have := (List.getElem?_eq_some_iff.1 hu).1; rwa [is_length] at this
  rw [is_get hi] at hu
  obtain rfl := Option.some.inj hu
  exact hcell i hi
theorem reads_lit (W : World) (l : List Int) (e : TypeId) (hl : l ≠ []) : Reads (W.alloc (.cells (is l).toArray e)) 1 (.slice (some ⟨W.heap.size, 0, none⟩) l.length l.length) l.length (is l) := by
  refine ⟨by simp [is_length], _, _, W.heap.size, 0, rfl, Nat.le_refl _, fun i u hu => ⟨rfl, ?_⟩⟩
  rw [cell_of_row _ _ _ _ _ _ (heap_alloc_new W _), Nat.zero_add]
  simpa using hu
/-- 'append(v, s...)' at ints -/
theorem wpList_appI {P : Program} {ops : Array Oper} {rest : List Oper} {o : Oper} {a : Act} {Q : Exit → Act → World → Prop} {w : World} (hg : o.guard = none) (s x : Operand) {t : TypeId}
    (hop : o.op = .call { callee := .builtin .append, args := #[s, x], argTypes := #[t, t] }) {e : TypeId} {base : Nat}
    (ht : P.underlying t = some (.slice e)) (h2 : (P.info? e).map (fun i => (i.zero, i.size, i.bytes)) = some (some (.int .i64 0), 1, 8))
    {v : Value} {n : Nat} {l : List Int} (hown : w.ownsRow base e 1 v n (is l)) (hv : a.eval s = v) {vs : Value} {m : List Int} (hs : Reads w 1 vs m.length (is m)) (hx : a.eval x = vs)
    (h63 : n + m.length ≤ 1073741824) (hbase : base ≤ w.heap.size)
    (hK : ∀ v' w', w'.ownsRow base e 1 v' (n + m.length) (is (l ++ m)) → w.grownBy w' v.ownBlock → wpList P ops Q rest (a.put o.dst v') w') : wpList P ops Q (o :: rest) a w := by
  obtain ⟨i0, hi, hz0, hz1, hz2⟩ := info_parts h2
  refine wpList_app hg s x hop ht hi hz0 hz1 hz2 rfl (by omega) hown hv hs hx (is_one _) (by unfold maxLen; omega) (by omega) hbase fun v' w' g1 g2 g3 => ?_
  rw [← is_append] at g1
  exact hK v' w' g1 g2
theorem own_keep' {w w' : World} {base e size n : Nat} {v : Value} {xs : List Value} (h : w.ownsRow base e size v n xs) (hb : Below w.heap.size w w') : w'.ownsRow base e size v n xs := by
  refine ⟨h.1, ?_⟩
  rcases h.2 with h2 | ⟨g, cap, cur, h1, h2, h3, h4⟩
  · exact .inl h2
  · exact .inr ⟨g, cap, cur, h1, h2, (hb.block g (Array.getElem?_eq_some_iff.1 h3).1).trans h3, h4⟩
theorem ownBlock_ge' {w : World} {base e size n : Nat} {v : Value} {xs : List Value} (h : w.ownsRow base e size v n xs) : ∀ k, v.ownBlock = some k → base ≤ k := by
  intro k hk
  rcases h.2 with ⟨rfl, _⟩ | ⟨g, cap, cur, rfl, h2, _⟩
  · simp [Value.ownBlock] at hk
  · simp only [Value.ownBlock, Option.some.injEq] at hk
    omega
theorem ownsRow_nil (w : World) (base e : Nat) : w.ownsRow base e 1 (.slice none 0 0) 0 (is []) := ⟨rfl, .inl ⟨rfl, rfl⟩⟩
/-- the offsets of the P word 'm', the first 'k' of them; of the Q word -/
def pf (m i : Nat) : Int := 12 + 2 * ((m : Int) / 2 + 43 * i) + m % 2
def qf (m i : Nat) : Int := 12 + 2 * ((44 * i + 43 * ((m : Int) / 2)) % 1118) + m % 2
def pl (m k : Nat) : List Int := (List.range k).map (pf m)
def ql (m k : Nat) : List Int := (List.range k).map (qf m)
def pw (m : Nat) : List Int := pl m 26
def qw (m : Nat) : List Int := ql m 43 ++ [12 + 2 * (1118 + (m : Int) / 2) + m % 2, 12 + 2 * (1144 + (m : Int) / 2) + m % 2]
theorem pl_succ (m k : Nat) : pl m (k + 1) = pl m k ++ [pf m k] := by simp [pl, List.range_succ]
theorem ql_succ (m k : Nat) : ql m (k + 1) = ql m k ++ [qf m k] := by simp [ql, List.range_succ]
theorem pl_length (m k : Nat) : (pl m k).length = k := by simp [pl]
theorem ql_length (m k : Nat) : (ql m k).length = k := by simp [ql]
theorem pw_length (m : Nat) : (pw m).length = 26 := pl_length _ _
theorem qw_length (m : Nat) : (qw m).length = 45 := by simp [qw, ql_length]
theorem pf_bd {m i : Nat} (hm : m < 86) (hi : i < 26) : 12 ≤ pf m i ∧ pf m i < 2248 := by unfold pf; omega
theorem qf_bd {m i : Nat} (hm : m < 52) : 12 ≤ qf m i ∧ qf m i < 2248 := by unfold qf; omega
theorem pw_bd {m : Nat} (hm : m < 86) : ∀ x ∈ pw m, 12 ≤ x ∧ x < 2352 := by
  intro x hx
  simp only [pw, pl, List.mem_map, List.mem_range] at hx
  obtain ⟨i, hi, rfl⟩ := hx
  have := pf_bd hm hi
  omega
theorem qw_bd {m : Nat} (hm : m < 52) : ∀ x ∈ qw m, 12 ≤ x ∧ x < 2352 := by
  intro x hx
  simp only [qw, ql, List.mem_append, List.mem_map, List.mem_range, List.mem_cons, List.not_mem_nil, or_false] at hx
  rcases hx with ⟨i, hi, rfl⟩ | rfl | rfl
  · have := qf_bd (i := i) hm
    omega
  · omega
  · omega
/-- the word 'k' of all: first those of P -/
def wd (k : Nat) : List Int := if k < 86 then pw k else qw (k - 86)
theorem wd_bd {k : Nat} (hk : k < 138) : ∀ x ∈ wd k, 12 ≤ x ∧ x < 2352 := by
  unfold wd
  split
  · exact pw_bd ‹_›
  · exact qw_bd (by omega)
theorem wd_length (k : Nat) : (wd k).length = if k < 86 then 26 else 45 := by
  unfold wd
  split
  · exact pw_length _
  · exact qw_length _
end Go.Proofs.YtflmjdjkfognjaaGreat.W8
namespace Go.Proofs.YtflmjdjkfognjaaGreat.W8
open Go.RowKit
set_option linter.unusedVariables false
theorem Tryz.infoI64 : (Tryz.prog.info? 3).map (fun i => (i.zero, i.size, i.bytes)) = some (some (.int .i64 0), 1, 8) := by kernel_rfl
theorem off_any (x y : Int) (w : World) (h1 : 0 ≤ x) (h2 : x ≤ 1) (h3 : 0 ≤ y) (h4 : y ≤ 100000) : Calls Tryz.prog 170 #[.int .i64 x, .int .i64 y] w fun e w' => e = .returned (.int .i64 (12 + 2 * y + x)) ∧ w = w' := by
  go_enter Tryz.func170, Tryz.ntmps170
  go_wp2_with fail
  go_ret
  exact ⟨rfl, rfl⟩
set_option maxRecDepth 100000 in
set_option maxHeartbeats 2000000 in
theorem pword_ok (m : Nat) (x : Int) (w : World) (hx : x = m) (h : m < 86) : Calls Tryz.prog 123 #[.int .i64 x] w fun e w' => ∃ v, e = .returned (.tuple #[v, .int .i64 0]) ∧ w'.ownsRow w.heap.size 3 1 v 26 (is (pw m)) ∧ Below w.heap.size w w' := by
  subst hx
  have hm1 : ¬ ((m : Int) < 0) := by omega
  have hm2 : (m : Int) < 86 := by omega
  have hm3 : (0 : Int) ≤ m := by omega
  go_enter Tryz.func123, Tryz.ntmps123
  go_wp2_with fail
  have ho0 := ownsRow_nil w w.heap.size 3
  have hb0 := Below.refl w.heap.size w
  go_loopw [4, 12] (fun vo vk wr => ∃ k : Nat, k ≤ 26 ∧ vk = .int .i64 k ∧ wr.ownsRow w.heap.size 3 1 vo k (is (pl m k)) ∧ Below w.heap.size w wr) (fun _ vk _ => 26 - (intOf vk).toNat)
  case atStart => exact ⟨0, by omega, rfl, ho0, hb0⟩
  case round =>
    clear ho0 hb0
    obtain ⟨k, hk, rfl, ho, hb⟩ := hrel
    by_cases hlt : k < 26
    · have hbs := hb.size
      have hlt' : (k : Int) < 26 := by omega
      go_wp2_with fail
      refine (off_any _ _ _ (by omega) (by omega) (by omega) (by omega)).mono ?_
      rintro e w1 ⟨rfl, rfl⟩
      obtain ⟨y, hy⟩ : ∃ y : Int, y = 12 + 2 * ((m : Int) / 2 + 43 * (k : Int)) + m % 2 := ⟨_, rfl⟩
      rw [← hy]
      have HY : Hid (y = pf m k) := Lib.hid hy
      clear hy
      have ho6 := own_keep' ho ((Below.refl wr.heap.size wr).alloc (Nat.le_refl _) (.cells #[.int .i64 y] 3))
      have hr6 := reads_lit wr [y] 3 (by simp)
      have hb6 := hb.alloc hbs (.cells #[.int .i64 y] 3)
      have hb6s := hb6.size
      clear ho hb
      go_wp2_with (refine wpList_appI rfl _ _ rfl Tryz.underlying53 Tryz.infoI64 ho6 rfl hr6 rfl (by simp; omega) hb6s ?_; intro v7 w7 hown7 hgr7)
      have hb7 := hb6.grown hgr7 hb6s (ownBlock_ge' ho6)
      rw [HY.out, ← pl_succ] at hown7
      clear hb6 ho6 hr6 hgr7
      go_roundw
      case rel => exact ⟨k + 1, by omega, by go_num, hown7, hb7⟩
      case measure => simp [intOf]; omega
    · obtain rfl : k = 26 := by omega
      go_wp2_with fail
      go_ret2
      exact ⟨_, rfl, ho, hb⟩
set_option maxRecDepth 100000 in
set_option maxHeartbeats 2000000 in
theorem qword_ok (m : Nat) (x : Int) (w : World) (hx : x = m) (h : m < 52) : Calls Tryz.prog 124 #[.int .i64 x] w fun e w' => ∃ v, e = .returned (.tuple #[v, .int .i64 0]) ∧ w'.ownsRow w.heap.size 3 1 v 45 (is (qw m)) ∧ Below w.heap.size w w' := by
  subst hx
  have hm1 : ¬ ((m : Int) < 0) := by omega
  have hm2 : (m : Int) < 52 := by omega
  have hm3 : (0 : Int) ≤ m := by omega
  go_enter Tryz.func124, Tryz.ntmps124
  go_wp2_with fail
  have ho0 := ownsRow_nil w w.heap.size 3
  have hb0 := Below.refl w.heap.size w
  go_loopw [4, 12] (fun vo vk wr => ∃ k : Nat, k ≤ 43 ∧ vk = .int .i64 k ∧ wr.ownsRow w.heap.size 3 1 vo k (is (ql m k)) ∧ Below w.heap.size w wr) (fun _ vk _ => 43 - (intOf vk).toNat)
  case atStart => exact ⟨0, by omega, rfl, ho0, hb0⟩
  case round =>
    clear ho0 hb0
    obtain ⟨k, hk, rfl, ho, hb⟩ := hrel
    by_cases hlt : k < 43
    · have hbs := hb.size
      have hlt' : (k : Int) < 43 := by omega
      go_wp2_with fail
      refine (off_any _ _ _ (by omega) (by omega) (by omega) (by omega)).mono ?_
      rintro e w1 ⟨rfl, rfl⟩
      obtain ⟨y, hy⟩ : ∃ y : Int, y = 12 + 2 * ((44 * (k : Int) + 43 * ((m : Int) / 2)) % 1118) + m % 2 := ⟨_, rfl⟩
      rw [← hy]
      have HY : Hid (y = qf m k) := Lib.hid hy
      clear hy
      have ho6 := own_keep' ho ((Below.refl wr.heap.size wr).alloc (Nat.le_refl _) (.cells #[.int .i64 y] 3))
      have hr6 := reads_lit wr [y] 3 (by simp)
      have hb6 := hb.alloc hbs (.cells #[.int .i64 y] 3)
      have hb6s := hb6.size
      clear ho hb
      go_wp2_with (refine wpList_appI rfl _ _ rfl Tryz.underlying53 Tryz.infoI64 ho6 rfl hr6 rfl (by simp; omega) hb6s ?_; intro v7 w7 hown7 hgr7)
      have hb7 := hb6.grown hgr7 hb6s (ownBlock_ge' ho6)
      rw [HY.out, ← ql_succ] at hown7
      clear hb6 ho6 hr6 hgr7
      go_roundw
      case rel => exact ⟨k + 1, by omega, by go_num, hown7, hb7⟩
      case measure => simp [intOf]; omega
    · obtain rfl : k = 43 := by omega
      have hbs := hb.size
      go_wp2_with fail
      refine (off_any _ _ _ (by omega) (by omega) (by omega) (by omega)).mono ?_
      rintro e w1 ⟨rfl, rfl⟩
      go_wp2_with fail
      refine (off_any _ _ _ (by omega) (by omega) (by omega) (by omega)).mono ?_
      rintro e w1 ⟨rfl, rfl⟩
      obtain ⟨y, hy⟩ : ∃ y : Int, y = 12 + 2 * (1118 + (m : Int) / 2) + m % 2 := ⟨_, rfl⟩
      obtain ⟨z, hz⟩ : ∃ z : Int, z = 12 + 2 * (1144 + (m : Int) / 2) + m % 2 := ⟨_, rfl⟩
      rw [← hy, ← hz]
      have HW : Hid (qw m = ql m 43 ++ [y, z]) := Lib.hid (by rw [hy, hz]; rfl)
      clear hy hz
      have ho6 := own_keep' ho ((Below.refl wr.heap.size wr).alloc (Nat.le_refl _) (.cells #[.int .i64 y, .int .i64 z] 3))
      have hr6 := reads_lit wr [y, z] 3 (by simp)
      have hb6 := hb.alloc hbs (.cells #[.int .i64 y, .int .i64 z] 3)
      have hb6s := hb6.size
      clear ho hb
      go_wp2_with (refine wpList_appI rfl _ _ rfl Tryz.underlying53 Tryz.infoI64 ho6 rfl hr6 rfl (by simp) hb6s ?_; intro v7 w7 hown7 hgr7)
      have hb7 := hb6.grown hgr7 hb6s (ownBlock_ge' ho6)
      rw [← HW.out] at hown7
      clear hb6 ho6 hr6 hgr7
      go_ret2
      exact ⟨_, rfl, hown7, hb7⟩
end Go.Proofs.YtflmjdjkfognjaaGreat.W8
namespace Go.Proofs.YtflmjdjkfognjaaGreat
open Go.RowKit
set_option linter.unusedVariables false
theorem ginv_all (x : Int) (a : UInt8) (w : World) (hx : x = a.toNat) :
    Calls Tryz.prog 200 #[.int .u8 x] w fun e w' => ∃ k : Int, e = .returned (.tuple #[B (G.inv a), .int .i64 k]) ∧ Below w.heap.size w w' := by
  subst hx
  refine (inv_any a.toNat w (G.lt a)).mono fun e w' ⟨h1, h2⟩ => ⟨if a.toNat = 0 then 1 else 0, ?_, h2⟩
  rw [h1, invV, B, G.toNat_inv]
/-- the slice 'v' reads as the bytes 'l', and none of them lies in block 'b' -/
def RdX (b : Nat) (w : World) (v : Value) (l : List UInt8) : Prop :=
  l.length ≤ 140737488351232 ∧ ∃ a cap bb off, v = .slice a l.length cap ∧ l.length ≤ cap ∧ ∀ i, i < l.length → a = some ⟨bb, off, none⟩ ∧ bb ≠ b ∧ w.cell? ⟨bb, off + i, none⟩ = some (B (G.ix l i))
theorem RdX.rd {b : Nat} {w : World} {v : Value} {l : List UInt8} (h : RdX b w v l) : Rd w v l := by
  obtain ⟨h0, a, c, bb, off, e, hc, h⟩ := h
  exact ⟨h0, a, c, bb, off, e, hc, fun i hi => ⟨(h i hi).1, (h i hi).2.2⟩⟩
theorem RdX.keepW {b : Nat} {w w' : World} {v : Value} {l : List UInt8} (h : RdX b w v l) (hb : ∀ k, k < w.heap.size → k ≠ b → w'.heap[k]? = w.heap[k]?) : RdX b w' v l := by
  obtain ⟨h0, a, c, bb, off, e, hc, h⟩ := h
  refine ⟨h0, a, c, bb, off, e, hc, fun i hi => ⟨(h i hi).1, (h i hi).2.1, ?_⟩⟩
  have e := (h i hi).2.2
  rw [← e]
  exact World.cell?_of_block (hb bb (World.block_lt_of_cell? w _ e) (h i hi).2.1)
theorem RdX.keep {b : Nat} {w w' : World} {v : Value} {l : List UInt8} (h : RdX b w v l) (hb : Below w.heap.size w w') : RdX b w' v l := h.keepW fun k hk _ => hb.block k hk
theorem RdX.drew {b : Nat} {w : World} {v : Value} {l : List UInt8} (h : RdX b w v l) : RdX b w.drew v l := h.keepW fun k hk _ => rfl
theorem RdX.set {b o : Nat} {w : World} {v u : Value} {l : List UInt8} (h : RdX b w v l) : RdX b (w.setCell ⟨b, o, none⟩ u) v l := h.keepW fun k hk hne => Below.heap_setCell _ _ _ _ hne
theorem Rd.x {b : Nat} {w : World} {v : Value} {l : List UInt8} (h : Rd w v l) (hb : w.heap.size ≤ b) : RdX b w v l := by
  obtain ⟨h0, a, c, bb, off, e, hc, h⟩ := h
  refine ⟨h0, a, c, bb, off, e, hc, fun i hi => ⟨(h i hi).1, ?_, (h i hi).2⟩⟩
  have := World.block_lt_of_cell? w _ (h i hi).2
  simp at this
  omega
theorem RdX.ofOwn {b : Nat} {w : World} {base e n : Nat} {v : Value} {l : List UInt8} (h : w.ownsRow base e 1 v n (bs l)) (hn : l.length = n) (hb : b < base) (hl : l.length ≤ 140737488351232) : RdX b w v l := by
  subst hn
  refine ⟨hl, ?_⟩
  rcases h.2 with ⟨rfl, h0⟩ | ⟨g, cap, cur, rfl, hg, hh, hn, hm, hcs, ht⟩
  · rw [h0]; exact ⟨none, 0, 0, 0, rfl, by omega, fun i hi => by omega⟩
  · refine ⟨_, cap, g, 0, rfl, hn, fun i hi => ⟨rfl, by omega, ?_⟩⟩
    rw [Nat.zero_add, h.cellAt i (by omega), bs_get hi]
theorem gmul_B (a b : UInt8) (w : World) :
    Calls Tryz.prog 201 #[B a, B b] w fun e w' => e = .returned (B (G.mul a b)) ∧ w = w' := gmul_at _ _ a b w rfl rfl
set_option maxRecDepth 100000 in
set_option maxHeartbeats 4000000 in
theorem repair_any (p psi om : List UInt8) (vp vo : Value) (w : World) (hpl : p.length ≤ 255) (hp : Rd w vp psi) (ho : Rd w vo om) (hp1 : 1 ≤ psi.length) :
    Calls Tryz.prog 162 #[.string (str p), vp, vo] w fun e w' => e = .returned (.string (str (G.repair p psi om))) ∧ Below w.heap.size w w' := by
  have hs := str_size p
  obtain ⟨pa, pc, rfl⟩ := hp.form
  obtain ⟨oa, oc, rfl⟩ := ho.form
  have hpsl := hp.1
  obtain ⟨n, hn⟩ : ∃ n, n = p.length := ⟨_, rfl⟩
  rw [← hn] at hpl hs
  have HN := Lib.hid hn; clear hn
  have hsz : (str p).data.toList = p := rfl
  have HZ := Lib.hid hsz; clear hsz
  go_enter Tryz.func162, Tryz.ntmps162
  go_wp2_with (refine wpList_bytes rfl _ rfl Tryz.underlying9 Tryz.underlying123 Tryz.underlying5 rfl ?_; intro w2 cap hr2 hb2 hcap; have hp2 := (hp.x (Nat.le_refl _)).keepW (fun k hk _ => hb2.block k hk); have ho2 := (ho.x (Nat.le_refl _)).keepW (fun k hk _ => hb2.block k hk))
  rw [HZ.out] at hr2
  have hw2 : w.heap.size < w2.heap.size := hr2.lt
  refine (derivative_any _ psi _ hp2.rd hp1).mono ?_
  rintro e w3 ⟨vd, rfl, hod, hb3⟩
  have hd3 : RdX w.heap.size w3 vd (G.deriv psi) := RdX.ofOwn hod (deriv_length _) hw2 (by rw [deriv_length]; omega)
  have hp3 := hp2.keep hb3
  have ho3 := ho2.keep hb3
  have hr3 := hr2.below hb3
  have hB3 := hb2.trans (hb3.mono hb2.size)
  clear hod hb3 hp2 ho2 hr2
  go_wp2_with fail
  refine (ginv_all _ 2 _ rfl).mono ?_
  rintro e w4 ⟨k2, rfl, hb4⟩
  have hd4 := hd3.keep hb4
  have hp4 := hp3.keep hb4
  have ho4 := ho3.keep hb4
  have hr4 := hr3.below hb4
  have hB4 := hB3.trans (hb4.mono hB3.size)
  clear hd3 hp3 ho3 hr3 hB3 hb4
  obtain ⟨half, hhalf⟩ : ∃ half, half = G.inv 2 := ⟨_, rfl⟩
  rw [← hhalf]
  have HH := Lib.hid hhalf; clear hhalf
  obtain ⟨dl, da, dc, rfl⟩ : ∃ dl da dc, vd = .slice da dl dc := by
    obtain ⟨a, c, rfl⟩ := hd4.rd.form
    exact ⟨_, _, _, rfl⟩
  have hwg : w.heap.size ≤ w.heap.size := Nat.le_refl _
  go_wp2_with fail
  go_loopw [11, 12, 13] (fun vx vy vi wr => ∃ (m j : Nat) (R : List UInt8), m + j = n ∧ vx = B (G.exp j) ∧ vy = B (G.hp j) ∧ vi = .int .i64 ((m : Int) - 1) ∧ Row wr 5 w.heap.size cap R ∧ Hid (R.length = n) ∧ Hid (∀ i, i < n → G.ix R i = if i < m then G.ix p i else G.ix p i ^^^ G.fixB psi om (n - 1 - i)) ∧
    RdX w.heap.size wr (.slice pa psi.length pc) psi ∧ RdX w.heap.size wr (.slice oa om.length oc) om ∧ RdX w.heap.size wr (.slice da dl dc) (G.deriv psi) ∧ Below w.heap.size w wr) (fun _ _ vi _ => (intOf vi + 1).toNat)
  case atStart => exact ⟨n, 0, p, by omega, by rw [G.exp_zero]; rfl, rfl, rfl, hr4, Lib.hid HN.out.symm, Lib.hid (fun i hi => by rw [if_pos hi]), hp4, ho4, hd4, hB4⟩
  case round =>
    clear hr4 hp4 ho4 hd4 hB4 hp ho hb2
    obtain ⟨m, j, R, hmj, rfl, rfl, rfl, hr, HL, HI, hp, ho, hd, hb⟩ := hrel
    by_cases h0m : m = 0
    · subst h0m
      obtain ⟨l', hl'⟩ : ∃ l', l' = n := ⟨_, rfl⟩
      have hrd : Rd wr (.slice (some ⟨w.heap.size, 0, none⟩) n cap) R := by
        have := hr.rd (by rw [HL.out]; omega)
        rwa [HL.out] at this
      have hcx := run_str (P := Tryz.prog) Tryz.underlying123 Tryz.underlying5 Tryz.underlying9 hrd
      clear hl'
      go_wp2_with fail
      go_ret
      have e : R = G.repair p psi om := by
        apply G.ext_ix
        · rw [HL.out, G.repair_length, HN.out]
        · intro i hi
          rw [HL.out] at hi
          rw [HI.out i hi, if_neg (by omega), G.ix_repair p psi om i (by rw [← HN.out]; exact hi), HN.out]
      rw [← e]
      exact ⟨rfl, hb⟩
    · obtain ⟨k, rfl⟩ : ∃ k, m = k + 1 := ⟨m - 1, by omega⟩
      have hk1 : ((k + 1 : Nat) : Int) - 1 = k := by omega
      simp only [hk1]
      have hkn : k < n := by omega
      have HJ : Hid (n - 1 - k = j) := Lib.hid (by omega)
      have hRk := HI.out k hkn
      rw [if_pos (by omega)] at hRk
      have HRk := Lib.hid hRk; clear hRk
      obtain ⟨X, hX⟩ : ∃ X, X = G.exp j := ⟨_, rfl⟩
      obtain ⟨Y, hY⟩ : ∃ Y, Y = G.hp j := ⟨_, rfl⟩
      rw [← hX, ← hY]
      have HX : Hid (G.mul X 2 = G.exp (j + 1)) := Lib.hid (by rw [hX, G.exp_add, G.exp_one])
      have HY : Hid (G.mul Y half = G.hp (j + 1)) := Lib.hid (by rw [hY, HH.out]; rfl)
      have HXj := Lib.hid hX; clear hX
      have HYj := Lib.hid hY; clear hY
      go_wp2_with fail
      refine (at_any _ _ psi Y _ rfl hp.rd).mono ?_
      rintro e w5 ⟨rfl, hb5⟩
      have hp5 := hp.keep hb5
      have ho5 := ho.keep hb5
      have hd5 := hd.keep hb5
      have hr5 := hr.below hb5
      have hB5 := hb.trans (hb5.mono hb.size)
      clear hp ho hd hr hb hb5
      obtain ⟨V, hV⟩ : ∃ V, V = G.val psi Y := ⟨_, rfl⟩
      rw [← hV]
      have HV := Lib.hid hV; clear hV
      by_cases hz : V = 0
      · have hzb : ((V.toNat : Int) == 0) = true := by rw [hz]; rfl
        have Hz := Lib.hid hz; clear hz
        go_wp2_with fail
        refine (at_any _ _ _ Y _ rfl hd5.rd).mono ?_
        rintro e w6 ⟨rfl, hb6⟩
        have hp6 := hp5.keep hb6
        have ho6 := ho5.keep hb6
        have hd6 := hd5.keep hb6
        have hr6 := hr5.below hb6
        have hB6 := hB5.trans (hb6.mono hB5.size)
        clear hp5 ho5 hd5 hr5 hB5 hb6
        obtain ⟨S, hS⟩ : ∃ S, S = G.val (G.deriv psi) Y := ⟨_, rfl⟩
        rw [← hS]
        have HS := Lib.hid hS; clear hS
        go_wp2_with fail
        refine (ginv_all _ S _ rfl).mono ?_
        rintro e w7 ⟨kd, rfl, hb7⟩
        have hp7 := hp6.keep hb7
        have ho7 := ho6.keep hb7
        have hd7 := hd6.keep hb7
        have hr7 := hr6.below hb7
        have hB7 := hB6.trans (hb7.mono hB6.size)
        clear hp6 ho6 hd6 hr6 hB6 hb7
        obtain ⟨d, hdv⟩ : ∃ d, d = G.inv S := ⟨_, rfl⟩
        rw [← hdv]
        have HD := Lib.hid hdv; clear hdv
        go_wp2_with fail
        have hod := ho7.drew
        have hpd := hp7.drew
        have hdd := hd7.drew
        have hL := HL.out
        have hcd := hr7.drew.cell k (by omega)
        have hk256 : k < n := hkn
        obtain ⟨O, hO⟩ : ∃ O, O = G.val om Y := ⟨_, rfl⟩
        have HO := Lib.hid hO; clear hO hL
        have HCall : Hid (Calls Tryz.prog 208 #[.slice oa om.length oc, B Y] w7.drew fun e w' => e = .returned (B O) ∧ w'.cell? ⟨w.heap.size, k, none⟩ = some (B (G.ix R k)) ∧ w'.frozen? ⟨w.heap.size, k, none⟩ = false ∧
            Row w' 5 w.heap.size cap R ∧ RdX w.heap.size w' (.slice pa psi.length pc) psi ∧ RdX w.heap.size w' (.slice oa om.length oc) om ∧ RdX w.heap.size w' (.slice da dl dc) (G.deriv psi) ∧ Below w.heap.size w w') := Lib.hid (by
          refine (at_any _ _ om Y _ rfl hod.rd).mono ?_
          rintro e w8 ⟨rfl, hb8⟩
          rw [← HO.out]
          have hr8 := hr7.drew.below hb8
          have hL := HL.out
          exact ⟨rfl, hr8.cell k (by omega), hr8.frozen k (by have := hr8.le; omega), hr8, hpd.keep hb8, hod.keep hb8, hdd.keep hb8, hB7.drew.trans (hb8.mono hB7.drew.size)⟩)
        rw [HRk.out] at hcd
        rw [HRk.out] at HCall
        clear hr7 hp7 ho7 hd7
        go_region_with (first | (go_at_call 208; refine HCall.out.mono ?_; rintro e w8 ⟨rfl, hc8, hf8, hr8, hp8, ho8, hd8, hB8⟩) | (go_at_call 201; (with_reducible refine (gmul_B _ _ _).mono ?_); rintro e w' ⟨rfl, rfl⟩))
        all_goals
          rw [xorB]
          have hL := HL.out
          have hr9 := hr8.store k (G.ix p k ^^^ G.mul X (G.mul O d)) (by omega)
          have hp9 := hp8.set (o := k) (u := B (G.ix p k ^^^ G.mul X (G.mul O d)))
          have ho9 := ho8.set (o := k) (u := B (G.ix p k ^^^ G.mul X (G.mul O d)))
          have hd9 := hd8.set (o := k) (u := B (G.ix p k ^^^ G.mul X (G.mul O d)))
          have hB9 := hB8.setCell (p := ⟨w.heap.size, k, none⟩) hwg (B (G.ix p k ^^^ G.mul X (G.mul O d)))
          clear hr8 hp8 ho8 hd8 hB8 hc8 hf8 hcd hL
          generalize w8.setCell ⟨w.heap.size, k, none⟩ (B (G.ix p k ^^^ G.mul X (G.mul O d))) = w9 at hr9 hp9 ho9 hd9 hB9 ⊢
          go_wp2_with fail
          refine (gmul_at _ _ X 2 _ rfl rfl).mono ?_
          rintro e w' ⟨rfl, rfl⟩
          rw [HX.out]
          go_wp2_with fail
          refine (gmul_at _ _ Y half _ rfl rfl).mono ?_
          rintro e w' ⟨rfl, rfl⟩
          rw [HY.out]
          go_wp2_with fail
          go_roundw
          case rel =>
            refine ⟨k, j + 1, R.set k (G.ix p k ^^^ G.mul X (G.mul O d)), by omega, rfl, rfl, rfl, hr9, Lib.hid (by rw [List.length_set, HL.out]), Lib.hid fun i hi => ?_, hp9, ho9, hd9, hB9⟩
            have hL := HL.out
            by_cases e : i = k
            · subst e
              rw [ix_set_self _ _ (by omega), if_neg (by omega), HJ.out]
              unfold G.fixB
              rw [← HYj.out, ← HXj.out, if_pos (by rw [← HV.out]; exact Hz.out), HO.out, HD.out, HS.out]
            · have := HI.out i hi
              rw [ix_set_ne _ _ e, this]
              have e2 : (i < k + 1) ↔ (i < k) := by omega
              simp only [e2]
          case measure => simp [intOf]
      · have hzb : ((V.toNat : Int) == 0) = false := by rw [byte_beq0]; simpa using hz
        have Hz := Lib.hid hz; clear hz
        go_wp2_with fail
        refine (gmul_at _ _ X 2 _ rfl rfl).mono ?_
        rintro e w' ⟨rfl, rfl⟩
        rw [HX.out]
        go_wp2_with fail
        refine (gmul_at _ _ Y half _ rfl rfl).mono ?_
        rintro e w' ⟨rfl, rfl⟩
        rw [HY.out]
        go_wp2_with fail
        go_roundw
        case rel =>
          refine ⟨k, j + 1, R, by omega, rfl, rfl, rfl, hr5, HL, Lib.hid fun i hi => ?_, hp5, ho5, hd5, hB5⟩
          rw [HI.out i hi]
          by_cases e : i = k
          · subst e
            rw [if_pos (by omega), if_neg (by omega), HJ.out]
            unfold G.fixB
            rw [← HYj.out, if_neg (by rw [← HV.out]; exact Hz.out)]
            simp
          · have e2 : (i < k + 1) ↔ (i < k) := by omega
            simp only [e2]
        case measure => simp [intOf]
end Go.Proofs.YtflmjdjkfognjaaGreat
