/- Walks of scaled, added, contains, merged of the reference of chapter 4; rows of bytes in memory. -/
import Derived.Test.YtbijdhdapejjhaaRef4b
import Derived.Test.YtbijdhdapejjhaaGauss
namespace Go.Proofs.Ytbijdhdapejjhaa
open Go.RowKit
set_option linter.unusedVariables false

theorem Try.infoRow : (Try.prog.info? 26).map (fun i => (i.zero, i.size, i.bytes)) = some (some (.slice none 0 0), 1, 24) := by kernel_rfl
theorem Try.infoI64 : (Try.prog.info? 3).map (fun i => (i.zero, i.size, i.bytes)) = some (some (.int .i64 0), 1, 8) := by kernel_rfl
theorem rgmul_B (a b : UInt8) (w : World) :
    Calls Try.prog 57 #[B a, B b] w fun e w' => e = .returned (B (G.mul a b)) ∧ w = w' := rgmul_at _ _ a b w rfl rfl

theorem map_take_succ (l : List UInt8) (f : UInt8 → UInt8) (k : Nat) (h : k < l.length) : (l.take (k + 1)).map f = (l.take k).map f ++ [f (G.ix l k)] := by
  rw [G.take_succ_ix l k h, List.map_append]; rfl

set_option maxRecDepth 100000 in
set_option maxHeartbeats 2000000 in
theorem scaled_any (v : Value) (x : Int) (l : List UInt8) (c : UInt8) (w : World) (hv : Rd w v l) (hx : x = c.toNat) (hl : l.length ≤ 1000) :
    Calls Try.prog 69 #[v, .int .u8 x] w fun e w' => ∃ v', e = .returned v' ∧ w'.ownsRow w.heap.size 5 1 v' l.length (bs (G.scale c l)) ∧ Below w.heap.size w w' := by
  subst hx
  have hv0 := hv
  obtain ⟨h0, a, cap, b, off, rfl, hcap, hcell⟩ := hv
  have HC := Lib.hid hcell; clear hcell
  go_enter Try.func69, Try.ntmps69
  go_wp2_with fail
  have ho0 : (w.alloc (.cells #[] 5)).ownsRow w.heap.size 5 1 (.slice (some ⟨w.heap.size, 0, none⟩) 0 0) 0 (bs []) := World.ownsRow_lit w #[] 0 (Nat.le_refl _) (by simp) (by simp)
  have hb0 : Below w.heap.size w (w.alloc (.cells #[] 5)) := (Below.refl _ _).alloc (Nat.le_refl _) _
  go_loopw [5, 6] (fun vo vk wr => ∃ k : Nat, k ≤ l.length ∧ vk = .int .i64 k ∧ wr.ownsRow w.heap.size 5 1 vo k (bs (G.scale c (l.take k))) ∧ Below w.heap.size w wr) (fun _ vk _ => l.length - (intOf vk).toNat)
  case atStart => exact ⟨0, by omega, rfl, ho0, hb0⟩
  case round =>
    clear ho0 hb0
    obtain ⟨k, hk, rfl, ho, hb⟩ := hrel
    by_cases hlt : k < l.length
    · obtain ⟨ha, hcp⟩ := HC.out k hlt
      have hcw : wr.cell? ⟨b, off + k, none⟩ = some (B (G.ix l k)) := (hb.cell (p := ⟨b, off + k, none⟩) (World.block_lt_of_cell? w _ hcp)).trans hcp
      have hix := run_idx (P := Try.prog) Try.underlying26 Try.sizeU8 (cap := cap) ha hlt _ rfl wr
      have Ha := Lib.hid ha; clear ha hcp
      have hbs := hb.size
      obtain ⟨d, hd⟩ : ∃ d, d = G.mul (G.ix l k) c := ⟨_, rfl⟩
      have HD := Lib.hid hd; clear hd
      have HT : Hid (G.scale c (l.take (k + 1)) = G.scale c (l.take k) ++ [d]) := Lib.hid (by unfold G.scale; rw [map_take_succ l _ k hlt, HD.out, G.mul_comm])
      have hrd1 : Rd (wr.alloc (.cells #[B d] 5)) (.slice (some ⟨wr.heap.size, 0, none⟩) 1 1) [d] := Rd.ofOwn' (World.ownsRow_lit wr #[B d] 1 (Nat.le_refl _) (by simp [maxLen]) (by simp)) (by simp)
      have ho6 := own_keep ho ((Below.refl wr.heap.size wr).alloc (Nat.le_refl _) (.cells #[B d] 5))
      have hb6 := hb.alloc hbs (.cells #[B d] 5)
      have hb6s := hb6.size
      clear ho hb
      go_wp2_with (first | (go_at_call 57; (with_reducible refine (rgmul_B _ _ _).mono ?_); rintro e w' ⟨rfl, rfl⟩; rw [← HD.out]) | (refine wpList_appB rfl _ _ rfl Try.underlying26 Try.infoU8 ho6 rfl hrd1 rfl (by simp; omega) hb6s ?_; intro v7 w7 hown7 hgr7 _))
      have hb7 := hb6.grown hgr7 hb6s (ownBlock_ge ho6)
      rw [List.length_singleton, ← HT.out] at hown7
      clear hb6 ho6 hrd1 hgr7
      go_roundw
      case rel => exact ⟨k + 1, by omega, by go_num, hown7, hb7⟩
      case measure => simp [intOf]; omega
    · obtain rfl : k = l.length := by omega
      rw [List.take_length] at ho
      go_wp2_with fail
      go_ret
      exact ⟨_, rfl, ho, hb⟩

set_option maxRecDepth 100000 in
set_option maxHeartbeats 2000000 in
theorem added_any (va vb : Value) (p q : List UInt8) (w : World) (hp : Rd w va p) (hq : Rd w vb q) (hpq : q.length = p.length) (hl : p.length ≤ 1000) :
    Calls Try.prog 70 #[va, vb] w fun e w' => ∃ v', e = .returned v' ∧ w'.ownsRow w.heap.size 5 1 v' p.length (bs (G.xorL p q)) ∧ Below w.heap.size w w' := by
  obtain ⟨h0, a, cap, b, off, rfl, hcap, hcell⟩ := hp
  have HC := Lib.hid hcell; clear hcell
  obtain ⟨h02, a2, cap2, b2, off2, rfl, hcap2, hcell2⟩ := hq
  have HC2 := Lib.hid hcell2; clear hcell2
  have hxl : (G.xorL p q).length = p.length := G.xorL_length hpq.symm
  obtain ⟨n, hn⟩ : ∃ n, n = p.length := ⟨_, rfl⟩
  rw [← hn] at hpq hl hxl hcap ⊢
  rw [hpq] at hcap2 ⊢
  have HN := Lib.hid hn; clear hn
  have HQ := Lib.hid hpq; clear hpq
  have HX := Lib.hid hxl; clear hxl
  go_enter Try.func70, Try.ntmps70
  go_wp2_with fail
  have ho0 : (w.alloc (.cells #[] 5)).ownsRow w.heap.size 5 1 (.slice (some ⟨w.heap.size, 0, none⟩) 0 0) 0 (bs []) := World.ownsRow_lit w #[] 0 (Nat.le_refl _) (by simp) (by simp)
  have hb0 : Below w.heap.size w (w.alloc (.cells #[] 5)) := (Below.refl _ _).alloc (Nat.le_refl _) _
  go_loopw [5, 6] (fun vo vk wr => ∃ k : Nat, k ≤ n ∧ vk = .int .i64 k ∧ wr.ownsRow w.heap.size 5 1 vo k (bs ((G.xorL p q).take k)) ∧ Below w.heap.size w wr) (fun _ vk _ => n - (intOf vk).toNat)
  case atStart => exact ⟨0, by omega, rfl, ho0, hb0⟩
  case round =>
    clear ho0 hb0
    obtain ⟨k, hk, rfl, ho, hb⟩ := hrel
    by_cases hlt : k < n
    · obtain ⟨ha, hcp⟩ := HC.out k (by rw [← HN.out]; exact hlt)
      obtain ⟨ha2, hcp2⟩ := HC2.out k (by rw [HQ.out]; exact hlt)
      have hcw : wr.cell? ⟨b, off + k, none⟩ = some (B (G.ix p k)) := (hb.cell (p := ⟨b, off + k, none⟩) (World.block_lt_of_cell? w _ hcp)).trans hcp
      have hcw2 : wr.cell? ⟨b2, off2 + k, none⟩ = some (B (G.ix q k)) := (hb.cell (p := ⟨b2, off2 + k, none⟩) (World.block_lt_of_cell? w _ hcp2)).trans hcp2
      have hbs := hb.size
      have HT : Hid ((G.xorL p q).take (k + 1) = (G.xorL p q).take k ++ [G.ix p k ^^^ G.ix q k]) := Lib.hid (xorL_take_succ p q k (by rw [← HN.out]; exact hlt) (by rw [HQ.out]; exact hlt))
      have hxb := xorB (G.ix p k) (G.ix q k)
      obtain ⟨c, hc⟩ : ∃ c, c = G.ix p k ^^^ G.ix q k := ⟨_, rfl⟩
      rw [← hc] at hxb HT
      have HCc := Lib.hid hc; clear hc
      have hix := fun wx => run_idx (P := Try.prog) Try.underlying26 Try.sizeU8 (cap := cap) ha hlt _ rfl wx
      have hix2 := fun wx => run_idx (P := Try.prog) Try.underlying26 Try.sizeU8 (cap := cap2) ha2 hlt _ rfl wx
      have hbb := World.block_lt_of_cell? w _ hcp
      have hbb2 := World.block_lt_of_cell? w _ hcp2
      have Ha := Lib.hid ha; clear ha
      have Ha2 := Lib.hid ha2; clear ha2
      have Hcp := Lib.hid hcp; clear hcp
      have Hcp2 := Lib.hid hcp2; clear hcp2
      have hod := own_keep ho (show Below wr.heap.size wr wr.drew from ⟨rfl, rfl, rfl, Nat.le_refl _, fun _ _ => rfl⟩)
      have hbd := hb.drew
      have hbds := hbd.size
      have hrd1 : Rd (wr.drew.alloc (.cells #[B c] 5)) (.slice (some ⟨wr.heap.size, 0, none⟩) 1 1) [c] := Rd.ofOwn' (World.ownsRow_lit wr.drew #[B c] 1 (Nat.le_refl _) (by simp [maxLen]) (by simp)) (by simp)
      have ho6 := own_keep hod ((Below.refl wr.drew.heap.size wr.drew).alloc (Nat.le_refl _) (.cells #[B c] 5))
      have hb6 := hbd.alloc hbds (.cells #[B c] 5)
      have hb6s := hb6.size
      clear hod hbd ho hb
      go_wp2_with fail
      go_region_held3 (fun W => W.cell? ⟨b, off + k, none⟩ = some (B (G.ix p k)) ∧ W.cell? ⟨b2, off2 + k, none⟩ = some (B (G.ix q k))) (first | go_keep | exact ⟨he1, he2⟩) ((refine step_appB (by rfl) _ _ (by rfl) Try.underlying26 Try.infoU8 ho6 (by rfl) hrd1 (by rfl) (by simp; omega) hb6s ?_; intro v7 w7 hown7 hgr7; have he1 := ((hb6.grown hgr7 hb6s (ownBlock_ge ho6)).cell (p := ⟨b, off + k, none⟩) hbb).trans Hcp.out; have he2 := ((hb6.grown hgr7 hb6s (ownBlock_ge ho6)).cell (p := ⟨b2, off2 + k, none⟩) hbb2).trans Hcp2.out))
      all_goals
        go_wp2_with fail
        have hb7 := hb6.grown hgr7 hb6s (ownBlock_ge ho6)
        rw [List.length_singleton, ← HT.out] at hown7
        clear hb6 ho6 hrd1 hgr7
        go_roundw
        case rel => exact ⟨k + 1, by omega, by go_num, hown7, hb7⟩
        case measure => simp [intOf]; omega
    · obtain rfl : k = n := by omega
      rw [List.take_of_length_le (Nat.le_of_eq HX.out)] at ho
      go_wp2_with fail
      go_ret
      exact ⟨_, rfl, ho, hb⟩

set_option maxRecDepth 100000 in
set_option maxHeartbeats 1000000 in
theorem rcontains_any (v : Value) (l : List Int) (x : Int) (w : World) (hv : RdI w v l) :
    Calls Try.prog 71 #[v, .int .i64 x] w fun e w' => e = .returned (.bool (G.cont l x)) ∧ w = w' := by
  obtain ⟨h0, ⟨a, cap, b, off, rfl, hcap, hcell⟩, hrng⟩ := hv
  have HC := Lib.hid hcell; clear hcell
  clear hrng
  go_enter Try.func71, Try.ntmps71
  go_wp2_with fail
  go_loop [5] (fun vk => ∃ k : Nat, k ≤ l.length ∧ vk = .int .i64 k ∧ Hid (∀ i, i < k → ixI l i ≠ x)) (fun vk => l.length - (intOf vk).toNat)
  case atStart => exact ⟨0, by omega, rfl, Lib.hid (fun i h => by omega)⟩
  case round =>
    obtain ⟨k, hk, rfl, hz⟩ := hrel
    by_cases hlt : k < l.length
    · obtain ⟨ha, hcp⟩ := HC.out k hlt
      have hix := run_idx (P := Try.prog) Try.underlying34 Try.sizeInt (cap := cap) ha hlt _ rfl w
      have Ha := Lib.hid ha; clear ha
      obtain ⟨y, hy⟩ : ∃ y, y = ixI l k := ⟨_, rfl⟩
      rw [← hy] at hcp
      have Hy := Lib.hid hy; clear hy
      by_cases hc : y = x
      · have hb : (y == x) = true := by simpa using hc
        have HF : Hid (G.cont l x = true) := Lib.hid (by rw [G.cont_iff, ← hc, Hy.out]; exact ixI_mem hlt)
        clear hc
        go_wp2_with fail
        go_ret
        exact ⟨retB HF.out.symm, rfl⟩
      · have hb : (y == x) = false := by simpa using hc
        have Hc := Lib.hid hc; clear hc
        go_wp2_with fail
        go_round
        case rel =>
          refine ⟨k + 1, by omega, by go_num, Lib.hid fun i hi => ?_⟩
          by_cases e : i = k
          · rw [e, ← Hy.out]; exact Hc.out
          · exact hz.out i (by omega)
        case measure => simp [intOf]; omega
    · have HF : Hid (G.cont l x = false) := Lib.hid (by
        rw [Bool.eq_false_iff]; intro h
        rw [G.cont_iff] at h
        obtain ⟨i, hi, e⟩ := List.getElem_of_mem h
        exact hz.out i (by omega) (by rw [G.ixI_get hi]; exact e))
      go_wp2_with fail
      go_ret
      exact ⟨retB HF.out.symm, rfl⟩

/-- ints as cells -/
def is (l : List Int) : List Value := l.map (Value.int .i64)
theorem is_append (l m : List Int) : is (l ++ m) = is l ++ is m := by simp [is]
theorem is_length (l : List Int) : (is l).length = l.length := by simp [is]
theorem is_one (l : List Int) : ∀ u ∈ is l, u.oneCell' = true := by
  intro u hu
  simp only [is, List.mem_map] at hu
  obtain ⟨c, _, rfl⟩ := hu
  rfl
theorem is_get {l : List Int} {i : Nat} (h : i < l.length) : (is l)[i]? = some (.int .i64 (ixI l i)) := by
  simp [is, ixI, h]
/-- an owned row of ints can be read -/
theorem RdI.ofOwn {w : World} {base e : Nat} {v : Value} {l : List Int} (h : w.ownsRow base e 1 v l.length (is l)) (hl : l.length ≤ 17592186044416) (hr : ∀ x ∈ l, -9223372036854775808 ≤ x ∧ x ≤ 9223372036854775807) : RdI w v l := by
  refine ⟨hl, ?_, fun i hi => hr _ (ixI_mem hi)⟩
  rcases h.2 with ⟨rfl, h0⟩ | ⟨g, cap, cur, rfl, hg, hh, hn, hm, hcs, ht⟩
  · rw [h0]; exact ⟨none, 0, 0, 0, rfl, by omega, fun i hi => by omega⟩
  · refine ⟨_, cap, g, 0, rfl, hn, fun i hi => ⟨rfl, ?_⟩⟩
    rw [Nat.zero_add, h.cellAt i (by omega), is_get hi]
/-- 'append(v, x)' at ints: the new one lies in a literal -/
theorem wpList_appI {P : Program} {ops : Array Oper} {rest : List Oper} {o : Oper} {a : Act} {Q : Exit → Act → World → Prop} {w : World} (hg : o.guard = none) (s x : Operand) {t : TypeId}
    (hop : o.op = .call { callee := .builtin .append, args := #[s, x], argTypes := #[t, t] }) {e : TypeId} {base : Nat}
    (ht : P.underlying t = some (.slice e)) (h2 : (P.info? e).map (fun i => (i.zero, i.size, i.bytes)) = some (some (.int .i64 0), 1, 8))
    {v : Value} {n : Nat} {l : List Int} (hown : w.ownsRow base e 1 v n (is l)) (hv : a.eval s = v) {g : Nat} {y : Int} (hc : w.cell? ⟨g, 0, none⟩ = some (.int .i64 y)) (hx : a.eval x = .slice (some ⟨g, 0, none⟩) 1 1)
    (h63 : n ≤ 1073741824) (hbase : base ≤ w.heap.size)
    (hK : ∀ v' w', w'.ownsRow base e 1 v' (n + 1) (is (l ++ [y])) → w.grownBy w' v.ownBlock → wpList P ops Q rest (a.put o.dst v') w') : wpList P ops Q (o :: rest) a w := by
  obtain ⟨i0, hi, hz0, hz1, hz2⟩ := info_parts h2
  refine wpList_app hg s x hop ht hi hz0 hz1 hz2 rfl (by omega) hown hv (m := 1) (news := is [y]) ⟨by simp [is], _, 1, g, 0, rfl, Nat.le_refl _, fun i u hu => ?_⟩ hx (is_one _) (by unfold maxLen; omega) (by omega) hbase fun v' w' g1 g2 g3 => ?_
  · have hi0 : i = 0 := by
      by_cases h : i = 0
      · exact h
      · simp [is, h] at hu
    subst hi0
    simp only [is, List.map_cons, List.map_nil, List.getElem?_cons_zero, Option.some.injEq] at hu
    subst hu
    exact ⟨rfl, hc⟩
  · rw [← is_append] at g1
    exact hK v' w' g1 g2
end Go.Proofs.Ytbijdhdapejjhaa
