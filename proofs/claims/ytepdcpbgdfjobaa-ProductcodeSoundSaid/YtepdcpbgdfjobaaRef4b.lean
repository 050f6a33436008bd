/- Walks of Positions and Differ of the reference of chapter 4, and of Xor of chapter 2. -/
import Derived.Test.YtepdcpbgdfjobaaRef4
import Derived.Deep.RegionHeld3
namespace Go.Proofs.Ytepdcpbgdfjobaa
open Go.RowKit
set_option linter.unusedVariables false

set_option maxRecDepth 100000 in
set_option maxHeartbeats 2000000 in
theorem differ_any (p q : List UInt8) (w : World) (hpq : q.length = p.length) (hp : p.length ≤ 9223372036854775807) :
    Calls Try.prog 25 #[.string (str p), .string (str q)] w fun e w' => e = .returned (.int .i64 (G.allN p q p.length)) ∧ Below w.heap.size w w' := by
  have hs := str_size p
  have hs2 := str_size q
  rw [hpq] at hs2
  obtain ⟨n, hn⟩ : ∃ n, n = p.length := ⟨_, rfl⟩
  rw [← hn] at hpq hp hs hs2 ⊢
  have HN := Lib.hid hn; clear hn
  have HQ := Lib.hid hpq; clear hpq
  go_enter Try.func25, Try.ntmps25
  go_wp2_with fail
  go_loopw [5, 6] (fun va vk wr => ∃ k : Nat, k ≤ n ∧ vk = .int .i64 k ∧ va = .int .i64 (G.allN p q k) ∧ Below w.heap.size w wr) (fun _ vk _ => n - (intOf vk).toNat)
  case atStart => exact ⟨0, by omega, rfl, rfl, Below.refl _ _⟩
  case round =>
    obtain ⟨k, hk, rfl, rfl, hb⟩ := hrel
    by_cases hlt : k < n
    · have hi1 := fun wx => run_sidx (P := Try.prog) Try.underlying9 p k (by rw [← HN.out]; exact hlt) _ rfl wx
      have hi2 := fun wx => run_sidx (P := Try.prog) Try.underlying9 q k (by rw [HQ.out]; exact hlt) _ rfl wx
      have h1 := G.allN_le p q k
      obtain ⟨A1, hA⟩ : ∃ A1, A1 = G.allN p q k := ⟨_, rfl⟩
      rw [← hA] at h1 ⊢
      have HA := Lib.hid hA; clear hA
      by_cases hc : G.ix p k = G.ix q k
      · have hcb : (((G.ix p k).toNat : Int) == ((G.ix q k).toNat : Int)) = true := by rw [hc]; simp
        have hcb' : (((G.ix p k).toNat : Int) != ((G.ix q k).toNat : Int)) = false := by unfold bne; rw [hcb]; rfl
        have Hc := Lib.hid hc; clear hc
        go_wp2_with fail
        go_quiet (fail)
        go_wp2_with fail
        go_roundw
        case rel => exact ⟨k + 1, by omega, by go_num, by rw [G.allN, if_pos Hc.out, HA.out]; simp, Below.drewN hb _⟩
        case measure => simp [intOf]; omega
      · have hcb : (((G.ix p k).toNat : Int) == ((G.ix q k).toNat : Int)) = false := by
          rw [beq_eq_false_iff_ne]; intro h; apply hc; apply UInt8.toNat_inj.1; omega
        have hcb' : (((G.ix p k).toNat : Int) != ((G.ix q k).toNat : Int)) = true := by unfold bne; rw [hcb]; rfl
        have Hc := Lib.hid hc; clear hc
        go_wp2_with fail
        go_quiet (fail)
        go_wp2_with fail
        go_roundw
        case rel => exact ⟨k + 1, by omega, by go_num, by rw [G.allN, if_neg Hc.out, HA.out]; go_num, Below.drewN hb _⟩
        case measure => simp [intOf]; omega
    · obtain rfl : k = n := by omega
      go_wp2_with fail
      go_ret
      exact ⟨rfl, hb⟩

/-- 'append(v, s...)' at bytes, as a step of a region that draws its order -/
theorem step_appB {P : Program} {ops : Array Oper} {o : Oper} {a : Act} {w : World} {K : Act → World → Prop} {Q : Exit → Act → World → Prop} {E : Prop} (hg : o.guard = none) (s x : Operand) {t : TypeId}
    (hop : o.op = .call { callee := .builtin .append, args := #[s, x], argTypes := #[t, t] }) {e : TypeId} {base : Nat}
    (ht : P.underlying t = some (.slice e)) (h2 : (P.info? e).map (fun i => (i.zero, i.size, i.bytes)) = some (some (.int .u8 0), 1, 1))
    {v : Value} {n : Nat} {l : List UInt8} (hown : w.ownsRow base e 1 v n (bs l)) (hv : a.eval s = v) {vs : Value} {m : List UInt8} (hs : Rd w vs m) (hx : a.eval x = vs)
    (h63 : n + m.length ≤ 140737488355328) (hbase : base ≤ w.heap.size)
    (hK : ∀ v' w', w'.ownsRow base e 1 v' (n + m.length) (bs (l ++ m)) → w.grownBy w' v.ownBlock → K (a.put o.dst v') w') :
    if Region.wanted o (yielded ops a.tmps) = true then Oper.wp P o a w K Q else E := by
  have hw : Region.wanted o (yielded ops a.tmps) = true := by simp [Region.wanted, hg]
  rw [if_pos hw]
  obtain ⟨i0, hi, hz0, hz1, hz2⟩ := info_parts h2
  obtain ⟨v', w', hrun, r1, r2, r3⟩ := run_app (ty := o.type) ht hi hz0 hz1 hz2 rfl (by omega) hown hs.reads (bs_one m) (by unfold maxLen; omega) (by omega) hbase
  unfold Oper.wp
  simp [execOp, hop, resolve, invoke, builtin, hv, hx, hrun, Result.andThen]
  rw [← bs_append] at r1
  exact hK v' w' r1 r2

theorem xorL_take_succ (a b : List UInt8) (k : Nat) (ha : k < a.length) (hb : k < b.length) : (G.xorL a b).take (k + 1) = (G.xorL a b).take k ++ [G.ix a k ^^^ G.ix b k] := by
  have hk : k < (G.xorL a b).length := by simp [G.xorL]; omega
  rw [G.take_succ_ix _ _ hk]
  congr 2
  simp [G.ix, G.xorL, ha, hb, List.getElem?_zipWith]

set_option maxRecDepth 100000 in
set_option maxHeartbeats 2000000 in
theorem xor_any (p q : List UInt8) (w : World) (hpq : q.length = p.length) (hp : p.length ≤ 1073741824) :
    Calls Try.prog 21 #[.string (str p), .string (str q)] w fun e w' => e = .returned (.string (str (G.xorL p q))) ∧ Below w.heap.size w w' := by
  have hs := str_size p
  have hs2 := str_size q
  rw [hpq] at hs2
  have hxl : (G.xorL p q).length = p.length := G.xorL_length hpq.symm
  obtain ⟨n, hn⟩ : ∃ n, n = p.length := ⟨_, rfl⟩
  rw [← hn] at hpq hp hs hs2 hxl
  have HN := Lib.hid hn; clear hn
  have HQ := Lib.hid hpq; clear hpq
  have HX := Lib.hid hxl; clear hxl
  go_enter Try.func21, Try.ntmps21
  go_wp2_with fail
  have ho0 : (w.alloc (.cells #[] 5)).ownsRow w.heap.size 5 1 (.slice (some ⟨w.heap.size, 0, none⟩) 0 0) 0 (bs []) := World.ownsRow_lit w #[] 0 (Nat.le_refl _) (by simp) (by simp)
  have hb0 : Below w.heap.size w (w.alloc (.cells #[] 5)) := (Below.refl _ _).alloc (Nat.le_refl _) _
  go_loopw [5, 6] (fun vo vk wr => ∃ k : Nat, k ≤ n ∧ vk = .int .i64 k ∧ wr.ownsRow w.heap.size 5 1 vo k (bs ((G.xorL p q).take k)) ∧ Below w.heap.size w wr) (fun _ vk _ => n - (intOf vk).toNat)
  case atStart => exact ⟨0, by omega, rfl, ho0, hb0⟩
  case round =>
    clear ho0 hb0
    obtain ⟨k, hk, rfl, ho, hb⟩ := hrel
    by_cases hlt : k < n
    · have hbs := hb.size
      have hi1 := fun wx => run_sidx (P := Try.prog) Try.underlying9 p k (by rw [← HN.out]; exact hlt) _ rfl wx
      have hi2 := fun wx => run_sidx (P := Try.prog) Try.underlying9 q k (by rw [HQ.out]; exact hlt) _ rfl wx
      have HT : Hid ((G.xorL p q).take (k + 1) = (G.xorL p q).take k ++ [G.ix p k ^^^ G.ix q k]) := Lib.hid (xorL_take_succ p q k (by rw [← HN.out]; exact hlt) (by rw [HQ.out]; exact hlt))
      have hxb := xorB (G.ix p k) (G.ix q k)
      obtain ⟨c, hc⟩ : ∃ c, c = G.ix p k ^^^ G.ix q k := ⟨_, rfl⟩
      rw [← hc] at hxb HT
      have HC := Lib.hid hc; clear hc
      go_wp2_with fail
      have hod := own_keep ho (show Below wr.heap.size wr wr.drew from ⟨rfl, rfl, rfl, Nat.le_refl _, fun _ _ => rfl⟩)
      have hbd := hb.drew
      have hbds := hbd.size
      have hrd1 : Rd (wr.drew.alloc (.cells #[B c] 5)) (.slice (some ⟨wr.heap.size, 0, none⟩) 1 1) [c] := Rd.ofOwn' (World.ownsRow_lit wr.drew #[B c] 1 (Nat.le_refl _) (by simp [maxLen]) (by simp)) (by simp)
      have ho6 := own_keep hod ((Below.refl wr.drew.heap.size wr.drew).alloc (Nat.le_refl _) (.cells #[B c] 5))
      have hb6 := hbd.alloc hbds (.cells #[B c] 5)
      have hb6s := hb6.size
      clear hod hbd ho hb
      go_region_held3 (fun _ => True) (trivial) ((refine step_appB (by rfl) _ _ (by rfl) Try.underlying43 Try.infoU8 ho6 (by rfl) hrd1 (by rfl) (by simp; omega) hb6s ?_; intro v7 w7 hown7 hgr7))
      all_goals
        go_wp2_with fail
        have hb7 := hb6.grown hgr7 hb6s (ownBlock_ge ho6)
        rw [List.length_singleton, ← HT.out] at hown7
        clear hb6 ho6 hrd1 hgr7
        go_roundw
        case rel => exact ⟨k + 1, by omega, by go_num, hown7, hb7⟩
        case measure => simp [intOf]; omega
    · obtain rfl : k = n := by omega
      rw [List.take_of_length_le (Nat.le_of_eq HX.out)] at ho
      have hcx := run_str (P := Try.prog) Try.underlying43 Try.underlying5 Try.underlying9 (Rd.ofOwn' ho (by omega))
      go_wp2_with fail
      go_ret
      exact ⟨rfl, hb⟩

end Go.Proofs.Ytepdcpbgdfjobaa
