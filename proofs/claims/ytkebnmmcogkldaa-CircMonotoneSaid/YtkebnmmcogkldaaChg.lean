/- Walks of changes and Fill of the package reedsolomon. -/
import Derived.Test.YtkebnmmcogkldaaRep
namespace Go.Proofs.Ytkebnmmcogkldaa
open Go.RowKit
set_option linter.unusedVariables false

theorem ixI_mem {l : List Int} {i : Nat} (h : i < l.length) : ixI l i ∈ l := by
  unfold ixI; rw [List.getD_eq_getElem?_getD, List.getElem?_eq_getElem h]; exact List.getElem_mem h


set_option maxRecDepth 100000 in
set_option maxHeartbeats 1000000 in
theorem indexI_any (v : Value) (l : List Int) (x : Int) (w : World) (hv : RdI w v l) :
    Calls Try.prog 40 #[v, .int .i64 x] w fun e w' => ∃ k : Int, e = .returned (.int .i64 k) ∧ (0 ≤ k ↔ G.cont l x = true) ∧ -1 ≤ k ∧ w = w' := by
  obtain ⟨h0, ⟨a, cap, b, off, rfl, hcap, hcell⟩, hrng⟩ := hv
  have HC := Lib.hid hcell; clear hcell
  have HR := Lib.hid hrng; clear hrng
  go_enter Try.func40, Try.ntmps40
  go_wp2_with fail
  go_loop [5, 8] (fun _ vk => ∃ k : Nat, k ≤ l.length ∧ vk = .int .i64 k ∧ Hid (∀ i, i < k → ixI l i ≠ x)) (fun _ vk => l.length - (intOf vk).toNat)
  case atStart => exact ⟨0, by omega, rfl, Lib.hid (fun i h => by omega)⟩
  case round =>
    obtain ⟨k, hk, rfl, hz⟩ := hrel
    by_cases hlt : k < l.length
    · obtain ⟨ha, hcp⟩ := HC.out k hlt
      have hix := run_idx (P := Try.prog) Try.underlying24 Try.sizeInt (cap := cap) ha hlt _ rfl w
      have Ha := Lib.hid ha; clear ha
      obtain ⟨y, hy⟩ : ∃ y, y = ixI l k := ⟨_, rfl⟩
      rw [← hy] at hcp
      have Hy := Lib.hid hy; clear hy
      by_cases hc : x = y
      · have hb : (x == y) = true := by simpa using hc
        have Hc := Lib.hid hc; clear hc
        go_wp2_with fail
        go_ret
        refine ⟨_, rfl, ⟨fun _ => ?_, fun _ => by omega⟩, by omega, rfl⟩
        rw [G.cont_iff, Hc.out, Hy.out]
        exact ixI_mem hlt
      · have hb : (x == y) = false := by simpa using hc
        have Hc := Lib.hid hc; clear hc
        go_wp2_with fail
        go_round
        case rel =>
          refine ⟨k + 1, by omega, by go_num, Lib.hid fun i hi => ?_⟩
          by_cases e : i = k
          · rw [e, ← Hy.out]; exact fun h => Hc.out h.symm
          · exact hz.out i (by omega)
        case measure => simp [intOf]; omega
    · go_wp2_with fail
      go_ret
      refine ⟨_, rfl, ⟨fun h => by omega, fun h => ?_⟩, by omega, rfl⟩
      exfalso
      rw [G.cont_iff] at h
      obtain ⟨i, hi, e⟩ := List.getElem_of_mem h
      refine hz.out i (by omega) ?_
      unfold ixI; rw [List.getD_eq_getElem?_getD, List.getElem?_eq_getElem hi]; exact e

theorem containsI_any (v : Value) (l : List Int) (x : Int) (w : World) (hv : RdI w v l) :
    Calls Try.prog 25 #[v, .int .i64 x] w fun e w' => e = .returned (.bool (G.cont l x)) ∧ w = w' := by
  go_enter Try.func25, Try.ntmps25
  go_wp2_with fail
  refine (indexI_any v l x _ hv).mono ?_
  rintro e w' ⟨k, rfl, hk, hk1, rfl⟩
  have hd : decide (0 ≤ k) = G.cont l x := by
    rw [Bool.eq_iff_iff, decide_eq_true_eq]; exact hk
  clear hk
  go_wp2_with fail
  go_ret
  exact ⟨rfl, rfl⟩

/-- a byte of a string -/
theorem run_sidx {P : Program} {t : TypeId} (ht : P.underlying t = some .string) (l : List UInt8) (k : Nat) (hk : k < l.length) (i : Int) (hi : i = k) (w : World) :
    (Instr.index t (.string (str l)) (.int .i64 i)).run P w = .ok (B (G.ix l k)) w := by
  subst hi
  have h1 : (str l).size = l.length := str_size l
  have h2 : ((str l)[k]'(by rw [h1]; exact hk)) = l[k] := by simp [str, ByteArray.getElem_eq_getElem_data]
  simp [Instr.index, asIntOf, run_underlying ht, h1, hk, h2, G.ix]

set_option maxRecDepth 100000 in
set_option maxHeartbeats 2000000 in
theorem changes_any (p q : List UInt8) (ve : Value) (l : List Int) (w : World) (hpq : q.length = p.length) (hp : p.length ≤ 255) (hv : RdI w ve l) :
    Calls Try.prog 65 #[.string (str p), .string (str q), ve] w fun e w' => e = .returned (.tuple #[.int .i64 (G.allN p q p.length), .int .i64 (G.othN p q l p.length)]) ∧ Below w.heap.size w w' := by
  have hs := str_size p
  obtain ⟨n, hn⟩ : ∃ n, n = p.length := ⟨_, rfl⟩
  rw [← hn] at hpq hp hs ⊢
  have HN := Lib.hid hn; clear hn
  have HQ := Lib.hid hpq; clear hpq
  obtain ⟨va, vl, vc, rfl⟩ : ∃ a l c, ve = .slice a l c := by
    obtain ⟨_, ⟨a, c, _, _, rfl, _, _⟩, _⟩ := hv
    exact ⟨_, _, _, rfl⟩
  have hv0 := hv
  go_enter Try.func65, Try.ntmps65
  go_wp2_with fail
  go_loopw [8, 9, 10, 13] (fun va vo _ vk wr => ∃ k : Nat, k ≤ n ∧ vk = .int .i64 k ∧ va = .int .i64 (G.allN p q k) ∧ vo = .int .i64 (G.othN p q l k) ∧ Below w.heap.size w wr) (fun _ _ _ vk _ => n - (intOf vk).toNat)
  case atStart => exact ⟨0, by omega, rfl, rfl, rfl, Below.refl _ _⟩
  case round =>
    obtain ⟨k, hk, rfl, rfl, rfl, hb⟩ := hrel
    by_cases hlt : k < n
    · have hv' := hv0.keep (hb : Below w.heap.size w wr)
      have hi1 := fun wx => run_sidx (P := Try.prog) Try.underlying9 p k (by rw [← HN.out]; exact hlt) _ rfl wx
      have hi2 := fun wx => run_sidx (P := Try.prog) Try.underlying9 q k (by rw [HQ.out]; exact hlt) _ rfl wx
      have h1 := G.allN_le p q k
      have h2 := G.othN_le p q l k
      obtain ⟨A1, hA⟩ : ∃ A1, A1 = G.allN p q k := ⟨_, rfl⟩
      obtain ⟨O1, hO⟩ : ∃ O1, O1 = G.othN p q l k := ⟨_, rfl⟩
      rw [← hA] at h1 ⊢
      rw [← hO] at h2 ⊢
      have HA := Lib.hid hA; clear hA
      have HO := Lib.hid hO; clear hO
      by_cases hc : G.ix p k = G.ix q k
      · have hcb : (((G.ix p k).toNat : Int) == ((G.ix q k).toNat : Int)) = true := by rw [hc]; simp
        have Hc := Lib.hid hc; clear hc
        go_wp2_with fail
        go_quiet (fail)
        go_wp2_with fail
        go_roundw
        case rel => exact ⟨k + 1, by omega, by go_num, by rw [G.allN, if_pos Hc.out, HA.out]; simp, by rw [G.othN, if_pos Hc.out, HO.out]; simp, Below.drewN hb _⟩
        case measure => simp [intOf]; omega
      · have hcb : (((G.ix p k).toNat : Int) == ((G.ix q k).toNat : Int)) = false := by
          rw [beq_eq_false_iff_ne]; intro h; apply hc; apply UInt8.toNat_inj.1; omega
        have Hc := Lib.hid hc; clear hc
        go_wp2_with fail
        go_quiet (fail)
        go_wp2_with fail
        have hB := Below.drewN hb nq
        have hvn : RdI (wr.drewN nq) (.slice va vl vc) l := hv'.keepW (fun k hk => rfl)
        generalize wr.drewN nq = w2 at hB hvn ⊢
        refine (containsI_any _ l _ _ hvn).mono ?_
        rintro e w' ⟨rfl, rfl⟩
        cases hct : G.cont l (k : Int) with
        | true =>
          have Ht := Lib.hid hct; clear hct
          go_wp2_with fail
          go_roundw
          case rel => exact ⟨k + 1, by omega, by go_num, by rw [G.allN, if_neg Hc.out, HA.out]; go_num, by rw [G.othN, if_neg Hc.out, HO.out, Ht.out]; simp, hB⟩
          case measure => simp [intOf]; omega
        | false =>
          have Ht := Lib.hid hct; clear hct
          go_wp2_with fail
          go_roundw
          case rel => exact ⟨k + 1, by omega, by go_num, by rw [G.allN, if_neg Hc.out, HA.out]; go_num, by rw [G.othN, if_neg Hc.out, HO.out, Ht.out]; simp, hB⟩
          case measure => simp [intOf]; omega
    · obtain rfl : k = n := by omega
      go_wp2_with fail
      go_ret2
      exact ⟨rfl, hb⟩
end Go.Proofs.Ytkebnmmcogkldaa
