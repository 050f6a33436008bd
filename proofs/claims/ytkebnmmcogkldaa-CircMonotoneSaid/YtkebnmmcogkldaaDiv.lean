/- Walk of 'divide' of the package reedsolomon. -/
import Derived.Test.YtkebnmmcogkldaaPw
import Derived.OneCell
namespace Go.Proofs.Ytkebnmmcogkldaa
open Go.RowKit
set_option linter.unusedVariables false

theorem Row.other {w : World} {e g cap : Nat} {l : List UInt8} (h : Row w e g cap l) {a : Addr} (ha : g ≠ a.block) (u : Value) : Row (w.setCell a u) e g cap l :=
  h.keep (Below.heap_setCell _ _ _ _ ha)
theorem Row.drew {w : World} {e g cap : Nat} {l : List UInt8} (h : Row w e g cap l) : Row w.drew e g cap l := h.keep rfl
theorem Row.cells {w : World} {base e g cap n : Nat} {l : List UInt8} (h : w.ownsRow base e 1 (.slice (some ⟨g, 0, none⟩) n cap) n (bs l)) : Row w e g cap l := (Row.of_own h).1

theorem degN_ix (p : List UInt8) : ∀ (m n : Nat), G.degN p m = (n : Int) → G.ix p n ≠ 0
  | 0, n, h => by simp [G.degN] at h
  | m + 1, n, h => by
    unfold G.degN at h
    split at h
    · exact degN_ix p m n h
    · next hh => obtain rfl : m = n := by omega
                 exact hh
theorem deg_ix {p : List UInt8} {n : Nat} (h : G.deg p = (n : Int)) : G.ix p n ≠ 0 := degN_ix p _ n h

theorem divLoop_length (q : List UInt8) (n : Nat) (iv : UInt8) : ∀ (k : Nat) (s : List UInt8 × List UInt8), (G.divLoop q n iv k s).1.length = s.1.length ∧ (G.divLoop q n iv k s).2.length = s.2.length
  | 0, s => ⟨rfl, rfl⟩
  | k + 1, s => by
    rw [G.divLoop]
    obtain ⟨h1, h2⟩ := divLoop_length q n iv k (G.divStep q n iv (n + k) s)
    rw [h1, h2]
    simp [G.divStep, G.addRow_length]

set_option maxRecDepth 100000 in
set_option maxHeartbeats 4000000 in
theorem divide_any (ad : Addr) (cp : Nat) (vq : Value) (p q : List UInt8) (n : Nat) (w : World) (hp : Rd w (.slice (some ad) p.length cp) p) (hq : Rd w vq q) (hn : G.deg q = (n : Int)) (hnp : n < p.length) (hps : p.length ≤ 1073741824) :
    Calls Try.prog 61 #[.slice (some ad) p.length cp, vq] w fun e w' => ∃ g1 c1 g2 c2, e = .returned (.tuple #[.slice (some ⟨g1, 0, none⟩) (G.divide p q).1.length c1, .slice (some ⟨g2, 0, none⟩) p.length c2]) ∧
      Rd w' (.slice (some ⟨g1, 0, none⟩) (G.divide p q).1.length c1) (G.divide p q).1 ∧ Rd w' (.slice (some ⟨g2, 0, none⟩) p.length c2) (G.divide p q).2 ∧ (G.divide p q).2.length = p.length ∧ Below w.heap.size w w' := by
  have hdq := deg_le q
  have hnq : n < q.length := by omega
  have hqn0 := deg_ix hn
  have hq0 := hq
  obtain ⟨hql, ⟨a, cap, rfl, rfl⟩ | ⟨bq, oq, cq, rfl, hqq0, hqc⟩⟩ := hq.cases
  · simp at hnq
  have HQ := Lib.hid hqc; clear hqc
  have hcn := HQ.out n hnq
  have hbq : bq < w.heap.size := World.block_lt_of_cell? w _ hcn
  have Hn0 := Lib.hid hqn0; clear hqn0
  have Hdq := Lib.hid hn
  obtain ⟨m, hm⟩ : ∃ m : Nat, p.length = n + m := ⟨p.length - n, by omega⟩
  have hm1 : (p.length : Int) - n = m := by omega
  have hm0 : ¬ ((m : Int) < 1) := by omega
  have hdd : G.divide p q = G.divLoop q n (G.inv (G.ix q n)) (G.deg p + 1 - n).toNat (List.replicate m 0, p) := by
    unfold G.divide
    rw [hn]
    simp only [Int.toNat_natCast]
    rw [show (max ((p.length : Int) - (n : Int)) 1).toNat = m by omega]
  obtain ⟨D, hD⟩ : ∃ D, D = G.divide p q := ⟨_, rfl⟩
  rw [← hD]
  rw [hdd] at hD
  have hDl := divLoop_length q n (G.inv (G.ix q n)) (G.deg p + 1 - n).toNat (List.replicate m 0, p)
  rw [← hD] at hDl
  simp only [List.length_replicate] at hDl
  obtain ⟨hD1, hD2⟩ := hDl
  rw [hD1]
  have HD := Lib.hid hD; clear hD hdd
  have HD1 := Lib.hid hD1; clear hD1
  have HD2 := Lib.hid hD2; clear hD2
  have Hm := Lib.hid hm; clear hm
  go_enter Try.func61, Try.ntmps61
  go_wp2_with fail
  refine (degree_any _ q _ hq).mono ?_
  rintro e w' ⟨rfl, rfl⟩
  rw [hn]
  clear hn hdq
  go_wp2_with fail
  refine (ginv_at _ (G.ix q n) _ rfl Hn0.out).mono ?_
  rintro e w1 ⟨rfl, hb1⟩
  obtain ⟨iv, hiv⟩ : ∃ iv, iv = G.inv (G.ix q n) := ⟨_, rfl⟩
  rw [← hiv]
  have Hiv := Lib.hid hiv; clear hiv
  have hp1 := hp.keep hb1
  have hb1s := hb1.size
  go_wp2_with fail
  refine (cloneP_some ad cp p _ hp1).mono ?_
  rintro e w2 ⟨v2, rfl, ho2, hb2⟩
  obtain ⟨g, cap, rfl, hg1, hg2, hcap⟩ := own_some ho2 (by
    rintro rfl
    rcases ho2.2 with ⟨_, h⟩ | ⟨_, _, _, h, _⟩
    · have := Hm.out; omega
    · simp at h)
  have hr2 := Row.cells ho2
  have hB2 := hb1.trans (hb2.mono hb1s)
  have hB2s := hB2.size
  clear ho2 hb2
  go_wp2_with (refine wpList_mkB (base := w.heap.size) rfl _ _ rfl Try.underlying98 Try.infoU8 m rfl rfl rfl rfl (by omega) hB2s ?_; intro w3 hown3 hgr3; have hb3 : Below w.heap.size w w3 := hB2.grown hgr3 hB2s (by simp); have hr3 : Row w3 5 g cap p := hr2.keep (hgr3.block g hg2 (by simp)); have ho3 := Row.cells hown3)
  have hrd3 := hr3.rd (by omega)
  refine (degree_any _ p _ hrd3).mono ?_
  rintro e w' ⟨rfl, rfl⟩
  have hdp := deg_le p
  have hng : ¬ g = w2.heap.size := by omega
  have hwg : w.heap.size ≤ g := by omega
  clear hr2 hB2 hown3 hgr3 hrd3 hp hp1 hb1
  go_wp2_with fail
  go_loopw [11] (fun vk wr => ∃ (i : Int) (S1 S2 : List UInt8), vk = .int .i64 i ∧ -1 ≤ i ∧ i < p.length ∧ Hid (G.divLoop q n iv (i + 1 - n).toNat (S1, S2) = D) ∧ Hid (S1.length = m) ∧ Hid (S2.length = p.length) ∧ Row wr 5 w2.heap.size m S1 ∧ Row wr 5 g cap S2 ∧ Below w.heap.size w wr) (fun vk _ => (intOf vk + 1).toNat)
  case atStart => exact ⟨G.deg p, _, _, rfl, hdp.1, hdp.2, Lib.hid (by rw [HD.out, Hiv.out]), Lib.hid (by simp), Lib.hid rfl, ho3, hr3, hb3⟩
  case round =>
    clear ho3 hr3 hb3 hg2
    obtain ⟨i, S1, S2, rfl, hi1, hi2, HL, HS1, HS2, ho, hr, hb⟩ := hrel
    obtain ⟨wo, rfl⟩ : ∃ wo : World, wo = wr := ⟨_, rfl⟩
    by_cases hlt : (n : Int) ≤ i
    · obtain ⟨c, hc⟩ : ∃ c : Nat, i = ((n + c : Nat) : Int) := ⟨(i - n).toNat, by omega⟩
      subst hc
      have hsub : (((n + c : Nat) : Int)) - (n : Int) = c := by omega
      obtain ⟨t, ht⟩ : ∃ t : Nat, t = n + c := ⟨_, rfl⟩
      rw [← ht] at hsub hi1 hi2 HL hlt ⊢
      have htp : t < p.length := by omega
      have hcm : c < m := by have := Hm.out; omega
      have hS2 := HS2.out
      have hcr := hr.cell t (by omega)
      have hS1 := HS1.out
      have hfo := ho.frozen c hcm
      obtain ⟨f, hf⟩ : ∃ f, f = G.mul (G.ix S2 t) iv := ⟨_, rfl⟩
      have hsto := ho.store c f (by omega)
      have hcell1 : wo.cell? ⟨w2.heap.size, c, none⟩ = some (B (G.ix S1 c)) := ho.cell c (by omega)
      have hr' : Row (wo.setCell ⟨w2.heap.size, c, none⟩ (B f)) 5 g cap S2 := hr.other (by simpa using hng) _
      have hb' : Below w.heap.size w (wo.setCell ⟨w2.heap.size, c, none⟩ (B f)) := hb.setCell hB2s _
      clear hS1 hS2
      have Ht := Lib.hid ht; clear ht
      have HLd := Lib.hid hlt; clear hlt
      have hn1 : ((n : Int) + 1) = ((n + 1 : Nat) : Int) := by omega
      obtain ⟨n1, hn1'⟩ : ∃ n1, n1 = n + 1 := ⟨_, rfl⟩
      rw [← hn1'] at hn1
      have Hn1 := Lib.hid hn1'; clear hn1'
      have Hf := Lib.hid hf; clear hf
      go_wp2_with (go_at_call 72; refine (gmul_at _ _ (G.ix S2 t) iv _ rfl rfl).mono ?_; rintro e w' ⟨rfl, rfl⟩; rw [← Hf.out])
      clear hcr hcell1 hfo ho hr hb
      go_loopw [53] (fun vj wr => ∃ j : Nat, j ≤ n1 ∧ vj = .int .i64 j ∧ Row wr 5 w2.heap.size m (S1.set c f) ∧ Row wr 5 g cap (G.addRow c f q j S2) ∧ Below w.heap.size w wr) (fun vj _ => n1 - (intOf vj).toNat)
      case atStart => exact ⟨0, by omega, rfl, hsto, hr', hb'⟩
      case round =>
        clear hsto hr' hb'
        obtain ⟨j, hj, rfl, ho, hr, hb⟩ := hrel
        obtain ⟨r, hr0⟩ : ∃ r, r = G.addRow c f q j S2 := ⟨_, rfl⟩
        rw [← hr0] at hr
        have hrl : r.length = p.length := by rw [hr0, G.addRow_length, HS2.out]
        have Hr := Lib.hid hr0; clear hr0
        by_cases hlj : j < n1
        · have hjq : j < q.length := by have := Hn1.out; omega
          have hcjp : c + j < p.length := by have := Hn1.out; have := Ht.out; omega
          have hcq : wr.cell? ⟨bq, oq + j, none⟩ = some (B (G.ix q j)) := by rw [hb.cell hbq]; exact HQ.out j hjq
          have hco : wr.cell? ⟨g, c + j, none⟩ = some (B (G.ix r (c + j))) := hr.cell _ (by omega)
          have hfo := hr.frozen (c + j) (by omega)
          have Hst : Hid (Row (wr.drew.setCell ⟨g, c + j, none⟩ (B (G.ix r (c + j) ^^^ G.mul f (G.ix q j)))) 5 g cap (r.set (c + j) (G.ix r (c + j) ^^^ G.mul f (G.ix q j)))) := Lib.hid (hr.drew.store (c + j) _ (by omega))
          have Hot : Hid (Row (wr.drew.setCell ⟨g, c + j, none⟩ (B (G.ix r (c + j) ^^^ G.mul f (G.ix q j)))) 5 w2.heap.size m (S1.set c f)) := Lib.hid (ho.drew.other (by simpa using fun e => hng e.symm) _)
          have Hrl := Lib.hid hrl; clear hrl
          go_wp2_with fail
          have e1 : IntKind.i64.wrap ((c : Int) + (j : Int)) = (c : Int) + (j : Int) := IntWalk.i64_in _ (by omega)
          have e2 : (0 : Int) ≤ (c : Int) + (j : Int) := by omega
          have e3 : (c : Int) + (j : Int) < (p.length : Int) := by omega
          have e4 : ((c : Int) + (j : Int)).toNat = c + j := by omega
          have e5 : IntKind.i64.wrap (c : Int) = (c : Int) := IntWalk.i64_in _ (by omega)
          go_still_tail 16, (by kernel_rfl)
          still_call (flipW (gmul_at _ _ f (G.ix q j) _ rfl rfl))
          repeat still_step
          refine wpStill_nil ?_
          clear e1 e2 e3 e4 e5
          change wpList _ _ _ _ _ wr.drew
          go_wp2_with fail
          go_roundw
          case rel =>
            rw [xorB]
            refine ⟨j + 1, by omega, by go_num, Hot.out, ?_, (hb.drew).setCell hwg _⟩
            have h := Hst.out
            rw [G.addRow, ← Hr.out]
            exact h
          case measure => simp [intOf]; omega
        · have Hrl := Lib.hid hrl; clear hrl
          go_wp2_with fail
          go_roundw
          case rel =>
            obtain rfl : j = n1 := by omega
            refine ⟨(t : Int) - 1, S1.set c f, r, rfl, by omega, by omega, Lib.hid ?_, Lib.hid (by rw [List.length_set, HS1.out]), Hrl, ho, hr, hb⟩
            rw [← HL.out]
            have h1 := Ht.out
            rw [show ((t : Int) + 1 - (n : Int)).toNat = c + 1 by omega, show ((t : Int) - 1 + 1 - (n : Int)).toNat = c by omega, G.divLoop, ← h1]
            unfold G.divStep
            simp only
            rw [show t - n = c by omega, ← Hf.out, ← Hn1.out, ← Hr.out]
          case measure => simp [intOf]
    · go_wp2_with fail
      go_ret2
      have hDS : (S1, S2) = D := by
        rw [← HL.out, show (i + 1 - (n : Int)).toNat = 0 by omega]
        rfl
      rw [← hDS]
      have h1 := HS1.out
      have h2 := HS2.out
      refine ⟨_, _, _, _, rfl, ?_, ?_, h2, hb⟩
      · have := ho.rd (by omega)
        rwa [h1] at this
      · have := hr.rd (by omega)
        rwa [h2] at this
end Go.Proofs.Ytkebnmmcogkldaa
