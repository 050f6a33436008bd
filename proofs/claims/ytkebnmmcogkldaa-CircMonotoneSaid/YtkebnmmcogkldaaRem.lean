/- Walks of Remainder and its reference. -/
import Derived.Test.YtkebnmmcogkldaaPoly
namespace Go.Proofs.Ytkebnmmcogkldaa
open Go.RowKit
set_option linter.unusedVariables false

theorem ginv_at (x : Int) (a : UInt8) (w : World) (hx : x = a.toNat) (h0 : a ≠ 0) :
    Calls Try.prog 85 #[.int .u8 x] w fun e w' => e = .returned (.tuple #[B (G.inv a), .int .i64 0]) ∧ Below w.heap.size w w' := by
  subst hx
  refine (inv_any a.toNat w (G.lt a)).mono fun e w' ⟨h1, h2⟩ => ⟨?_, h2⟩
  rw [h1, invV_ne (G.toNat_ne h0), B, G.toNat_inv]
theorem rginv_at (x : Int) (a : UInt8) (w : World) (hx : x = a.toNat) (h0 : a ≠ 0) :
    Calls Try.prog 89 #[.int .u8 x] w fun e w' => e = .returned (.tuple #[B (G.inv a), .int .i64 0]) ∧ w = w' := by
  subst hx
  refine (rinv_any a.toNat w (G.lt a)).mono fun e w' ⟨h1, h2⟩ => ⟨?_, h2⟩
  rw [h1, invV_ne (G.toNat_ne h0), B, G.toNat_inv]
theorem trimL_self (q : List UInt8) (h : G.ix q 0 ≠ 0) : trimL q = q := by
  cases q with
  | nil => rfl
  | cons c q => simp [trimL, G.ix] at h ⊢; simp [h]

theorem trimL_head (l : List UInt8) (h : trimL l ≠ []) : G.ix (trimL l) 0 ≠ 0 := by
  induction l with
  | nil => exact (h rfl).elim
  | cons c l ih =>
    unfold trimL at h ⊢
    rw [List.dropWhile_cons] at h ⊢
    split
    · rename_i hc
      rw [if_pos hc] at h
      exact ih h
    · rename_i hc
      simpa [G.ix] using hc

set_option maxRecDepth 100000 in
set_option maxHeartbeats 1000000 in
theorem remainder_nil (vp vq : Value) (p q : List UInt8) (w : World) (hp : Rd w vp p) (hq : Rd w vq q) (h0 : trimL q = []) :
    Calls Try.prog 56 #[vp, vq] w fun e w' => e = .returned (.tuple #[.slice none 0 0, .int .i64 1]) ∧ Below w.heap.size w w' := by
  have H0 := Lib.hid h0; clear h0
  go_enter Try.func56, Try.ntmps56
  go_wp2_with fail
  refine (trim_any vq q _ hq).mono ?_
  rintro e w1 ⟨v, rfl, hv, rfl⟩
  rw [H0.out] at hv
  obtain ⟨a, c, rfl⟩ := hv.form
  simp only [List.length_nil]
  go_wp2_with fail
  go_ret2
  exact ⟨rfl, Below.refl _ _⟩

set_option maxRecDepth 100000 in
set_option maxHeartbeats 2000000 in
theorem remainder_ok (vp vq : Value) (p q0 q : List UInt8) (w : World) (hp : Rd w vp p) (hq : Rd w vq q0) (h0 : trimL q0 = q) (hne : q ≠ []) (hps : p.length ≤ 1073741824) (hqs : q.length ≤ 1073741824) :
    Calls Try.prog 56 #[vp, vq] w fun e w' => ∃ v, e = .returned (.tuple #[v, .int .i64 0]) ∧ w'.ownsRow w.heap.size 5 1 v (G.rem p q).length (bs (G.rem p q)) ∧ Below w.heap.size w w' := by
  obtain ⟨i0, hi, hz0, hz1, hz2⟩ := info_parts Try.infoU8
  have H0 := Lib.hid h0; clear h0
  have hlq : 0 < q.length := List.length_pos_iff.2 hne
  have hq1 : ((q.length : Int) == 0) = false := by rw [beq_eq_false_iff_ne]; omega
  go_enter Try.func56, Try.ntmps56
  go_wp2_with fail
  refine (trim_any vq q0 _ hq).mono ?_
  rintro e w1 ⟨v, rfl, hv, rfl⟩
  rw [H0.out] at hv
  clear hq
  obtain ⟨hql, ⟨a, cap, rfl, rfl⟩ | ⟨bq, oq, cq, rfl, hq0, hqc⟩⟩ := hv.cases
  · exact (hne rfl).elim
  have HQ := Lib.hid hqc; clear hqc
  have hc0 := HQ.out 0 hlq
  simp only [Nat.add_zero] at hc0
  have hbq : bq < w.heap.size := World.block_lt_of_cell? w _ hc0
  have hn0 : G.ix q 0 ≠ 0 := by rw [← H0.out]; exact trimL_head q0 (by rw [H0.out]; exact hne)
  have Hn0 := Lib.hid hn0; clear hn0
  have hp0 := hp
  obtain ⟨ap, cp, rfl⟩ := hp.form
  go_wp2_with fail
  refine (ginv_at _ (G.ix q 0) _ rfl Hn0.out).mono ?_
  rintro e w1 ⟨rfl, hb1⟩
  obtain ⟨iv, hiv⟩ : ∃ iv, iv = G.inv (G.ix q 0) := ⟨_, rfl⟩
  rw [← hiv]
  have Hiv := Lib.hid hiv; clear hiv
  obtain ⟨m, hm⟩ : ∃ m : Nat, m = q.length - 1 := ⟨_, rfl⟩
  have hm1 : m + 1 ≤ q.length := by omega
  have hm2 : q.length ≤ m + 1 := by omega
  have Hm : Hid ((q.length : Int) - 1 = m) := Lib.hid (by omega)
  have Hm' := Lib.hid hm; clear hm
  have hb1s := hb1.size
  go_wp2_with (first | (refine wpList_mkB (base := w.heap.size) rfl _ _ rfl Try.underlying59 Try.infoU8 m rfl rfl Hm.out Hm.out (by omega) hb1s ?_; intro w2 hown2 hgr2; have hb2 : Below w.heap.size w w2 := hb1.grown hgr2 hb1s (by simp); have hp2 := hp0.keep hb2) | (refine wpList_appB rfl _ _ rfl Try.underlying59 Try.infoU8 hown2 rfl hp2 rfl (by omega) hb2.size ?_; intro v3 w3 hown3 hgr3 hnil; obtain ⟨g, cap, rfl, hg1, hg2, hcap⟩ := own_some hown3 (fun h => by have := hnil.1 h; simp at this); have hb3 : Below w.heap.size w w3 := hb2.grown hgr3 hb2.size (by simp [Value.ownBlock]; exact hb1s); clear hgr3 hnil hown2 hgr2))
  rw [← G.pad] at hown3
  obtain ⟨n, hn⟩ : ∃ n : Nat, n = m + p.length := ⟨_, rfl⟩
  rw [← hn] at hown3 hcap ⊢
  have hn1 : n ≤ m + p.length := by omega
  have hn2 : m + p.length ≤ n := by omega
  have hN : Hid ((m : Int) + (p.length : Int) - ((q.length : Int) - 1) = p.length) := Lib.hid (by omega)
  have hN2 : Hid ((n : Int) - ((q.length : Int) - 1) = p.length) := Lib.hid (by omega)
  clear hn
  rw [hN.out]
  go_loopw [37] (fun vk wr => ∃ k : Nat, k ≤ p.length ∧ vk = .int .i64 k ∧ wr.ownsRow w.heap.size 5 1 (.slice (some ⟨g, 0, none⟩) n cap) n (bs (G.divRows q iv k (G.pad m p))) ∧ Below w.heap.size w wr) (fun vk _ => p.length - (intOf vk).toNat)
  case atStart => exact ⟨0, by omega, rfl, hown3, hb3⟩
  case round =>
    clear hown3 hb3 hg2
    obtain ⟨k, hk, rfl, hown, hb⟩ := hrel
    obtain ⟨wo, rfl⟩ : ∃ wo : World, wo = wr := ⟨_, rfl⟩
    have hcl : (G.divRows q iv k (G.pad m p)).length = n := by rw [G.divRows_length, G.pad_length]; omega
    by_cases hlt : k < p.length
    · have hcr : wo.cell? ⟨g, k, none⟩ = some (B (G.ix (G.divRows q iv k (G.pad m p)) k)) := by rw [hown.cellAt _ (by omega), bs_get (by omega)]
      have Hcl := Lib.hid hcl; clear hcl
      go_wp2_with (go_at_call 72; refine (gmul_at _ _ (G.ix (G.divRows q iv k (G.pad m p)) k) iv _ rfl rfl).mono ?_; rintro e w' ⟨rfl, rfl⟩)
      obtain ⟨f, hf⟩ : ∃ f, f = G.mul (G.ix (G.divRows q iv k (G.pad m p)) k) iv := ⟨_, rfl⟩
      rw [← hf]
      have Hf := Lib.hid hf; clear hf hcr
      go_loopw [48] (fun vj wr => ∃ j : Nat, j ≤ q.length ∧ vj = .int .i64 j ∧ wr.ownsRow w.heap.size 5 1 (.slice (some ⟨g, 0, none⟩) n cap) n (bs (G.addRow k f q j (G.divRows q iv k (G.pad m p)))) ∧ Below w.heap.size w wr) (fun vj _ => q.length - (intOf vj).toNat)
      case atStart => exact ⟨0, by omega, rfl, hown, hb⟩
      case round =>
        clear hown hb
        obtain ⟨j, hj, rfl, hown, hb⟩ := hrel
        obtain ⟨r, hr⟩ : ∃ r, r = G.addRow k f q j (G.divRows q iv k (G.pad m p)) := ⟨_, rfl⟩
        rw [← hr] at hown
        have hrl : r.length = n := by rw [hr, G.addRow_length, Hcl.out]
        have Hr := Lib.hid hr; clear hr
        by_cases hlj : j < q.length
        · have hcq : wr.cell? ⟨bq, oq + j, none⟩ = some (B (G.ix q j)) := by rw [hb.cell hbq]; exact HQ.out j hlj
          have hco : wr.cell? ⟨g, k + j, none⟩ = some (B (G.ix r (k + j))) := by
            rw [hown.cellAt _ (by omega), bs_get (by omega)]
          have hfo := hown.frozenAt (k + j)
          have Hrl := Lib.hid hrl; clear hrl
          go_wp2_with fail
          have e1 : IntKind.i64.wrap ((k : Int) + (j : Int)) = (k : Int) + (j : Int) := IntWalk.i64_in _ (by omega)
          have e2 : (0 : Int) ≤ (k : Int) + (j : Int) := by omega
          have e3 : (k : Int) + (j : Int) < (n : Int) := by omega
          have e4 : ((k : Int) + (j : Int)).toNat = k + j := by omega
          go_still_tail 11, (by kernel_rfl)
          still_call (flipW (gmul_at _ _ f (G.ix q j) _ rfl rfl))
          repeat still_step
          refine wpStill_nil ?_
          clear e1 e2 e3 e4
          change wpList _ _ _ _ _ wr.drew
          go_wp2_with fail
          go_roundw
          case rel =>
            refine ⟨j + 1, by omega, by go_num, ?_, (hb.drew).setCell hg1 _⟩
            have h := hown.drew.stored (k + j) (B (G.ix r (k + j) ^^^ G.mul f (G.ix q j)))
            rw [bs_set] at h
            rw [xorB, G.addRow, ← Hr.out]
            exact h.1
          case measure => simp [intOf]; omega
        · have Hrl := Lib.hid hrl; clear hrl
          go_wp2_with fail
          go_roundw
          case rel =>
            refine ⟨k + 1, by omega, by go_num, ?_, hb⟩
            obtain rfl : j = q.length := by omega
            rw [G.divRows, ← Hf.out, ← Hr.out]
            exact hown
          case measure => simp [intOf]; omega
    · obtain rfl : k = p.length := by omega
      obtain ⟨r, hr⟩ : ∃ r, r = G.divRows q iv p.length (G.pad m p) := ⟨_, rfl⟩
      rw [← hr] at hown hcl
      have hrr : Rd wo (.slice (some ⟨g, 0, none⟩) n cap) r := by
        rw [← hcl] at hown ⊢
        exact Rd.ofOwn hown (by omega)
      have Hr := Lib.hid hr; clear hr
      obtain ⟨vc, hvc, _, hcut, _⟩ := run_cut (P := Try.prog) Try.underlying59 Try.sizeU8 hrr p.length r.length (by omega) (Nat.le_refl _)
      rw [List.take_length] at hvc
      have hc1 := fun w' => hcut rfl ((n : Int) - ((q.length : Int) - 1)) w' hN2.out
      have hc2 := fun w' => hcut rfl (p.length : Int) w' rfl
      clear hcut hrr
      have Hcl := Lib.hid hcl; clear hcl
      have hbs := hb.size
      have hoe : (wo.alloc (.cells #[] 5)).ownsRow w.heap.size 5 1 (.slice (some ⟨wo.heap.size, 0, none⟩) 0 0) 0 (bs []) := World.ownsRow_lit wo #[] 0 hbs (by simp) (by simp)
      have hve : Rd (wo.alloc (.cells #[] 5)) vc (r.drop p.length) := hvc.keep ((Below.refl _ _).alloc (Nat.le_refl _) _)
      have hbe : Below w.heap.size w (wo.alloc (.cells #[] 5)) := hb.alloc hbs _
      have hl : (r.drop p.length).length ≤ 140737488351232 := hvc.1
      clear hvc
      go_wp2_with (refine wpList_appB rfl _ _ rfl Try.underlying59 Try.infoU8 hoe rfl hve rfl (by omega) hbe.size ?_; intro v4 w4 hown4 hgr4 _)
      go_ret2
      have e : r.drop p.length = G.rem p q := by rw [Hr.out, Hiv.out, Hm'.out]; rfl
      rw [List.nil_append, Nat.zero_add, e] at hown4
      exact ⟨_, rfl, hown4, hbe.grown hgr4 hbe.size (by simp [Value.ownBlock]; exact hbs)⟩

set_option maxRecDepth 100000 in
set_option maxHeartbeats 1000000 in
theorem rremainder_nil (vp vq : Value) (p q : List UInt8) (w : World) (hp : Rd w vp p) (hq : Rd w vq q) (h0 : trimL q = []) :
    Calls Try.prog 58 #[vp, vq] w fun e w' => e = .returned (.tuple #[.slice none 0 0, .int .i64 1]) ∧ Below w.heap.size w w' := by
  have H0 := Lib.hid h0; clear h0
  go_enter Try.func58, Try.ntmps58
  go_wp2_with fail
  refine (rtrim_any vq q _ hq).mono ?_
  rintro e w1 ⟨v, rfl, hv, hb⟩
  rw [H0.out] at hv
  obtain ⟨a, c, rfl⟩ := hv.form
  simp only [List.length_nil]
  go_wp2_with fail
  go_ret2
  exact ⟨rfl, hb⟩

set_option maxRecDepth 100000 in
set_option maxHeartbeats 2000000 in
theorem rremainder_ok (vp vq : Value) (p q0 q : List UInt8) (w : World) (hp : Rd w vp p) (hq : Rd w vq q0) (h0 : trimL q0 = q) (hne : q ≠ []) (hps : p.length ≤ 1073741824) (hqs : q.length ≤ 1073741824) :
    Calls Try.prog 58 #[vp, vq] w fun e w' => ∃ v, e = .returned (.tuple #[v, .int .i64 0]) ∧ w'.ownsRow w.heap.size 5 1 v (G.rem p q).length (bs (G.rem p q)) ∧ Below w.heap.size w w' := by
  have H0 := Lib.hid h0; clear h0
  have hlq : 0 < q.length := List.length_pos_iff.2 hne
  have hq1 : ((q.length : Int) == 0) = false := by rw [beq_eq_false_iff_ne]; omega
  go_enter Try.func58, Try.ntmps58
  go_wp2_with fail
  refine (rtrim_any vq q0 _ hq).mono ?_
  rintro e w1 ⟨v, rfl, hv, hb1⟩
  rw [H0.out] at hv
  clear hq
  obtain ⟨hql, ⟨a, cap, rfl, rfl⟩ | ⟨bq, oq, cq, rfl, hq0, hqc⟩⟩ := hv.cases
  · exact (hne rfl).elim
  have HQ := Lib.hid hqc; clear hqc
  have hc0 := HQ.out 0 hlq
  simp only [Nat.add_zero] at hc0
  have hbq : bq < w1.heap.size := World.block_lt_of_cell? w1 _ hc0
  have hn0 : G.ix q 0 ≠ 0 := by rw [← H0.out]; exact trimL_head q0 (by rw [H0.out]; exact hne)
  have Hn0 := Lib.hid hn0; clear hn0
  have hp1 := hp.keep hb1
  obtain ⟨ap, cp, rfl⟩ := hp.form
  go_wp2_with fail
  refine (rginv_at _ (G.ix q 0) _ rfl Hn0.out).mono ?_
  rintro e w1' ⟨rfl, rfl⟩
  obtain ⟨iv, hiv⟩ : ∃ iv, iv = G.inv (G.ix q 0) := ⟨_, rfl⟩
  rw [← hiv]
  have Hiv := Lib.hid hiv; clear hiv
  have hb1s := hb1.size
  have hoe : (w1.alloc (.cells #[] 5)).ownsRow w1.heap.size 5 1 (.slice (some ⟨w1.heap.size, 0, none⟩) 0 0) 0 (bs []) := World.ownsRow_lit w1 #[] 0 (Nat.le_refl _) (by simp) (by simp)
  have hpe : Rd (w1.alloc (.cells #[] 5)) (.slice ap p.length cp) p := hp1.keep ((Below.refl _ _).alloc (Nat.le_refl _) _)
  have hbe : Below w1.heap.size w1 (w1.alloc (.cells #[] 5)) := (Below.refl _ _).alloc (Nat.le_refl _) _
  go_wp2_with (refine wpList_appB rfl _ _ rfl Try.underlying59 Try.infoU8 hoe rfl hpe rfl (by omega) hbe.size ?_; intro v3 w3 hown3 hgr3 hnil; obtain ⟨g, cap, rfl, hg1, hg2, hcap⟩ := own_some hown3 (fun h => by have := hnil.1 h; simp at this); have hb3 : Below w1.heap.size w1 w3 := hbe.grown hgr3 hbe.size (by simp [Value.ownBlock]); clear hgr3 hnil hoe)
  rw [List.nil_append, Nat.zero_add] at hown3
  rw [Nat.zero_add] at hcap
  go_loopw [8] (fun vr wr => ∃ t l c off : Nat, vr = .slice (some ⟨g, off, none⟩) l c ∧ l ≤ c ∧ Hid (t + l = p.length) ∧ Hid (t ≤ p.length - (q.length - 1)) ∧ Hid (0 < l → off = t) ∧ wr.ownsRow w1.heap.size 5 1 (.slice (some ⟨g, 0, none⟩) p.length cap) p.length (bs (G.divRows q iv t p)) ∧ Below w1.heap.size w1 wr) (fun vr _ => slen vr)
  case atStart => exact ⟨0, p.length, cap, 0, rfl, hcap, Lib.hid (by omega), Lib.hid (by omega), Lib.hid (fun _ => rfl), hown3, hb3⟩
  case round =>
    clear hown3 hb3 hg2
    obtain ⟨t, l, c, off, rfl, hlc, Ht, Hm, Ho, hown, hb⟩ := hrel
    obtain ⟨wo, rfl⟩ : ∃ wo : World, wo = wr := ⟨_, rfl⟩
    have hcl : (G.divRows q iv t p).length = p.length := G.divRows_length _ _ _ _
    have hlp : l ≤ p.length := by have := Ht.out; omega
    by_cases hge : q.length ≤ l
    · obtain rfl : off = t := Ho.out (by omega)
      have htl : off < p.length := by have := Ht.out; omega
      have hcr : wo.cell? ⟨g, off, none⟩ = some (B (G.ix (G.divRows q iv off p) off)) := by rw [hown.cellAt _ (by omega), bs_get (by omega)]
      have Hcl := Lib.hid hcl; clear hcl
      go_wp2_with (go_at_call 90; refine (rgmul_at _ _ (G.ix (G.divRows q iv off p) off) iv _ rfl rfl).mono ?_; rintro e w' ⟨rfl, rfl⟩)
      obtain ⟨f, hf⟩ : ∃ f, f = G.mul (G.ix (G.divRows q iv off p) off) iv := ⟨_, rfl⟩
      rw [← hf]
      have Hf := Lib.hid hf; clear hf hcr
      go_loopw [10] (fun vj wr => ∃ j : Nat, j ≤ q.length ∧ vj = .int .i64 j ∧ wr.ownsRow w1.heap.size 5 1 (.slice (some ⟨g, 0, none⟩) p.length cap) p.length (bs (G.addRow off f q j (G.divRows q iv off p))) ∧ Below w1.heap.size w1 wr) (fun vj _ => q.length - (intOf vj).toNat)
      case atStart => exact ⟨0, by omega, rfl, hown, hb⟩
      case round =>
        clear hown hb
        obtain ⟨j, hj, rfl, hown, hb⟩ := hrel
        obtain ⟨r, hr⟩ : ∃ r, r = G.addRow off f q j (G.divRows q iv off p) := ⟨_, rfl⟩
        rw [← hr] at hown
        have hrl : r.length = p.length := by rw [hr, G.addRow_length, Hcl.out]
        have Hr := Lib.hid hr; clear hr
        by_cases hlj : j < q.length
        · have hcq : wr.cell? ⟨bq, oq + j, none⟩ = some (B (G.ix q j)) := by rw [hb.cell hbq]; exact HQ.out j hlj
          have hoj : off + j < p.length := by have := Ht.out; omega
          have hco : wr.cell? ⟨g, off + j, none⟩ = some (B (G.ix r (off + j))) := by
            rw [hown.cellAt _ (by omega), bs_get (by omega)]
          have hfo := hown.frozenAt (off + j)
          have Hrl := Lib.hid hrl; clear hrl
          go_wp2_with fail
          have e1 : (j : Int) < (l : Int) := by omega
          have e2 : (j : Int) < (q.length : Int) := by omega
          go_still_tail 14, (by kernel_rfl)
          still_call (flipW (rgmul_at _ _ f (G.ix q j) _ rfl rfl))
          repeat still_step
          refine wpStill_nil ?_
          clear e1 e2
          change wpList _ _ _ _ _ wr.drew
          go_wp2_with fail
          go_roundw
          case rel =>
            refine ⟨j + 1, by omega, by go_num, ?_, (hb.drew).setCell hg1 _⟩
            have h := hown.drew.stored (off + j) (B (G.ix r (off + j) ^^^ G.mul f (G.ix q j)))
            rw [bs_set] at h
            rw [xorB, G.addRow, ← Hr.out]
            exact h.1
          case measure => simp [intOf]; omega
        · have Hrl := Lib.hid hrl; clear hrl
          go_wp2_with fail
          go_roundw
          case rel =>
            refine ⟨off + 1, l - 1, c - 1, (if c = 1 then off else off + 1), by split <;> rfl, by omega, Lib.hid (by have := Ht.out; omega), Lib.hid (by have := Ht.out; omega), Lib.hid (fun h => by rw [if_neg (by omega)]), ?_, hb⟩
            obtain rfl : j = q.length := by omega
            rw [G.divRows, ← Hf.out, ← Hr.out]
            exact hown
          case measure => simp [slen]; omega
    · have ht : t = p.length - (q.length - 1) := by have := Ht.out; have := Hm.out; omega
      obtain ⟨r, hr⟩ : ∃ r, r = G.divRows q iv t p := ⟨_, rfl⟩
      rw [← hr] at hown hcl
      have hll : (r.drop t).length = l := by rw [List.length_drop, hcl]; have := Ht.out; omega
      have hrr : Rd wo (.slice (some ⟨g, off, none⟩) l c) (r.drop t) := by
        refine ⟨by rw [hll]; omega, _, c, g, off, by rw [hll], by rw [hll]; exact hlc, fun i hi => ⟨rfl, ?_⟩⟩
        rw [hll] at hi
        rw [Ho.out (by omega), ix_drop, hown.cellAt _ (by have := Ht.out; omega), bs_get (by have := Ht.out; omega)]
      have Hr := Lib.hid hr; clear hr
      have HT := Lib.hid ht; clear ht
      have Hcl := Lib.hid hcl; clear hcl
      have Hll := Lib.hid hll; clear hll
      have hbs := hb.size
      obtain ⟨m, hm⟩ : ∃ m : Nat, m = q.length - 1 - l := ⟨_, rfl⟩
      have hmb : m ≤ 1073741824 := by omega
      have HM : Hid ((q.length : Int) - 1 - (l : Int) = m) := Lib.hid (by omega)
      have Hm' := Lib.hid hm; clear hm
      go_wp2_with (first | (refine wpList_mkB (base := w1.heap.size) rfl _ _ rfl Try.underlying59 Try.infoU8 m rfl rfl HM.out HM.out (by omega) hbs ?_; intro w4 hown4 hgr4; have hb4 : Below w1.heap.size w1 w4 := hb.grown hgr4 hbs (by simp); have hrr4 := hrr.keepW (fun k hk => hgr4.block k hk (by simp))) | (refine wpList_appB rfl _ _ rfl Try.underlying59 Try.infoU8 hown4 rfl hrr4 rfl (by rw [Hll.out]; omega) hb4.size ?_; intro v5 w5 hown5 hgr5 _))
      go_ret2
      have e : List.replicate m 0 ++ r.drop t = G.rem p q := by
        rw [G.rem_eq, Hm'.out, Hr.out, Hiv.out]
        have := Ht.out
        unfold G.rrem G.pad
        rw [← HT.out, show p.length - t = l by omega]
      have e2 : m + (r.drop t).length = (G.rem p q).length := by rw [← e]; simp
      rw [e, e2] at hown5
      refine ⟨_, rfl, ?_, (hb1.trans ((hb4.grown hgr5 hb4.size (by simp [Value.ownBlock]; exact hbs)).mono hb1s))⟩
      exact own_mono hown5 hb1s
end Go.Proofs.Ytkebnmmcogkldaa
