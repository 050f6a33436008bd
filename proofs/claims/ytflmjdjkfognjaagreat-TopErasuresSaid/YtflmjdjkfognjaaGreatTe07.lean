/- Parts: XPoly XRem XGen XRow -/
import Derived.Test.YtflmjdjkfognjaaGreatTe06
import Derived.Test.YtflmjdjkfognjaaGreatTe05
import Derived.Lib.ConvBytes
import Derived.Lib.AppendZerosOnto
import Derived.Laws.CopyOwn
import Derived.WalkSpells
namespace Go.Proofs.YtflmjdjkfognjaaGreat
open Go.RowKit
set_option linter.unusedVariables false
theorem Tryz.sizeU8 : (Tryz.prog.info? 5).map (·.size) = some 1 := by kernel_rfl
theorem evalStep_any (s c x : UInt8) (b : Nat) (w : World) (hc : w.cell? ⟨b, 0, none⟩ = some (B x)) :
    Calls Tryz.prog 253 #[B s, B c, .pointer (some ⟨b, 0, none⟩)] w fun e w' => e = .returned (B (G.mul s x ^^^ c)) ∧ w = w' := by
  go_enter Tryz.func253, Tryz.ntmps253
  go_wp2_with (go_at_call 201; refine (gmul_at _ _ s x _ rfl rfl).mono ?_; rintro e w' ⟨rfl, rfl⟩)
  go_ret
  exact ⟨retI (xorB _ _), rfl⟩
theorem evalA_snoc (x : UInt8) (p : List UInt8) (c : UInt8) : ∀ s, G.evalA x s (p ++ [c]) = G.mul (G.evalA x s p) x ^^^ c := by
  induction p with
  | nil => intro s; rfl
  | cons d p ih => intro s; exact ih _
theorem take_succ_ix (l : List UInt8) (k : Nat) (h : k < l.length) : l.take (k + 1) = l.take k ++ [G.ix l k] := by
  rw [List.take_succ_eq_append_getElem h]; simp [G.ix, h]
theorem evalA_take (x s : UInt8) (l : List UInt8) (k : Nat) (h : k < l.length) : G.evalA x s (l.take (k + 1)) = G.mul (G.evalA x s (l.take k)) x ^^^ G.ix l k := by
  rw [take_succ_ix l k h, evalA_snoc]
set_option maxRecDepth 100000 in
set_option maxHeartbeats 1000000 in
theorem fold_any (vp : Value) (p : List UInt8) (s x : UInt8) (b : Nat) (w : World) (hp : Rd w vp p) (hc : w.cell? ⟨b, 0, none⟩ = some (B x)) :
    Calls Tryz.prog 252 #[vp, B s, .func (.func 253) #[] #[.pointer (some ⟨b, 0, none⟩)]] w fun e w' => e = .returned (B (G.evalA x s p)) ∧ w = w' := by
  obtain ⟨h0, a, cap, bp, op, rfl, hcap, hcell⟩ := hp
  have HC := Lib.hid hcell; clear hcell
  go_enter Tryz.func252, Tryz.ntmps252
  go_wp2_with fail
  go_loop [1, 11] (fun vs vk => ∃ k : Nat, k ≤ p.length ∧ vk = .int .i64 k ∧ vs = B (G.evalA x s (p.take k))) (fun _ vk => p.length - (intOf vk).toNat)
  case atStart => exact ⟨0, by omega, rfl, rfl⟩
  case round =>
    obtain ⟨k, hk, rfl, rfl⟩ := hrel
    by_cases hlt : k < p.length
    · obtain ⟨ha, hcp⟩ := HC.out k hlt
      have hix := run_idx (P := Tryz.prog) Tryz.underlying123 Tryz.sizeU8 (cap := cap) ha hlt _ rfl w
      have Ha := Lib.hid ha; clear ha
      have Hs := Lib.hid (evalA_take x s p k hlt)
      go_wp2_with (go_at_call 253; refine (evalStep_any _ _ x b _ hc).mono ?_; rintro e w' ⟨rfl, rfl⟩)
      go_round
      case rel => exact ⟨k + 1, by omega, by go_num, by rw [Hs.out]⟩
      case measure => simp [intOf]; omega
    · go_wp2_with fail
      go_ret
      exact ⟨by rw [List.take_of_length_le (by omega)]; rfl, rfl⟩
theorem fold_at (vp : Value) (y : Int) (p : List UInt8) (s x : UInt8) (b : Nat) (w : World) (hp : Rd w vp p) (hc : w.cell? ⟨b, 0, none⟩ = some (B x)) (hy : y = s.toNat) :
    Calls Tryz.prog 252 #[vp, .int .u8 y, .func (.func 253) #[] #[.pointer (some ⟨b, 0, none⟩)]] w fun e w' => e = .returned (B (G.evalA x s p)) ∧ w = w' := by
  subst hy; exact fold_any vp p s x b w hp hc
set_option maxHeartbeats 1000000 in
theorem eval_any (vp : Value) (p : List UInt8) (x : UInt8) (w : World) (hp : Rd w vp p) :
    Calls Tryz.prog 232 #[vp, B x] w fun e w' => e = .returned (B (G.eval p x)) ∧ Below w.heap.size w w' := by
  go_enter Tryz.func232, Tryz.ntmps232
  go_wp2_with fail
  refine (fold_at _ _ p 0 x w.heap.size _ (hp.keep ((Below.refl _ _).alloc (Nat.le_refl _) _)) (by simp [World.cell?_alloc_at]) rfl).mono ?_
  rintro e w1 ⟨rfl, rfl⟩
  go_wp2_with fail
  go_ret
  exact ⟨rfl, (Below.refl _ _).alloc (Nat.le_refl _) _⟩
def trimL (l : List UInt8) : List UInt8 := l.dropWhile (· == 0)
theorem trim_drop (l : List UInt8) (k : Nat) (h : k < l.length) (h0 : G.ix l k = 0) : trimL (l.drop k) = trimL (l.drop (k + 1)) := by
  have e : l.drop k = G.ix l k :: l.drop (k + 1) := by rw [List.drop_eq_getElem_cons h]; simp [G.ix, h]
  rw [e, h0]; simp [trimL]
theorem trim_drop_ne (l : List UInt8) (k : Nat) (h : k < l.length) (h0 : G.ix l k ≠ 0) : trimL (l.drop k) = l.drop k := by
  have e : l.drop k = G.ix l k :: l.drop (k + 1) := by rw [List.drop_eq_getElem_cons h]; simp [G.ix, h]
  rw [e]; simp [trimL, h0]
set_option maxRecDepth 100000 in
set_option maxHeartbeats 1000000 in
theorem trim_any (vp : Value) (p : List UInt8) (w : World) (hp : Rd w vp p) :
    Calls Tryz.prog 199 #[vp] w fun e w' => ∃ v, e = .returned v ∧ Rd w v (trimL p) ∧ w = w' := by
  go_enter Tryz.func199, Tryz.ntmps199
  go_wp2_with fail
  go_loop [0] (fun vs => ∃ l : List UInt8, Rd w vs l ∧ trimL l = trimL p) (fun vs => slen vs)
  case atStart => exact ⟨p, hp, rfl⟩
  case round =>
    obtain ⟨l, hl, ht⟩ := hrel
    have Ht := Lib.hid ht; clear ht
    have hl' := hl
    obtain ⟨h0, a, cap, bp, op, rfl, hcap, hcell⟩ := hl
    have HC := Lib.hid hcell; clear hcell
    by_cases hlt : 0 < l.length
    · obtain ⟨ha, hcp⟩ := HC.out 0 hlt
      have hix := run_idx (P := Tryz.prog) Tryz.underlying123 Tryz.sizeU8 (cap := cap) ha hlt 0 rfl w
      have Ha := Lib.hid ha; clear ha
      simp only [Nat.add_zero] at hcp hix
      obtain ⟨v', hv', _, hcut, _⟩ := run_cut (P := Tryz.prog) Tryz.underlying123 Tryz.sizeU8 hl' 1 l.length hlt (Nat.le_refl _)
      have hcut := hcut rfl 1 w rfl
      rw [List.take_length] at hv'
      by_cases hz : G.ix l 0 = 0
      · have hz1 : (((G.ix l 0).toNat : Int) == 0) = true := by rw [hz]; rfl
        have Hz := Lib.hid hz; clear hz
        have Hv := Lib.hid hv'; clear hv'
        go_wp2_with fail
        go_round
        case rel =>
          have e := trim_drop l 0 hlt Hz.out
          rw [List.drop_zero] at e
          exact ⟨_, Hv.out, by rw [← Ht.out, e]⟩
        case measure =>
          obtain ⟨a', c', e'⟩ := Hv.out.form
          rw [e']
          simp [slen]
          omega
      · have hz1 : (((G.ix l 0).toNat : Int) == 0) = false := by rw [beq_eq_false_iff_ne]; intro e; exact hz (G.ext (by simpa using e))
        have Hz := Lib.hid hz; clear hz
        go_wp2_with fail
        go_ret
        refine ⟨_, rfl, ?_, rfl⟩
        have e := trim_drop_ne l 0 hlt Hz.out
        rw [List.drop_zero] at e
        rw [← Ht.out, e]
        exact hl'
    · go_wp2_with fail
      go_ret
      refine ⟨_, rfl, ?_, rfl⟩
      obtain rfl : l = [] := List.eq_nil_of_length_eq_zero (by omega)
      rw [← Ht.out]
      exact hl'
end Go.Proofs.YtflmjdjkfognjaaGreat
namespace Go.Proofs.YtflmjdjkfognjaaGreat
open Go.RowKit
set_option linter.unusedVariables false
theorem ginv_at (x : Int) (a : UInt8) (w : World) (hx : x = a.toNat) (h0 : a ≠ 0) :
    Calls Tryz.prog 200 #[.int .u8 x] w fun e w' => e = .returned (.tuple #[B (G.inv a), .int .i64 0]) ∧ Below w.heap.size w w' := by
  subst hx
  refine (inv_any a.toNat w (G.lt a)).mono fun e w' ⟨h1, h2⟩ => ⟨?_, h2⟩
  rw [h1, invV_ne (G.toNat_ne h0), B, G.toNat_inv]
theorem trimL_self (q : List UInt8) (h : G.ix q 0 ≠ 0) : trimL q = q := by
  cases q with
  | nil => rfl
  | cons c q => simp [trimL, G.ix] at h ⊢; simp [h]
theorem trimL_head (l : List UInt8) (h : trimL l ≠ []) : G.ix (trimL l) 0 ≠ 0 := by
  induction l with
  | nil => exact (h rfl).elim
  | cons c l ih =>
    unfold trimL at h ⊢
    rw [List.dropWhile_cons] at h ⊢
    split
    · rename_i hc
      rw [if_pos hc] at h
      exact ih h
    · rename_i hc
      simpa [G.ix] using hc
set_option maxRecDepth 100000 in
set_option maxHeartbeats 2000000 in
theorem remainder_ok (vp vq : Value) (p q0 q : List UInt8) (w : World) (hp : Rd w vp p) (hq : Rd w vq q0) (h0 : trimL q0 = q) (hne : q ≠ []) (hps : p.length ≤ 1073741824) (hqs : q.length ≤ 1073741824) :
    Calls Tryz.prog 155 #[vp, vq] w fun e w' => ∃ v, e = .returned (.tuple #[v, .int .i64 0]) ∧ w'.ownsRow w.heap.size 5 1 v (G.rem p q).length (bs (G.rem p q)) ∧ Below w.heap.size w w' := by
  obtain ⟨i0, hi, hz0, hz1, hz2⟩ := info_parts Tryz.infoU8
  have H0 := Lib.hid h0; clear h0
  have hlq : 0 < q.length := List.length_pos_iff.2 hne
  have hq1 : ((q.length : Int) == 0) = false := by rw [beq_eq_false_iff_ne]; omega
  go_enter Tryz.func155, Tryz.ntmps155
  go_wp2_with fail
  refine (trim_any vq q0 _ hq).mono ?_
  rintro e w1 ⟨v, rfl, hv, rfl⟩
  rw [H0.out] at hv
  clear hq
  obtain ⟨hql, ⟨a, cap, rfl, rfl⟩ | ⟨bq, oq, cq, rfl, hq0, hqc⟩⟩ := hv.cases
  · exact (hne rfl).elim
  have HQ := Lib.hid hqc; clear hqc
  have hc0 := HQ.out 0 hlq
  simp only [Nat.add_zero] at hc0
  have hbq : bq < w.heap.size := World.block_lt_of_cell? w _ hc0
  have hn0 : G.ix q 0 ≠ 0 := by rw [← H0.out]; exact trimL_head q0 (by rw [H0.out]; exact hne)
  have Hn0 := Lib.hid hn0; clear hn0
  have hp0 := hp
  obtain ⟨ap, cp, rfl⟩ := hp.form
  go_wp2_with fail
  refine (ginv_at _ (G.ix q 0) _ rfl Hn0.out).mono ?_
  rintro e w1 ⟨rfl, hb1⟩
  obtain ⟨iv, hiv⟩ : ∃ iv, iv = G.inv (G.ix q 0) := ⟨_, rfl⟩
  rw [← hiv]
  have Hiv := Lib.hid hiv; clear hiv
  obtain ⟨m, hm⟩ : ∃ m : Nat, m = q.length - 1 := ⟨_, rfl⟩
  have hm1 : m + 1 ≤ q.length := by omega
  have hm2 : q.length ≤ m + 1 := by omega
  have Hm : Hid ((q.length : Int) - 1 = m) := Lib.hid (by omega)
  have Hm' := Lib.hid hm; clear hm
  have hb1s := hb1.size
  go_wp2_with (first | (refine wpList_mkB (base := w.heap.size) rfl _ _ rfl Tryz.underlying123 Tryz.infoU8 m rfl rfl Hm.out Hm.out (by omega) hb1s ?_; intro w2 hown2 hgr2; have hb2 : Below w.heap.size w w2 := hb1.grown hgr2 hb1s (by simp); have hp2 := hp0.keep hb2) | (refine wpList_appB rfl _ _ rfl Tryz.underlying123 Tryz.infoU8 hown2 rfl hp2 rfl (by omega) hb2.size ?_; intro v3 w3 hown3 hgr3 hnil; obtain ⟨g, cap, rfl, hg1, hg2, hcap⟩ := own_some hown3 (fun h => by have := hnil.1 h; simp at this); have hb3 : Below w.heap.size w w3 := hb2.grown hgr3 hb2.size (by simp [Value.ownBlock]; exact hb1s); clear hgr3 hnil hown2 hgr2))
  rw [← G.pad] at hown3
  obtain ⟨n, hn⟩ : ∃ n : Nat, n = m + p.length := ⟨_, rfl⟩
  rw [← hn] at hown3 hcap ⊢
  have hn1 : n ≤ m + p.length := by omega
  have hn2 : m + p.length ≤ n := by omega
  have hN : Hid ((m : Int) + (p.length : Int) - ((q.length : Int) - 1) = p.length) := Lib.hid (by omega)
  have hN2 : Hid ((n : Int) - ((q.length : Int) - 1) = p.length) := Lib.hid (by omega)
  clear hn
  rw [hN.out]
  go_loopw [37] (fun vk wr => ∃ k : Nat, k ≤ p.length ∧ vk = .int .i64 k ∧ wr.ownsRow w.heap.size 5 1 (.slice (some ⟨g, 0, none⟩) n cap) n (bs (G.divRows q iv k (G.pad m p))) ∧ Below w.heap.size w wr) (fun vk _ => p.length - (intOf vk).toNat)
  case atStart => exact ⟨0, by omega, rfl, hown3, hb3⟩
  case round =>
    clear hown3 hb3 hg2
    obtain ⟨k, hk, rfl, hown, hb⟩ := hrel
    obtain ⟨wo, rfl⟩ : ∃ wo : World, wo = wr := ⟨_, rfl⟩
    have hcl : (G.divRows q iv k (G.pad m p)).length = n := by rw [G.divRows_length, G.pad_length]; omega
    by_cases hlt : k < p.length
    · have hcr : wo.cell? ⟨g, k, none⟩ = some (B (G.ix (G.divRows q iv k (G.pad m p)) k)) := by rw [hown.cellAt _ (by omega), bs_get (by omega)]
      have Hcl := Lib.hid hcl; clear hcl
      go_wp2_with (go_at_call 201; refine (gmul_at _ _ (G.ix (G.divRows q iv k (G.pad m p)) k) iv _ rfl rfl).mono ?_; rintro e w' ⟨rfl, rfl⟩)
      obtain ⟨f, hf⟩ : ∃ f, f = G.mul (G.ix (G.divRows q iv k (G.pad m p)) k) iv := ⟨_, rfl⟩
      rw [← hf]
      have Hf := Lib.hid hf; clear hf hcr
      go_loopw [48] (fun vj wr => ∃ j : Nat, j ≤ q.length ∧ vj = .int .i64 j ∧ wr.ownsRow w.heap.size 5 1 (.slice (some ⟨g, 0, none⟩) n cap) n (bs (G.addRow k f q j (G.divRows q iv k (G.pad m p)))) ∧ Below w.heap.size w wr) (fun vj _ => q.length - (intOf vj).toNat)
      case atStart => exact ⟨0, by omega, rfl, hown, hb⟩
      case round =>
        clear hown hb
        obtain ⟨j, hj, rfl, hown, hb⟩ := hrel
        obtain ⟨r, hr⟩ : ∃ r, r = G.addRow k f q j (G.divRows q iv k (G.pad m p)) := ⟨_, rfl⟩
        rw [← hr] at hown
        have hrl : r.length = n := by rw [hr, G.addRow_length, Hcl.out]
        have Hr := Lib.hid hr; clear hr
        by_cases hlj : j < q.length
        · have hcq : wr.cell? ⟨bq, oq + j, none⟩ = some (B (G.ix q j)) := by rw [hb.cell hbq]; exact HQ.out j hlj
          have hco : wr.cell? ⟨g, k + j, none⟩ = some (B (G.ix r (k + j))) := by
            rw [hown.cellAt _ (by omega), bs_get (by omega)]
          have hfo := hown.frozenAt (k + j)
          have Hrl := Lib.hid hrl; clear hrl
          go_wp2_with fail
          have e1 : IntKind.i64.wrap ((k : Int) + (j : Int)) = (k : Int) + (j : Int) := IntWalk.i64_in _ (by omega)
          have e2 : (0 : Int) ≤ (k : Int) + (j : Int) := by omega
          have e3 : (k : Int) + (j : Int) < (n : Int) := by omega
          have e4 : ((k : Int) + (j : Int)).toNat = k + j := by omega
          go_still_tail 11, (by kernel_rfl)
          still_call (flipW (gmul_at _ _ f (G.ix q j) _ rfl rfl))
          repeat still_step
          refine wpStill_nil ?_
          clear e1 e2 e3 e4
          change wpList _ _ _ _ _ wr.drew
          go_wp2_with fail
          go_roundw
          case rel =>
            refine ⟨j + 1, by omega, by go_num, ?_, (hb.drew).setCell hg1 _⟩
            have h := hown.drew.stored (k + j) (B (G.ix r (k + j) ^^^ G.mul f (G.ix q j)))
            rw [bs_set] at h
            rw [xorB, G.addRow, ← Hr.out]
            exact h.1
          case measure => simp [intOf]; omega
        · have Hrl := Lib.hid hrl; clear hrl
          go_wp2_with fail
          go_roundw
          case rel =>
            refine ⟨k + 1, by omega, by go_num, ?_, hb⟩
            obtain rfl : j = q.length := by omega
            rw [G.divRows, ← Hf.out, ← Hr.out]
            exact hown
          case measure => simp [intOf]; omega
    · obtain rfl : k = p.length := by omega
      obtain ⟨r, hr⟩ : ∃ r, r = G.divRows q iv p.length (G.pad m p) := ⟨_, rfl⟩
      rw [← hr] at hown hcl
      have hrr : Rd wo (.slice (some ⟨g, 0, none⟩) n cap) r := by
        rw [← hcl] at hown ⊢
        exact Rd.ofOwn hown (by omega)
      have Hr := Lib.hid hr; clear hr
      obtain ⟨vc, hvc, _, hcut, _⟩ := run_cut (P := Tryz.prog) Tryz.underlying123 Tryz.sizeU8 hrr p.length r.length (by omega) (Nat.le_refl _)
      rw [List.take_length] at hvc
      have hc1 := fun w' => hcut rfl ((n : Int) - ((q.length : Int) - 1)) w' hN2.out
      have hc2 := fun w' => hcut rfl (p.length : Int) w' rfl
      clear hcut hrr
      have Hcl := Lib.hid hcl; clear hcl
      have hbs := hb.size
      have hoe : (wo.alloc (.cells #[] 5)).ownsRow w.heap.size 5 1 (.slice (some ⟨wo.heap.size, 0, none⟩) 0 0) 0 (bs []) := World.ownsRow_lit wo #[] 0 hbs (by simp) (by simp)
      have hve : Rd (wo.alloc (.cells #[] 5)) vc (r.drop p.length) := hvc.keep ((Below.refl _ _).alloc (Nat.le_refl _) _)
      have hbe : Below w.heap.size w (wo.alloc (.cells #[] 5)) := hb.alloc hbs _
      have hl : (r.drop p.length).length ≤ 140737488351232 := hvc.1
      clear hvc
      go_wp2_with (refine wpList_appB rfl _ _ rfl Tryz.underlying123 Tryz.infoU8 hoe rfl hve rfl (by omega) hbe.size ?_; intro v4 w4 hown4 hgr4 _)
      go_ret2
      have e : r.drop p.length = G.rem p q := by rw [Hr.out, Hiv.out, Hm'.out]; rfl
      rw [List.nil_append, Nat.zero_add, e] at hown4
      exact ⟨_, rfl, hown4, hbe.grown hgr4 hbe.size (by simp [Value.ownBlock]; exact hbs)⟩
end Go.Proofs.YtflmjdjkfognjaaGreat
namespace Go.Proofs.YtflmjdjkfognjaaGreat
open Go.RowKit
set_option linter.unusedVariables false
set_option maxRecDepth 100000 in
set_option maxHeartbeats 1000000 in
theorem generator_ok (n : Nat) (w : World) (hn : n ≤ 32) :
    Calls Tryz.prog 154 #[.int .i64 n] w fun e w' => ∃ v, e = .returned (.tuple #[v, .int .i64 0]) ∧ w'.ownsRow w.heap.size 5 1 v (n + 1) (bs (G.gen n)) ∧ Below w.heap.size w w' := by
  have hd1 : decide ((n : Int) < 0) = false := by rw [decide_eq_false_iff_not]; omega
  have hd2 : decide ((32 : Int) < (n : Int)) = false := by rw [decide_eq_false_iff_not]; omega
  go_enter Tryz.func154, Tryz.ntmps154
  go_wp2_with fail
  have h1 : (w.alloc (.cells #[B 1] 5)).ownsRow w.heap.size 5 1 (.slice (some ⟨w.heap.size, 0, none⟩) 1 1) 1 (bs (G.gen 0)) := World.ownsRow_lit w #[B 1] 1 (Nat.le_refl _) (by simp [maxLen]) (by simp)
  have hb1 : Below w.heap.size w (w.alloc (.cells #[B 1] 5)) := (Below.refl _ _).alloc (Nat.le_refl _) _
  go_loopw [4, 14] (fun vg vk wr => ∃ k : Nat, k ≤ n ∧ vk = .int .i64 k ∧ wr.ownsRow w.heap.size 5 1 vg (G.gen k).length (bs (G.gen k)) ∧ Below w.heap.size w wr) (fun _ vk _ => n - (intOf vk).toNat)
  case atStart => exact ⟨0, by omega, rfl, h1, hb1⟩
  case round =>
    clear h1 hb1
    obtain ⟨k, hk, rfl, hown, hb⟩ := hrel
    by_cases hlt : k < n
    · have hbs := hb.size
      go_wp2_with fail
      refine (exp_at _ (k : Int) _ rfl (by omega) (by omega)).mono ?_
      rintro e w1 ⟨rfl, rfl⟩
      have hE : (Gf.exp (ex (k : Int)) : Nat) = (G.exp k).toNat := by rw [G.toNat_exp]; congr 1; unfold ex; omega
      rw [hE]
      clear hE
      go_wp2_with fail
      have hgl := G.gen_length k
      have ho2 : (wr.alloc (.cells #[B 1, B (G.exp k)] 5)).ownsRow w.heap.size 5 1 (.slice (some ⟨wr.heap.size, 0, none⟩) 2 2) [1, G.exp k].length (bs [1, G.exp k]) := World.ownsRow_lit wr #[B 1, B (G.exp k)] 2 hbs (by simp [maxLen]) (by simp)
      have hb2 : Below w.heap.size w (wr.alloc (.cells #[B 1, B (G.exp k)] 5)) := hb.alloc hbs _
      refine (product_any _ _ (G.gen k) [1, G.exp k] _ ((Rd.ofOwn hown (by omega)).keep ((Below.refl _ _).alloc (Nat.le_refl _) _)) (Rd.ofOwn ho2 (by simp))).mono ?_
      rintro e w2 ⟨v, rfl, ho3, hb3⟩
      have ho4 := own_mono ho3 (hb2.size)
      have hb4 := hb2.trans (hb3.mono hb2.size)
      clear ho3 hb3 ho2 hb2 hown hgl
      go_wp2_with fail
      go_roundw
      case rel => exact ⟨k + 1, by omega, by go_num, ho4, hb4⟩
      case measure => simp [intOf]; omega
    · obtain rfl : k = n := by omega
      rw [G.gen_length] at hown
      go_wp2_with fail
      go_ret2
      exact ⟨_, rfl, hown, hb⟩
end Go.Proofs.YtflmjdjkfognjaaGreat
namespace Go.Proofs.YtflmjdjkfognjaaGreat
open Go.RowKit
set_option linter.unusedVariables false
def Row (w : World) (e g cap : Nat) (l : List UInt8) : Prop :=
  ∃ (cur : Array Value) (fz : Nat × Nat), w.heap[g]? = some (.cells cur e fz) ∧ (fz = (0, 0) ∨ cur.size ≤ fz.1) ∧ l.length ≤ cap ∧ cur.size = cap ∧ cur.toList.take l.length = bs l
section
variable {w : World} {e g cap : Nat} {l : List UInt8}
theorem Row.lt (h : Row w e g cap l) : g < w.heap.size := by
  obtain ⟨cur, fz, hg, _⟩ := h
  exact (Array.getElem?_eq_some_iff.1 hg).1
theorem Row.le (h : Row w e g cap l) : l.length ≤ cap := by
  obtain ⟨cur, fz, hg, _, hl, _⟩ := h
  exact hl
theorem Row.cell (h : Row w e g cap l) (j : Nat) (hj : j < l.length) : w.cell? ⟨g, j, none⟩ = some (B (G.ix l j)) := by
  obtain ⟨cur, fz, hg, _, hl, hs, ht⟩ := h
  rw [cell_of_row w g j cur e fz hg, ← bs_get hj, ← ht, List.getElem?_take, if_pos hj]
  simp
theorem Row.frozen (h : Row w e g cap l) (j : Nat) (hj : j < cap) : w.frozen? ⟨g, j, none⟩ = false := by
  obtain ⟨cur, fz, hg, hf, hl, hs, ht⟩ := h
  obtain ⟨lo, hi⟩ := fz
  simp only [World.frozen?, hg, Bool.and_eq_false_iff, decide_eq_false_iff_not]
  rcases hf with hf | hf
  · simp only [Prod.mk.injEq] at hf
    right; omega
  · simp only at hf
    left; omega
theorem Row.store (h : Row w e g cap l) (j : Nat) (c : UInt8) (hj : j < l.length) : Row (w.setCell ⟨g, j, none⟩ (B c)) e g cap (l.set j c) := by
  obtain ⟨cur, fz, hg, hf, hl, hs, ht⟩ := h
  refine ⟨cur.setIfInBounds j (B c), fz, ?_, by simpa using hf, by simpa using hl, by simpa using hs, ?_⟩
  · rw [setCell_eq_setRow w g j cur e fz (B c) hg]
    exact setRow_heap w g cur _ e fz hg
  · rw [Array.toList_setIfInBounds, List.length_set, List.take_set, ht, bs_set]
theorem Row.keep {w' : World} (h : Row w e g cap l) (hk : w'.heap[g]? = w.heap[g]?) : Row w' e g cap l := by
  obtain ⟨cur, fz, hg, r⟩ := h
  exact ⟨cur, fz, hk.trans hg, r⟩
theorem Row.below {w' : World} (h : Row w e g cap l) (hb : Below w.heap.size w w') : Row w' e g cap l := h.keep (hb.block g h.lt)
theorem Row.rd (h : Row w e g cap l) (hl : l.length ≤ 140737488351232) : Rd w (.slice (some ⟨g, 0, none⟩) l.length cap) l :=
  ⟨hl, _, cap, g, 0, rfl, h.le, fun i hi => ⟨rfl, by rw [Nat.zero_add]; exact h.cell i hi⟩⟩
theorem Row.of_own {base n : Nat} (h : w.ownsRow base e 1 (.slice (some ⟨g, 0, none⟩) n cap) n (bs l)) : Row w e g cap l ∧ n = l.length ∧ base ≤ g := by
  have hl : l.length = n := by have := h.1; simpa [bs_length] using this
  rcases h.2 with ⟨h', _⟩ | ⟨g', cap', cur, h', hb, hg, hn, hm, hs, ht⟩
  · simp at h'
  · simp only [Value.slice.injEq, Option.some.injEq, Addr.mk.injEq, and_true, true_and] at h'
    obtain ⟨rfl, rfl⟩ := h'
    exact ⟨⟨cur, (0, 0), hg, .inl rfl, by omega, by simpa using hs, by rw [hl]; simpa using ht⟩, hl.symm, hb⟩
end
theorem run_storeCells_row (P : Program) (g o : Nat) (t : TypeId) (fz : Nat × Nat) : ∀ (vs : List Value) (i : Nat) (cur : Array Value) (w : World), w.heap[g]? = some (.cells cur t fz) → (fz = (0, 0) ∨ cur.size ≤ fz.1) → o + i + vs.length ≤ cur.size → (∀ v ∈ vs, v.oneCell' = true) →
    (storeCells ⟨g, o, none⟩ vs i).run P w = .ok () (w.setRow g (cur.toList.take (o + i) ++ vs ++ cur.toList.drop (o + i + vs.length)).toArray)
  | [], i, cur, w, hg, _, _, _ => by
    simp only [storeCells, List.append_nil, List.length_nil, Nat.add_zero, List.take_append_drop, Array.toArray_toList]
    rw [setRow_self w g cur t fz hg]
    rfl
  | v :: rest, i, cur, w, hg, hfz, hl, h1 => by
    have hi : o + i < cur.size := by simp at hl; omega
    have hadd : (⟨g, o, none⟩ : Addr).add i = ⟨g, o + i, none⟩ := by unfold Addr.add; split <;> simp_all
    have hcell : w.cell? ⟨g, o + i, none⟩ = some cur[o + i] := by simp [World.cell?, hg, hi]
    have hfro : w.frozen? ⟨g, o + i, none⟩ = false := by
      obtain ⟨lo, hi'⟩ := fz
      simp only [World.frozen?, hg, Bool.and_eq_false_iff, decide_eq_false_iff_not]
      rcases hfz with hf | hf
      · simp only [Prod.mk.injEq] at hf
        right; omega
      · simp only at hf
        left; omega
    have hst : (store ((⟨g, o, none⟩ : Addr).add i) v).run P w = .ok () (w.setRow g (cur.setIfInBounds (o + i) v)) := by
      rw [hadd, run_store P w _ v _ (h1 v (by simp)), hcell]
      simp [hfro, setCell_eq_setRow w g (o + i) cur t fz v hg]
    have ih := run_storeCells_row P g o t fz rest (i + 1) (cur.setIfInBounds (o + i) v) (w.setRow g (cur.setIfInBounds (o + i) v)) (setRow_heap w g cur _ t _ hg) (by simpa using hfz) (by simp at hl ⊢; omega) (fun x hx => h1 x (by simp [hx]))
    simp only [storeCells, Sem.run_bind, hst, Result.andThen_ok, ih, setRow_setRow]
    congr 3
    have e := list_seg_step cur.toList (o + i) v rest (by simp at hl ⊢; omega)
    simpa [Array.toList_setIfInBounds, Nat.add_assoc] using e
section
variable {P : Program}
theorem size_bytesCells (w : World) (e : TypeId) (s : ByteArray) : (Lib.bytesCells w e s).size = grownCap w s.size 0 e := by
  have := grownCap_ge w s.size 0 e
  have hs : s.data.size = s.size := rfl
  simp [Lib.bytesCells]
  omega
theorem wpList_bytes {w : World} {ops : Array Oper} {rest : List Oper} {o : Oper} {a : Act} {Q : Exit → Act → World → Prop} (hg : o.guard = none) (x : Operand) {src dst e : TypeId} (hop : o.op = .convert src dst x)
    (hs : P.underlying src = some .string) (hd : P.underlying dst = some (.slice e)) (he : P.underlying e = some (.int .u8)) {s : ByteArray} (hx : a.eval x = .string s)
    (hK : ∀ w' cap, Row w' e w.heap.size cap s.data.toList → Below w.heap.size w w' → s.size ≤ cap → wpList P ops Q rest (a.put o.dst (.slice (some ⟨w.heap.size, 0, none⟩) s.size cap)) w') : wpList P ops Q (o :: rest) a w := by
  refine wpList_plain hg fun K hK' => ?_
  have hrun := Lib.run_convert_string_bytes (P := P) w src dst e s hs hd he
  unfold Oper.wp
  simp [execOp, hop, hx, hrun, Result.andThen]
  refine hK' _ _ (hK _ _ ?_ ?_ (grownCap_ge w s.size 0 e))
  · refine ⟨Lib.bytesCells w e s, _, Lib.bytesWorld_at_new w e s, .inr (Nat.le_refl _), ?_, size_bytesCells w e s, ?_⟩
    · have := grownCap_ge w s.size 0 e
      simpa using this
    · unfold Lib.bytesCells
      rw [Array.toList_append, List.take_append_of_le_length (by simp), List.take_of_length_le (by simp)]
      simp [bs]
  · exact ⟨rfl, rfl, rfl, by rw [Lib.bytesWorld_size]; omega, fun k hk => Lib.bytesWorld_at_old w e s k hk⟩
theorem zeroCells_u8 (m : Nat) : (Builtin.zeroCells (Value.int .u8 0).cells m).toList = bs (List.replicate m 0) := by
  rw [bs_replicate]
  have hsz : (Builtin.zeroCells (Value.int .u8 0).cells m).size = m := by rw [size_zeroCells]; simp [Value.cells]
  apply List.ext_getElem?
  intro j
  by_cases hj : j < m
  · rw [Array.getElem?_toList, Array.getElem?_eq_getElem (by omega)]
    simp [Builtin.zeroCells, Value.cells, hj, Nat.mod_one]
  · rw [Array.getElem?_toList, Array.getElem?_eq_none (by omega), List.getElem?_eq_none (by simp; omega)]
theorem run_appz {t tn ty e : TypeId} (ht : P.underlying t = some (.slice e)) (htn : P.underlying tn = some (.int .i64)) (h2 : (P.info? e).map (fun i => (i.zero, i.size, i.bytes)) = some (some (.int .u8 0), 1, 1))
    {w : World} {g cap : Nat} {l : List UInt8} (h : Row w e g cap l) (m : Nat) (hb : l.length + m ≤ 1099511627776) :
    ∃ g' cap' w', (Builtin.append_ #[t, tn] ty #[.slice (some ⟨g, 0, none⟩) l.length cap, .int .i64 (m : Int)]).run P w = .ok (.slice (some ⟨g', 0, none⟩) (l.length + m) cap') w' ∧
      Row w' e g' cap' (l ++ List.replicate m 0) ∧ w.grownBy w' (some g) ∧ (g' = g ∨ g' = w.heap.size) := by
  obtain ⟨i0, hi, hz0, hz1, hz2⟩ := info_parts h2
  by_cases hroom : l.length + m ≤ cap
  · obtain ⟨cur, fz, hg, hf, hl, hs, ht'⟩ := id h
    have hst := run_storeCells_row P g l.length e fz (bs (List.replicate m 0)) 0 cur w hg hf (by simp [bs_length]; omega) (bs_one _)
    obtain ⟨C, hC⟩ : ∃ C, C = (cur.toList.take l.length ++ bs (List.replicate m 0) ++ cur.toList.drop (l.length + (bs (List.replicate m 0)).length)).toArray := ⟨_, rfl⟩
    simp only [Nat.add_zero] at hst
    rw [← hC] at hst
    refine ⟨g, cap, w.setRow g C, ?_, ⟨C, fz, setRow_heap w g cur C e fz hg, ?_, by simpa using hroom, ?_, ?_⟩, ⟨rfl, rfl, rfl, by simp, fun k _ hk => setRow_other w g k C (fun e => hk (by rw [e]))⟩, .inl rfl⟩
    · have hw : IntKind.i64.wrap (m : Int) = m := by rw [IntKind.wrap_i64]; omega
      have hneg : ¬ ((m : Int) < 0) := by omega
      have h48i : ¬ (281474976710656 < (m : Int)) := by omega
      by_cases hm : m = 0
      · subst hm
        simp only [List.replicate_zero, bs, List.map_nil] at hst
        simp [Builtin.append_, run_underlying ht, run_underlying htn, sizeOf, typeInfo, hi, hz1, hz2, asInt, asIntOf, hl, Addr.add_lit, IntKind.wrap_i64, hst]
      · simp [Builtin.append_, run_underlying ht, run_underlying htn, sizeOf, typeInfo, zeroValue, hi, hz0, hz1, hz2, asInt, asIntOf, hw, hneg, h48i, hm, hroom, Addr.add_lit, zeroCells_u8, hst]
    · rcases hf with hf | hf
      · exact .inl hf
      · right; rw [hC]; simp [bs_length]; omega
    · rw [hC]; simp [bs_length]; omega
    · rw [bs_append, hC]
      simp only [List.length_append, List.length_replicate]
      rw [ht', List.take_append_of_le_length (by simp [bs_length])]
      rw [List.take_of_length_le (by simp [bs_length])]
  · have hm : 0 < m := by have := h.le; omega
    have hold : (Builtin.firstCells i0.size l.length (.slice (some ⟨g, 0, none⟩) l.length cap)).run P w.drew = .ok (bs l).toArray w.drew :=
      run_firstCells_some (P := P) w.drew i0.size l.length ⟨g, 0, none⟩ l.length cap (bs l) (by rw [bs_length, hz1, Nat.mul_one]) (fun j u hu => by
        have hj : j < l.length := by have := (List.getElem?_eq_some_iff.1 hu).1; rwa [bs_length] at this
        rw [bs_get hj] at hu
        obtain rfl := Option.some.inj hu
        rw [Addr.add_lit, Nat.zero_add]
        exact h.cell j hj)
    have hfit : Builtin.nextslicecap (l.length + m) cap * i0.bytes ≤ 281474976710656 := growslice_fits (by omega) (by rw [hz2]; omega)
    have hr := Lib.run_append_grow_zeros (P := P) w t tn ty e i0 _ .i64 .i64 ht htn hi hz0 (some ⟨g, 0, none⟩) l.length cap (bs l) hold m hm (by omega) (by omega) (by omega) (by rw [hz2]; omega) hfit
    refine ⟨_, _, _, hr, ⟨_, (0, 0), heap_alloc_new w.drew _, .inl rfl, ?_, ?_, ?_⟩, ⟨rfl, rfl, rfl, by simp, fun k hk _ => Below.heap_alloc w.drew _ k hk⟩, .inr rfl⟩
    · have := grownCap_ge w (l.length + m) cap e
      simpa using this
    · have := grownCap_ge w (l.length + m) cap e
      simp only [Array.size_append, List.size_toArray, bs_length, size_zeroCells]
      simp [Value.cells]
      omega
    · rw [Array.toList_append, Array.toList_append, zeroCells_u8, bs_append]
      simp only [List.length_append, List.length_replicate]
      rw [List.take_append_of_le_length (by simp [bs_length])]
      rw [List.take_of_length_le (by simp [bs_length])]
theorem wpList_appz {ops : Array Oper} {rest : List Oper} {o : Oper} {a : Act} {Q : Exit → Act → World → Prop} {w : World} (hg : o.guard = none) (s x : Operand) {t tn : TypeId}
    (hop : o.op = .call { callee := .builtin .append, args := #[s, x], argTypes := #[t, tn] }) {e : TypeId}
    (ht : P.underlying t = some (.slice e)) (htn : P.underlying tn = some (.int .i64)) (h2 : (P.info? e).map (fun i => (i.zero, i.size, i.bytes)) = some (some (.int .u8 0), 1, 1))
    {g cap n : Nat} {l : List UInt8} (h : Row w e g cap l) (hn : n = l.length) (hv : a.eval s = .slice (some ⟨g, 0, none⟩) n cap) (m : Nat) (hx : a.eval x = .int .i64 (m : Int)) (hb : l.length + m ≤ 1099511627776)
    (hK : ∀ g' cap' w', Row w' e g' cap' (l ++ List.replicate m 0) → w.grownBy w' (some g) → (g' = g ∨ g' = w.heap.size) → wpList P ops Q rest (a.put o.dst (.slice (some ⟨g', 0, none⟩) (n + m) cap')) w') : wpList P ops Q (o :: rest) a w := by
  subst hn
  refine wpList_plain hg fun K hK' => ?_
  obtain ⟨g', cap', w', hrun, r1, r2, r3⟩ := run_appz (ty := o.type) ht htn h2 h m hb
  unfold Oper.wp
  simp [execOp, hop, resolve, invoke, builtin, hv, hx, hrun, Result.andThen]
  exact hK' _ _ (hK g' cap' w' r1 r2 r3)
end
end Go.Proofs.YtflmjdjkfognjaaGreat
