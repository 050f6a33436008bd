/- The walk of solve of the reference of chapter 4. -/
import Derived.Test.YtbijdhdapejjhaaSol3
import Derived.Deep.RegionWith
import Derived.Deep.DeepMust
import Derived.Deep.CutBlock
import Derived.Deep.DeepCutAuto
import Derived.RegionTactic
import Derived.ChangeAlike
namespace Go.Proofs.Ytbijdhdapejjhaa
open Go.RowKit
set_option linter.unusedVariables false

/-- the powers in equation 'i' -/
def exps (N i : Nat) (A : List Nat) : List UInt8 := A.map fun t => G.exp (i * (N - 1 - t))
theorem eqs_take (p : List UInt8) (n : Nat) (A : List Nat) (i : Nat) (hi : i < n) : (G.eqs p n A).take (i + 1) = (G.eqs p n A).take i ++ [exps p.length i A ++ [G.eval p (G.exp i)]] := by
  have h : i < (G.eqs p n A).length := by rw [G.eqs_length]; exact hi
  rw [List.take_succ_eq_append_getElem h]
  simp [G.eqs, exps]
theorem exps_take (N i : Nat) (A : List Nat) (k : Nat) (hk : k < A.length) : (exps N i A).take (k + 1) = (exps N i A).take k ++ [G.exp (i * (N - 1 - A[k]))] := by
  have h : k < (exps N i A).length := by simpa [exps] using hk
  rw [List.take_succ_eq_append_getElem h]
  simp [exps]

theorem rexp_nat (x : Int) (q : Nat) (w : World) (hx : x = q) (hq : q ≤ 1000000) :
    Calls Try.prog 38 #[.int .i64 x] w fun e w' => e = .returned (B (G.exp q)) ∧ w = w' := by
  subst hx
  refine (rexp_any (q : Int) w (by omega) (by omega)).mono ?_
  rintro e w' ⟨rfl, rfl⟩
  refine ⟨?_, rfl⟩
  rw [B, G.toNat_exp]
  have : Gf.exp (ex (q : Int)) = Gf.exp q := by
    have e : ex (q : Int) = q % 255 := by unfold ex; omega
    rw [e, Gf.exp_mod]
  rw [this]

/-- a pivot in column 'k' -/
def PivQ (R : List (List UInt8)) (k n : Nat) (v : Value) : Prop := ∃ q : Nat, v = .int .i64 q ∧ k ≤ q ∧ q < n ∧ G.ix (G.rw_ R q) k ≠ 0
/-- the rows as they lie in memory -/
def MemQ (w : World) (g : Nat) (R : List (List UInt8)) (wx : World) : Prop := RowsM wx g R ∧ Below w.heap.size w wx

/-- the rows below 't' are cleared in column 'k' -/
def StepQ (w : World) (g : Nat) (R0 : List (List UInt8)) (n m k t : Nat) (wx : World) : Prop :=
  ∃ R, RowsM wx g R ∧ G.Elim n m R0 R k ∧ G.ix (G.rw_ R k) k = 1 ∧ (∀ s, s < t → s ≠ k → G.ix (G.rw_ R s) k = 0) ∧ Below w.heap.size w wx

/-- the word with the first changes -/
def chgT (N : Nat) (A : List Nat) (y : Nat → UInt8) (t i : Nat) : UInt8 := G.sumN (fun k => if A.getD k N = i then y k else 0) t
/-- nothing is near, if a further row is not 0 -/
theorem none_near {p : List UInt8} {n : Nat} {l : List Int} {R : List (List UInt8)} {t : Nat} (hE : G.Elim n l.length (G.eqs p n (G.posL l)) R l.length) (hp : G.posB p.length l = true) (hl : l.length ≤ n) (h1 : l.length ≤ t) (h2 : t < n) (h3 : G.ix (G.rw_ R t) l.length ≠ 0) : ∀ c, ¬ G.Near p c n l := by
  rintro c ⟨g1, g2, g3⟩
  rw [← G.posL_length l] at hE h1 h3 hl
  exact h3 ((G.solved hE hl (G.posL_nodup hp) (G.posL_lt hp) c g1 (fun i hi => (G.mem_posL hp i).2 (g3 i hi)) ((G.validB_iff c n).1 g2).2).1 t h1 h2)
theorem is_near {p O : List UInt8} {n : Nat} {l : List Int} {R : List (List UInt8)} (hs : G.shapedB p n = true) (hE : G.Elim n l.length (G.eqs p n (G.posL l)) R l.length) (hp : G.posB p.length l = true) (hl : l.length ≤ n)
    (hz : ∀ s, l.length ≤ s → s < n → G.ix (G.rw_ R s) l.length = 0) (hO : O.length = p.length) (hix : ∀ j, j < p.length → G.ix O j = G.ix p j ^^^ chgT p.length (G.posL l) (fun k => G.ix (G.rw_ R k) l.length) l.length j) : G.Near p O n l := by
  have hO2 : O = G.fixL p (G.posL l) (fun k => G.ix (G.rw_ R k) (G.posL l).length) := by
    apply G.ext_ix (by rw [G.fixL_length, hO])
    intro j hj
    rw [hO] at hj
    unfold G.fixL
    rw [hix j hj, G.ix_xorL (by rw [G.chgL_length]), G.ix_chgL _ _ _ _ hj, G.posL_length]
    unfold chgT G.chg
    rw [G.posL_length]
  rw [← G.posL_length l] at hE hl hz
  obtain ⟨k1, k2⟩ := G.solved_ok hE hl (G.posL_lt hp) hz
  rw [← hO2] at k1 k2
  exact ⟨hO, (G.validB_iff O n).2 ⟨by rw [G.shapedB_len _ hO]; exact hs, k1⟩, fun i hi => (G.mem_posL hp i).1 (k2 i hi)⟩

def SolveOut (p : List UInt8) (n : Nat) (l : List Int) (w : World) (e : Ending) (w' : World) : Prop :=
  ((∃ c, e = .returned (.tuple #[.string (str c), .bool true]) ∧ G.Near p c n l) ∨ (e = .returned (.tuple #[.string (str []), .bool false]) ∧ ∀ c, ¬ G.Near p c n l)) ∧ Below w.heap.size w w'

set_option maxRecDepth 100000 in
set_option maxHeartbeats 8000000 in
theorem solve_any (p : List UInt8) (n : Nat) (ve : Value) (l : List Int) (w : World) (h : G.shapedB p n = true) (hv : RdI w ve l) (hp : G.posB p.length l = true) (hl : l.length ≤ n) :
    Calls Try.prog 48 #[.string (str p), .int .i64 n, ve] w (SolveOut p n l w) := by
  obtain ⟨h1, h2, h3, h4, h5⟩ := (G.shapedB_iff p n).1 h
  have hs := str_size p
  have hn16 : n ≤ 16 := by omega
  have hn1 : 1 ≤ n := by omega
  have HSh := Lib.hid h; clear h
  have hpat := fun k (hk : k < l.length) => G.posN_at p.length l hk hp
  have HPa := Lib.hid hpat; clear hpat
  have HP := Lib.hid hp; clear hp
  obtain ⟨_, ⟨va, vc, b, off, rfl, hcap, hcell⟩, hrng⟩ := id hv
  have HC := Lib.hid hcell; clear hcell hrng
  obtain ⟨N, hN⟩ : ∃ N, N = p.length := ⟨_, rfl⟩
  rw [← hN] at hs h1 h2 h5
  have HN := Lib.hid hN; clear hN
  have hAl := G.posL_length l
  obtain ⟨A, hA⟩ : ∃ A, A = G.posL l := ⟨_, rfl⟩
  rw [← hA] at hAl
  have HA := Lib.hid hA; clear hA
  have HAl := Lib.hid hAl; clear hAl
  obtain ⟨m, hm⟩ : ∃ m, m = l.length := ⟨_, rfl⟩
  go_enter Try.func48, Try.ntmps48
  go_wp2_with fail
  have hbld0 : Bld (w.alloc (.cells #[] 26)) w.heap.size (.slice (some ⟨w.heap.size, 0, none⟩) 0 0) ((G.eqs p n A).take 0) := ⟨[], World.ownsRow_lit w #[] 0 (Nat.le_refl _) (by simp) (by simp), rfl, fun i hi => by simp at hi⟩
  have hb0 := (Below.refl w.heap.size w).alloc (Nat.le_refl _) (.cells #[] 26)
  refine (rsyndromes_own p n _ HSh.out).mono ?_
  rintro e w1 ⟨vs, rfl, hsyo, hb1⟩
  have hsy : RdT w1 vs (G.synd p n) := RdT.ofOwn hsyo (G.synd_length p n) (by omega) (by omega)
  clear hsyo
  have hbld1 := hbld0.below hb1
  have hB1 := hb0.trans (hb1.mono (by simp))
  clear hbld0 hb0 hb1
  obtain ⟨sa, sc, rfl⟩ := hsy.rd.form
  have hsl : (G.synd p n).length = n := G.synd_length p n
  rw [hsl] at hsy ⊢
  obtain ⟨S, hS⟩ : ∃ S, S = G.synd p n := ⟨_, rfl⟩
  rw [← hS] at hsy hsl
  have HS := Lib.hid hS; clear hS
  have HSl := Lib.hid hsl; clear hsl
  go_wp2_with fail
  go_loopw [8, 11] (fun v8 vi wr => ∃ i : Nat, i ≤ n ∧ vi = .int .i64 i ∧ Bld wr w.heap.size v8 ((G.eqs p n A).take i) ∧ RdT wr (.slice sa n sc) S ∧ Below w.heap.size w wr) (fun _ vi _ => n - (intOf vi).toNat)
  case atStart => exact ⟨0, by omega, rfl, hbld1, hsy, hB1⟩
  case round =>
    clear hbld1 hsy hB1
    obtain ⟨i, hi, rfl, hbld, hsy, hb⟩ := hrel
    obtain ⟨wo, rfl⟩ : ∃ wo : World, wo = wr := ⟨_, rfl⟩
    by_cases hlt : i < n
    · have ho0 : (wo.alloc (.cells #[] 5)).ownsRow wo.heap.size 5 1 (.slice (some ⟨wo.heap.size, 0, none⟩) 0 0) 0 (bs ((exps N i A).take 0)) := World.ownsRow_lit wo #[] 0 (Nat.le_refl _) (by simp) (by simp)
      have hb0 : Below wo.heap.size wo (wo.alloc (.cells #[] 5)) := (Below.refl _ _).alloc (Nat.le_refl _) _
      have hbs := hb.size
      go_wp2_with fail
      go_loopw [12, 13] (fun vr vk wr => ∃ k : Nat, k ≤ l.length ∧ vk = .int .i64 k ∧ wr.ownsRow wo.heap.size 5 1 vr k (bs ((exps N i A).take k)) ∧ Below wo.heap.size wo wr) (fun _ vk _ => l.length - (intOf vk).toNat)
      case atStart => exact ⟨0, by omega, rfl, ho0, hb0⟩
      case round =>
        clear ho0 hb0
        obtain ⟨k, hk, rfl, ho, hbi⟩ := hrel
        have hbw := hb.trans (hbi.mono hbs)
        by_cases hlk : k < l.length
        · obtain ⟨hax, hcp⟩ := HC.out k hlk
          have hcw : wr.cell? ⟨b, off + k, none⟩ = some (.int .i64 (ixI l k)) := (hbw.cell (p := ⟨b, off + k, none⟩) (World.block_lt_of_cell? w _ hcp)).trans hcp
          have hix := run_idx (P := Try.prog) Try.underlying34 Try.sizeInt (cap := vc) hax hlk _ rfl wr
          have Ha := Lib.hid hax; clear hax hcp
          obtain ⟨g5, g6, _⟩ := HPa.out k hlk
          rw [← HN.out] at g6
          obtain ⟨t, ht⟩ : ∃ t : Nat, ixI l k = t := ⟨(ixI l k).toNat, by omega⟩
          have HT : Hid ((exps N i A).take (k + 1) = (exps N i A).take k ++ [G.exp (i * (N - 1 - t))]) := Lib.hid (by
            rw [exps_take N i A k (by rw [HAl.out]; exact hlk)]
            congr 4
            simp only [HA.out, G.posL, List.getElem_map]
            rw [← G.ixI_get hlk, ht]; simp)
          rw [ht] at hcw g5 g6
          have Ht := Lib.hid ht; clear ht
          obtain ⟨r, hr⟩ : ∃ r : Nat, r = N - 1 - t := ⟨_, rfl⟩
          have hr1 : (N : Int) - 1 - (t : Int) = (r : Int) := by omega
          have hr2 : r ≤ 255 := by omega
          rw [← hr] at HT
          have hir : i * r ≤ 16 * 255 := Nat.mul_le_mul (by omega) hr2
          have hirw : IntKind.i64.wrap ((i : Int) * (r : Int)) = ((i * r : Nat) : Int) := by rw [show (i : Int) * (r : Int) = ((i * r : Nat) : Int) by simp]; exact IntWalk.i64_in _ (by omega)
          clear hr
          go_wp2_with fail
          refine (rexp_nat _ (i * r) _ (by first | rfl | exact hirw | simp) (by omega)).mono ?_
          rintro e w' ⟨rfl, rfl⟩
          obtain ⟨cx, hcx⟩ : ∃ cx, cx = G.exp (i * r) := ⟨_, rfl⟩
          rw [← hcx] at HT ⊢
          clear hcx hir hirw hr1 hr2
          have hbis := hbi.size
          have hrd1 : Rd (wr.alloc (.cells #[B cx] 5)) (.slice (some ⟨wr.heap.size, 0, none⟩) 1 1) [cx] := Rd.ofOwn' (World.ownsRow_lit wr #[B cx] 1 (Nat.le_refl _) (by simp [maxLen]) (by simp)) (by simp)
          have ho6 := own_keep ho ((Below.refl wr.heap.size wr).alloc (Nat.le_refl _) (.cells #[B cx] 5))
          have hb6 := hbi.alloc hbis (.cells #[B cx] 5)
          have hb6s := hb6.size
          clear ho hbi hbw hcw hix
          go_wp2_with (refine wpList_appB rfl _ _ rfl Try.underlying26 Try.infoU8 ho6 rfl hrd1 rfl (by simp; omega) hb6s ?_; intro v7 w7 hown7 hgr7 _)
          have hb7 := hb6.grown hgr7 hb6s (ownBlock_ge ho6)
          rw [List.length_singleton, ← HT.out] at hown7
          clear hb6 ho6 hrd1 hgr7
          go_roundw
          case rel => exact ⟨k + 1, by omega, by go_num, hown7, hb7⟩
          case measure => simp [intOf]; omega
        · obtain rfl : k = l.length := by omega
          have hel : (exps N i A).length = l.length := by simp [exps, HAl.out]
          rw [List.take_of_length_le (by omega)] at ho
          have hsyr := (hsy.below hbi).rd
          obtain ⟨_, sa', scap, sb, soff, hse, _, hscell⟩ := hsyr
          simp only [Value.slice.injEq] at hse
          obtain ⟨rfl, hnS, rfl⟩ := hse
          clear hnS
          obtain ⟨hsae, hscw⟩ := hscell i (by rw [HSl.out]; exact hlt)
          have hsix := run_idx (P := Try.prog) Try.underlying26 Try.sizeU8 (cap := sc) hsae hlt _ rfl wr
          clear hscell hsae
          have hSi : G.ix S i = G.eval p (G.exp i) := by rw [HS.out, G.ix_synd p n i hlt]
          obtain ⟨cs, hcs⟩ : ∃ cs, cs = G.ix S i := ⟨_, rfl⟩
          rw [← hcs] at hscw hSi
          clear hcs
          have HT : Hid ((G.eqs p n A).take (i + 1) = (G.eqs p n A).take i ++ [exps N i A ++ [cs]]) := Lib.hid (by rw [hSi, HN.out]; exact eqs_take p n A i hlt)
          clear hSi
          have hbis := hbi.size
          have hrd1 : Rd (wr.alloc (.cells #[B cs] 5)) (.slice (some ⟨wr.heap.size, 0, none⟩) 1 1) [cs] := Rd.ofOwn' (World.ownsRow_lit wr #[B cs] 1 (Nat.le_refl _) (by simp [maxLen]) (by simp)) (by simp)
          have ho6 := own_keep ho ((Below.refl wr.heap.size wr).alloc (Nat.le_refl _) (.cells #[B cs] 5))
          have hb6 := hbi.alloc hbis (.cells #[B cs] 5)
          have hb6s := hb6.size
          have htl : ((G.eqs p n A).take i).length ≤ 1000 := by rw [List.length_take]; omega
          clear ho hbi hbw
          go_wp2_with (first | (refine wpList_appB rfl _ _ rfl Try.underlying26 Try.infoU8 ho6 rfl hrd1 rfl (by simp; omega) hb6s ?_; intro v7 w7 hown7 hgr7 _; have hb7 := hb6.grown hgr7 hb6s (ownBlock_ge ho6); have hb7s := hb7.size; have hrow7 : RdT w7 v7 (exps N i A ++ [cs]) := RdT.ofOwn hown7 (by simp [hel]) (by simp) (by simp; omega); obtain ⟨ca7, bb7, rfl⟩ := hrow7.form (show _ = l.length + 1 by simp [hel]); have hbld8 := (hbld.below hb7).below ((Below.refl w7.heap.size w7).alloc (Nat.le_refl _) (.cells #[.slice (some ⟨bb7, 0, none⟩) (l.length + 1) ca7] 26)); have hrow8 := hrow7.below ((Below.refl w7.heap.size w7).alloc (Nat.le_refl _) (.cells #[.slice (some ⟨bb7, 0, none⟩) (l.length + 1) ca7] 26)); have hB8 := (hb.trans (hb7.mono hbs)).alloc (Nat.le_trans hbs hb7s) (.cells #[.slice (some ⟨bb7, 0, none⟩) (l.length + 1) ca7] 26); have hB8s := hB8.size; have hsy8 := (hsy.below hb7).below ((Below.refl w7.heap.size w7).alloc (Nat.le_refl _) (.cells #[.slice (some ⟨bb7, 0, none⟩) (l.length + 1) ca7] 26)); clear hb6 ho6 hrd1 hgr7 hown7) | (at_builtin; go_must (refine wpList_appR rfl _ _ rfl Try.underlying82 Try.infoRow hbld8 rfl hrow8 (g := w7.heap.size) (by simp) rfl htl hB8s ?_; intro v9 w9 hbld9 hgr9)))
          have hB9 := hB8.grown hgr9 hB8s (hbld8.ge)
          have hsy9 := hsy8.keepG hgr9 hbld8.t26
          rw [← HT.out] at hbld9
          clear hbld8 hrow8 hB8 hgr9 hsy8 hbld hsy hb hrow7 hb7
          go_roundw
          case rel => exact ⟨i + 1, by omega, by go_num, hbld9, hsy9, hB9⟩
          case measure => simp [intOf]; omega
    · obtain rfl : i = n := by omega
      rw [List.take_of_length_le (by rw [G.eqs_length]; exact Nat.le_refl _)] at hbld
      obtain ⟨g, cap8, rfl, hgw, hcap8, hM⟩ := hbld.toM (by rw [G.eqs_length]; omega)
      rw [G.eqs_length] at hcap8 ⊢
      have hE0 : G.Elim i l.length (G.eqs p i A) (G.eqs p i A) 0 := ⟨G.eqs_length _ _ _, fun t ht => by rw [G.rw_eqs _ _ _ _ ht]; simp [HAl.out], fun y => Iff.rfl, fun j hj => by omega⟩
      obtain ⟨R0, hR0⟩ : ∃ R0, R0 = G.eqs p i A := ⟨_, rfl⟩
      rw [← hR0] at hM hE0
      have HR0 := Lib.hid hR0; clear hR0
      have HE0 := Lib.hid hE0; clear hE0
      clear hbld hsy
      go_wp2_with fail
      go_loopw [14] (fun vk wr => ∃ (k : Nat) (R : List (List UInt8)), k ≤ l.length ∧ vk = .int .i64 k ∧ RowsM wr g R ∧ Hid (G.Elim i l.length R0 R k) ∧ Below w.heap.size w wr) (fun vk _ => l.length - (intOf vk).toNat)
      case atStart => exact ⟨0, R0, by omega, rfl, hM, HE0, hb⟩
      case round =>
        clear hM hb
        obtain ⟨k, R, hk, rfl, hM, HE, hb⟩ := hrel
        obtain ⟨wk, rfl⟩ : ∃ wk : World, wk = wr := ⟨_, rfl⟩
        have hRl := HE.out.len
        have HRl := Lib.hid hRl; clear hRl
        by_cases hkl : k < l.length
        · go_upto_block 6 with fail
          go_cut [15] (fun s15 wx => wx = wk ∧ PivQ R k i s15)
          case first =>
            go_wp2_with fail
            go_loop [15, 16] (fun v15 v16 => ∃ (t : Nat) (pv : Int), k ≤ t ∧ t ≤ i ∧ v16 = .int .i64 t ∧ v15 = .int .i64 pv ∧ -1 ≤ pv ∧ pv < i ∧ Hid ((pv = -1 ∧ ∀ s, k ≤ s → s < t → G.ix (G.rw_ R s) k = 0) ∨ (∃ q : Nat, pv = q ∧ k ≤ q ∧ q < i ∧ G.ix (G.rw_ R q) k ≠ 0))) (fun _ v16 => i - (intOf v16).toNat)
            case atStart => exact ⟨k, -1, by omega, by omega, rfl, rfl, by omega, by omega, Lib.hid (.inl ⟨rfl, fun s h1 h2 => by omega⟩)⟩
            case round =>
              obtain ⟨t, pv, hkt, hti, rfl, rfl, hpv1, hpv2, HPv⟩ := hrel
              by_cases hgo : t < i ∧ pv < 0
              · obtain ⟨hti', hpv⟩ := hgo
                obtain rfl : pv = -1 := by omega
                obtain ⟨v, hcv, hrv⟩ := hM.cell t (by rw [HRl.out]; exact hti')
                obtain ⟨cv, bv, rfl, hcbk, _⟩ := hrv.byte (HE.out.row t hti') k (by omega)
                have hti2 : t < i := hti'
                have hkl2 : k < l.length + 1 := by omega
                clear hrv
                by_cases hc : G.ix (G.rw_ R t) k = 0
                · have hbz : (((G.ix (G.rw_ R t) k).toNat : Int) == 0) = true := by rw [hc]; rfl
                  have hbz' : (((G.ix (G.rw_ R t) k).toNat : Int) != 0) = false := by rw [hc]; rfl
                  have Hc := Lib.hid hc; clear hc
                  go_wp2_with fail
                  go_round
                  case rel =>
                    refine ⟨t + 1, -1, by omega, by omega, by go_num, rfl, by omega, by omega, Lib.hid (.inl ⟨rfl, fun s h1 h2 => ?_⟩)⟩
                    by_cases e : s = t
                    · rw [e]; exact Hc.out
                    · rcases HPv.out with ⟨_, h⟩ | ⟨q, h, _⟩
                      · exact h s h1 (by omega)
                      · omega
                  case measure => simp [intOf]; omega
                · have hbz : (((G.ix (G.rw_ R t) k).toNat : Int) == 0) = false := by rw [byte_beq0]; simpa using hc
                  have hbz' : (((G.ix (G.rw_ R t) k).toNat : Int) != 0) = true := by unfold bne; rw [hbz]; rfl
                  have Hc := Lib.hid hc; clear hc
                  go_wp2_with fail
                  go_round
                  case rel => exact ⟨t + 1, t, by omega, by omega, by go_num, rfl, by omega, by omega, Lib.hid (.inr ⟨t, rfl, by omega, hti2, Hc.out⟩)⟩
                  case measure => simp [intOf]; omega
              · have hq : ∃ q : Nat, pv = q ∧ k ≤ q ∧ q < i ∧ G.ix (G.rw_ R q) k ≠ 0 := by
                  rcases HPv.out with ⟨h6, h7⟩ | h6
                  · exfalso
                    have hti3 : t = i := by omega
                    subst hti3
                    have hE := HE.out
                    rw [← HAl.out, HR0.out] at hE
                    have hAp : ∀ s ∈ A, s < p.length := by rw [HA.out]; exact G.posL_lt HP.out
                    exact G.pivot hE (by rw [HAl.out]; exact hkl) (by rw [← HN.out]; exact h2) (by rw [HAl.out]; exact hl) (by rw [HA.out]; exact G.posL_nodup HP.out) hAp (fun s h8 h9 => h7 s h8 h9)
                  · exact h6
                rcases Nat.lt_or_ge t i with hti3 | hti3
                all_goals
                  obtain ⟨q, rfl, hkq, hqi, hne⟩ := hq
                  have Hne := Lib.hid hne; clear hne HPv
                  have hqn : ¬ ((q : Int) < 0) := by omega
                  go_wp2_with fail
                  go_meet
                  exact ⟨rfl, q, rfl, hkq, hqi, Hne.out⟩
          case rest =>
            obtain ⟨rfl, q, rfl, hkq, hqi, hne⟩ := hcut
            have Hne := Lib.hid hne; clear hne
            have hqn : ¬ ((q : Int) < 0) := by omega
            have hki : k < i := by omega
            obtain ⟨vk, hvk, hrk⟩ := hM.cell k (by rw [HRl.out]; exact hki)
            obtain ⟨vq, hvq, hrq⟩ := hM.cell q (by rw [HRl.out]; exact hqi)
            have hfk := hM.frozen k
            have hfq := hM.frozen q
            obtain ⟨ck, bk, rfl⟩ := hrk.form (HE.out.row k hki)
            obtain ⟨cq, bq, rfl⟩ := hrq.form (HE.out.row q hqi)
            have hM1 := hM.store k (by rw [HRl.out]; exact hki) hrq
            have hM2 := hM1.store q (by rw [List.length_set, HRl.out]; exact hqi) (hM.setRdT k _ hrk)
            have hEs := HE.out.swap hki hkq hqi
            have HE2 : Hid (G.Elim i l.length R0 ((R.set k (G.rw_ R q)).set q (G.rw_ R k)) k) := Lib.hid hEs
            have HNz : Hid (G.ix (G.rw_ ((R.set k (G.rw_ R q)).set q (G.rw_ R k)) k) k ≠ 0) := Lib.hid (by
              have e := G.rw_swp R (k := k) (p := q) (by rw [HRl.out]; exact hki) (by rw [HRl.out]; exact hqi) k
              unfold G.swp at e
              rw [e]
              split
              · next h8 => rw [h8]; have := Hne.out; rwa [← h8] at this ⊢
              · rw [if_pos rfl]; exact Hne.out)
            clear hEs
            obtain ⟨v', hv', _⟩ := hM1.cell q (by rw [List.length_set, HRl.out]; exact hqi)
            have hf' := hM1.frozen q
            have hgw2 := hgw
            have hB2 := ((hb.setCell (p := ⟨g, k, none⟩) hgw (.slice (some ⟨bq, 0, none⟩) (l.length + 1) cq)).setCell (p := ⟨g, q, none⟩) hgw (.slice (some ⟨bk, 0, none⟩) (l.length + 1) ck)).drew
            have hM3 := hM2.drew
            clear hM1 hM2 hM
            obtain ⟨R2, hR2⟩ : ∃ R2, R2 = (R.set k (G.rw_ R q)).set q (G.rw_ R k) := ⟨_, rfl⟩
            rw [← hR2] at hM3 HE2 HNz
            clear hR2 HE Hne HRl
            have hki' : (k : Int) < i := by omega
            have hqi' : (q : Int) < i := by omega
            go_upto_region 23 with fail
            go_cut [] (fun wx => MemQ w g R2 wx)
            case first =>
              go_region
              all_goals
                go_wp2_with fail
                go_meet
                exact ⟨hM3, hB2⟩
            case rest =>
              obtain ⟨hM3, hB2⟩ := hcut
              obtain ⟨w4, rfl⟩ : ∃ w4 : World, w4 = wc := ⟨_, rfl⟩
              have hRl2 := HE2.out.len
              obtain ⟨v5, hcv5, hrv5⟩ := hM3.cell k (by rw [hRl2]; exact hki)
              obtain ⟨c5, b5, rfl, hcb5, _⟩ := hrv5.byte (HE2.out.row k hki) k (by omega)
              have hkl2 : (k : Int) < (l.length : Int) + 1 := by omega
              have HR2l := Lib.hid hRl2; clear hRl2
              obtain ⟨x5, hx5⟩ : ∃ x5, x5 = G.ix (G.rw_ R2 k) k := ⟨_, rfl⟩
              rw [← hx5] at hcb5
              have HX5 := Lib.hid hx5; clear hx5
              go_wp2_with fail
              refine (rginv_at _ x5 _ rfl (by rw [HX5.out]; exact HNz.out)).mono ?_
              rintro e w' ⟨rfl, rfl⟩
              obtain ⟨iv, hiv⟩ : ∃ iv, iv = G.inv x5 := ⟨_, rfl⟩
              rw [← hiv]
              have HIv := Lib.hid hiv; clear hiv
              have hfr5 := hM3.frozen k
              go_wp2_with fail
              refine (scaled_any _ _ (G.rw_ R2 k) iv _ hrv5.rd rfl (by rw [HE2.out.row k hki]; omega)).mono ?_
              rintro e w6 ⟨v6, rfl, ho6, hb6⟩
              rw [HE2.out.row k hki] at ho6
              have hrv6 : RdT w6 v6 (G.scale iv (G.rw_ R2 k)) := RdT.ofOwn ho6 (by rw [G.scale_length]; exact HE2.out.row k hki) (by omega) (by omega)
              have hM6 := hM3.below hb6
              have hB6 := hB2.trans (hb6.mono hB2.size)
              obtain ⟨v6', hcv6, _⟩ := hM6.cell k (by rw [HR2l.out]; exact hki)
              have hfr6 := hM6.frozen k
              obtain ⟨c6, b6, rfl⟩ := hrv6.form (show _ = l.length + 1 by rw [G.scale_length]; exact HE2.out.row k hki)
              have hM7 := hM6.store k (by rw [HR2l.out]; exact hki) hrv6
              have hB7 := hB6.setCell (p := ⟨g, k, none⟩) hgw (.slice (some ⟨b6, 0, none⟩) (l.length + 1) c6)
              have HE7 : Hid (G.Elim i l.length R0 (R2.set k (G.scale iv (G.rw_ R2 k))) k) := Lib.hid (HE2.out.scale hki iv (by rw [HIv.out, HX5.out]; exact G.inv_ne HNz.out))
              have HK7 : Hid (G.ix (G.rw_ (R2.set k (G.scale iv (G.rw_ R2 k))) k) k = 1) := Lib.hid (by
                rw [G.rw_set_self _ _ _ (by rw [HR2l.out]; exact hki), G.ix_scale, HIv.out, HX5.out]
                exact G.inv_mul HNz.out)
              obtain ⟨R7, hR7⟩ : ∃ R7, R7 = R2.set k (G.scale iv (G.rw_ R2 k)) := ⟨_, rfl⟩
              rw [← hR7] at hM7 HE7 HK7
              clear hR7 hM6 hM3 hrv5 hrv6 ho6 hb6 hB6 hB2 HE2 HNz HIv HX5 hcv5 hcb5 hfr5
              go_wp2_with fail
              generalize w6.setCell ⟨g, k, none⟩ (.slice (some ⟨b6, 0, none⟩) (l.length + 1) c6) = w7 at hM7 hB7 ⊢
              clear hcv6 hfr6 hfk hfq hvk hvq hf' hv'
              go_loopw [19] (fun v19 wr => ∃ (t : Nat) (R : List (List UInt8)), t ≤ i ∧ v19 = .int .i64 t ∧ RowsM wr g R ∧ Hid (G.Elim i l.length R0 R k) ∧ Hid (G.ix (G.rw_ R k) k = 1) ∧ Hid (∀ s, s < t → s ≠ k → G.ix (G.rw_ R s) k = 0) ∧ Below w.heap.size w wr) (fun v19 _ => i - (intOf v19).toNat)
              case atStart => exact ⟨0, R7, by omega, rfl, hM7, HE7, HK7, Lib.hid (fun s h8 => by omega), hB7⟩
              case round =>
                clear hM7 hB7 HE7 HK7
                obtain ⟨t5, R5, ht5, rfl, hM, HE5, HK5, HZ5, hb5⟩ := hrel
                have hRl5 := HE5.out.len
                by_cases ht5i : t5 < i
                · go_upto_block 9 with fail
                  go_cut [] (fun wx => StepQ w g R0 i l.length k (t5 + 1) wx)
                  case first =>
                    by_cases htk : t5 = k
                    · have htb : ((t5 : Int) == (k : Int)) = true := by rw [htk]; simp
                      have htb' : ((t5 : Int) != (k : Int)) = false := by rw [htk]; simp
                      have Htk := Lib.hid htk; clear htk
                      clear hRl5
                      go_wp2_with fail
                      go_meet
                      exact ⟨R5, hM, HE5.out, HK5.out, fun s h8 h9 => HZ5.out s (by have := Htk.out; omega) h9, hb5⟩
                    · have htb : ((t5 : Int) == (k : Int)) = false := by rw [beq_eq_false_iff_ne]; omega
                      have htb' : ((t5 : Int) != (k : Int)) = true := by unfold bne; rw [htb]; rfl
                      have hMd := hM.drew
                      have hbd5 := hb5.drew
                      obtain ⟨vt, hct, hrt⟩ := hMd.cell t5 (by rw [hRl5]; exact ht5i)
                      obtain ⟨vkk, hck, hrk5⟩ := hMd.cell k (by rw [hRl5]; exact hki)
                      obtain ⟨ct, bt, rfl, hcbt, _⟩ := hrt.byte (HE5.out.row t5 ht5i) k (by omega)
                      obtain ⟨ckk, bkk, rfl⟩ := hrk5.form (HE5.out.row k hki)
                      obtain ⟨f, hf⟩ : ∃ f, f = G.ix (G.rw_ R5 t5) k := ⟨_, rfl⟩
                      rw [← hf] at hcbt
                      have Hf := Lib.hid hf; clear hf
                      have HR5l := Lib.hid hRl5; clear hRl5
                      have hbd5s := hbd5.size
                      have ht5i' : (t5 : Int) < i := by omega
                      have HC1 : Hid (Calls Try.prog 69 #[.slice (some ⟨bkk, 0, none⟩) (l.length + 1) ckk, B f] wr.drew fun e w' => ∃ bs' cs', e = .returned (.slice (some ⟨bs', 0, none⟩) (l.length + 1) cs') ∧ w'.cell? ⟨g, t5, none⟩ = some (.slice (some ⟨bt, 0, none⟩) (l.length + 1) ct) ∧ w'.cell? ⟨g, k, none⟩ = some (.slice (some ⟨bkk, 0, none⟩) (l.length + 1) ckk) ∧ w'.cell? ⟨bt, k, none⟩ = some (B f) ∧ bt < w'.heap.size ∧ RdT w' (.slice (some ⟨bs', 0, none⟩) (l.length + 1) cs') (G.scale f (G.rw_ R5 k)) ∧ RdT w' (.slice (some ⟨bt, 0, none⟩) (l.length + 1) ct) (G.rw_ R5 t5) ∧ RowsM w' g R5 ∧ Below w.heap.size w w') := Lib.hid (by
                        refine (scaled_any _ _ (G.rw_ R5 k) f _ hrk5.rd rfl (by rw [HE5.out.row k hki]; omega)).mono ?_
                        rintro e w8 ⟨v8, rfl, ho8, hb8⟩
                        rw [HE5.out.row k hki] at ho8
                        have hr8 : RdT w8 v8 (G.scale f (G.rw_ R5 k)) := RdT.ofOwn ho8 (by rw [G.scale_length]; exact HE5.out.row k hki) (by omega) (by omega)
                        obtain ⟨c8, b8, rfl⟩ := hr8.form (show _ = l.length + 1 by rw [G.scale_length]; exact HE5.out.row k hki)
                        exact ⟨_, _, rfl, (hb8.cell (p := ⟨g, t5, none⟩) hMd.lt).trans hct, (hb8.cell (p := ⟨g, k, none⟩) hMd.lt).trans hck, (hb8.cell (p := ⟨bt, k, none⟩) (World.block_lt_of_cell? wr.drew _ hcbt)).trans hcbt, Nat.lt_of_lt_of_le (World.block_lt_of_cell? wr.drew _ hcbt) hb8.size, hr8, hrt.below hb8, hMd.below hb8, hbd5.trans (hb8.mono hbd5s)⟩)
                      have HNew : Hid (G.Elim i l.length R0 (R5.set t5 (G.xorL (G.rw_ R5 t5) (G.scale f (G.rw_ R5 k)))) k) := Lib.hid (HE5.out.add hki ht5i htk f)
                      have hxl : (G.rw_ R5 t5).length = (G.scale f (G.rw_ R5 k)).length := by rw [G.scale_length, HE5.out.row k hki, HE5.out.row t5 ht5i]
                      have HK6 : Hid (G.ix (G.rw_ (R5.set t5 (G.xorL (G.rw_ R5 t5) (G.scale f (G.rw_ R5 k)))) k) k = 1) := Lib.hid (by rw [G.rw_set_ne _ _ (fun e => htk e.symm)]; exact HK5.out)
                      have HZ6 : Hid (∀ s, s < t5 + 1 → s ≠ k → G.ix (G.rw_ (R5.set t5 (G.xorL (G.rw_ R5 t5) (G.scale f (G.rw_ R5 k)))) s) k = 0) := Lib.hid (fun s h8 h9 => by
                        by_cases e : s = t5
                        · rw [e, G.rw_set_self _ _ _ (by rw [HR5l.out]; exact ht5i), G.ix_xorL hxl, G.ix_scale, HK5.out, G.mul_one, ← Hf.out, G.xor_self]
                        · rw [G.rw_set_ne _ _ e]; exact HZ5.out s (by omega) h9)
                      have hxr : (G.xorL (G.rw_ R5 t5) (G.scale f (G.rw_ R5 k))).length = l.length + 1 := by rw [G.xorL_length hxl]; exact HE5.out.row t5 ht5i
                      have Hxr := Lib.hid hxr; clear hxr
                      have Hxl := Lib.hid hxl; clear hxl
                      have Hrow := Lib.hid (HE5.out.row t5 ht5i)
                      obtain ⟨R6, hR6⟩ : ∃ R6, R6 = R5.set t5 (G.xorL (G.rw_ R5 t5) (G.scale f (G.rw_ R5 k))) := ⟨_, rfl⟩
                      rw [← hR6] at HNew HK6 HZ6
                      have HR6 := Lib.hid hR6; clear hR6
                      have hbg : bt ≠ g := hMd.ne hrt
                      clear hM hb5 HE5 HK5 HZ5 hrt hrk5 hMd
                      clear HPa HP HC hcap hs HSl HS HN HA HAl HR0 hv HSh
                      go_wp2_with fail
                      go_region_with (first | (go_at_call 69; refine HC1.out.mono ?_; rintro e w8 ⟨bs8, cs8, rfl, hct8, hk8, hff8, hbt8, hrs8, hrt8, hM8, hB8⟩) | (go_at_call 70; refine (added_any _ _ _ _ _ hrt8.rd hrs8.rd (by rw [← Hxl.out]) (by rw [Hrow.out]; omega)).mono ?_; rintro e w9 ⟨v9, rfl, ho9, hb9⟩; rw [Hrow.out] at ho9; have hr9 : RdT w9 v9 _ := RdT.ofOwn ho9 Hxr.out (by omega) (by omega); obtain ⟨c9, b9, rfl⟩ := hr9.form Hxr.out; have hct9 := (hb9.cell (p := ⟨g, t5, none⟩) hM8.lt).trans hct8; have hk9 := (hb9.cell (p := ⟨g, k, none⟩) hM8.lt).trans hk8; have hff9 := (hb9.cell (p := ⟨bt, k, none⟩) hbt8).trans hff8; have hM9 := hM8.below hb9; have hB9 := hB8.trans (hb9.mono hB8.size); have hf9 := hM9.frozen t5; have hM10 := hM9.store t5 (by rw [HR5l.out]; exact ht5i) hr9; rw [← HR6.out] at hM10; have hB10 := hB9.setCell (p := ⟨g, t5, none⟩) hgw (.slice (some ⟨b9, 0, none⟩) (l.length + 1) c9); have hk10 := (World.cell?_setCell_other w9 ⟨g, t5, none⟩ ⟨g, k, none⟩ (.slice (some ⟨b9, 0, none⟩) (l.length + 1) c9) (by first | (simp; done) | (simpa using htk))).trans hk9; have hf10 := (World.cell?_setCell_other w9 ⟨g, t5, none⟩ ⟨bt, k, none⟩ (.slice (some ⟨b9, 0, none⟩) (l.length + 1) c9) (by first | (simp; done) | (simpa using fun e => absurd e.symm hbg))).trans hff9))
                      all_goals
                        go_wp2_with fail
                        go_meet
                        exact ⟨R6, hM10, HNew.out, HK6.out, HZ6.out, hB10⟩
                  case rest =>
                    obtain ⟨R6, h6a, h6b, h6c, h6d, h6e⟩ := hcut
                    clear hRl5
                    go_wp2_with fail
                    go_roundw
                    case rel => exact ⟨t5 + 1, R6, by omega, by go_num, h6a, Lib.hid h6b, Lib.hid h6c, Lib.hid h6d, h6e⟩
                    case measure => simp [intOf]; omega
                · have hk1 : k + 1 ≤ l.length := by omega
                  have HNx : Hid (G.Elim i l.length R0 R5 (k + 1)) := Lib.hid (HE5.out.next fun s hs => by
                    by_cases e : s = k
                    · rw [if_pos e, e]; exact HK5.out
                    · rw [if_neg e]; exact HZ5.out s (by omega) e)
                  clear hRl5
                  go_wp2_with fail
                  go_roundw
                  case rel => exact ⟨k + 1, R5, hk1, by go_num, hM, HNx, hb5⟩
                  case measure => simp [intOf]; omega
        · obtain rfl : k = l.length := by omega
          have hEf : Hid (G.Elim i l.length (G.eqs p i (G.posL l)) R l.length) := Lib.hid (by rw [← HA.out, ← HR0.out]; exact HE.out)
          have hbs := hb.size
          have hpz : (str p).data.toList = p := rfl
          have HPz := Lib.hid hpz; clear hpz
          obtain ⟨y, hy⟩ : ∃ y : Nat → UInt8, y = fun k => G.ix (G.rw_ R k) l.length := ⟨_, rfl⟩
          have HYv : Hid (∀ k, y k = G.ix (G.rw_ R k) l.length) := Lib.hid (fun k => by rw [hy])
          have HYf := Lib.hid hy; clear hy
          have hlt' := hM.lt
          go_wp2_with (refine wpList_bytes rfl _ rfl Try.underlying9 Try.underlying26 Try.underlying5 rfl ?_; intro w4 cap hr4 hb4 hcap4)
          rw [HPz.out] at hr4
          go_loopw [21] (fun v21 wr => ∃ (t : Nat) (O : List UInt8), t ≤ i ∧ v21 = .int .i64 t ∧ Row wr 5 wk.heap.size cap O ∧ Hid (O.length = N) ∧ Hid (∀ j, j < N → G.ix O j = G.ix p j ^^^ chgT N A y (min t l.length) j) ∧ Hid (∀ s, l.length ≤ s → s < t → y s = 0) ∧ Below wk.heap.size wk wr) (fun v21 _ => i - (intOf v21).toNat)
          case atStart => exact ⟨0, p, by omega, rfl, hr4, Lib.hid HN.out.symm, Lib.hid (fun j hj => by rw [Nat.zero_min]; unfold chgT G.sumN; rw [G.xor_zero]), Lib.hid (fun s h8 h9 => by omega), hb4⟩
          case round =>
            clear hr4 hb4
            obtain ⟨t, O, hti, rfl, hr, HO, HI, HZ, hbk⟩ := hrel
            have hbw := hb.trans (hbk.mono hbs)
            by_cases ht : t < i
            · obtain ⟨v5, hcv5, hrv5⟩ := hM.cell t (by rw [HRl.out]; exact ht)
              obtain ⟨c5, b5, rfl, hcb5, _⟩ := hrv5.byte (HE.out.row t ht) l.length (by omega)
              have hb5l := World.block_lt_of_cell? wk _ hcb5
              have hc1 := (hbk.cell (p := ⟨g, t, none⟩) hlt').trans hcv5
              have hc2 := (hbk.cell (p := ⟨b5, l.length, none⟩) hb5l).trans hcb5
              rw [← HYv.out t] at hc2
              clear hcv5 hcb5 hrv5
              have ht' : (t : Int) < i := by omega
              have hll : (l.length : Int) < (l.length : Int) + 1 := by omega
              by_cases htm : t < l.length
              · obtain ⟨hax, hcp⟩ := HC.out t htm
                have hcw : wr.cell? ⟨b, off + t, none⟩ = some (.int .i64 (ixI l t)) := (hbw.cell (p := ⟨b, off + t, none⟩) (World.block_lt_of_cell? w _ hcp)).trans hcp
                have hix := fun wx => run_idx (P := Try.prog) Try.underlying34 Try.sizeInt (cap := vc) hax htm _ rfl wx
                have Ha := Lib.hid hax; clear hax hcp
                obtain ⟨g5, g6, _⟩ := HPa.out t htm
                rw [← HN.out] at g6
                obtain ⟨a, hat⟩ : ∃ a : Nat, ixI l t = a := ⟨(ixI l t).toNat, by omega⟩
                have HAt : Hid (A.getD t N = a) := Lib.hid (by
                  rw [List.getD_eq_getElem?_getD, List.getElem?_eq_getElem (by rw [HAl.out]; exact htm)]
                  simp only [HA.out, G.posL, List.getElem_map, Option.getD_some]
                  rw [← G.ixI_get htm, hat]; simp)
                rw [hat] at hcw g5 g6
                have Hat := Lib.hid hat; clear hat
                have haN : a < N := by omega
                have hxb := xorB (G.ix O a) (y t)
                have hcO := hr.cell a (by rw [HO.out]; exact haN)
                have hfO := hr.frozen a (by have := hr.le; have := HO.out; omega)
                have hst := (hr.drew).store a (G.ix O a ^^^ y t) (by rw [HO.out]; exact haN)
                have hbst := (hbk.drew).setCell (p := ⟨wk.heap.size, a, none⟩) (Nat.le_refl _) (B (G.ix O a ^^^ y t))
                have HO2 : Hid ((O.set a (G.ix O a ^^^ y t)).length = N) := Lib.hid (by rw [List.length_set, HO.out])
                have HI2 : Hid (∀ j, j < N → G.ix (O.set a (G.ix O a ^^^ y t)) j = G.ix p j ^^^ chgT N A y (min (t + 1) l.length) j) := Lib.hid (fun j hj => by
                  have h8 := HI.out j hj
                  rw [Nat.min_eq_left (by omega)] at h8
                  rw [Nat.min_eq_left (by omega), chgT, G.sumN, ← chgT, HAt.out]
                  by_cases e : j = a
                  · subst e
                    rw [ix_set_self _ _ (by rw [HO.out]; exact hj), h8, if_pos rfl, G.xor_assoc]
                  · rw [ix_set_ne _ _ e, h8, if_neg (fun e2 => e e2.symm), G.xor_zero])
                clear hr
                go_wp2_with fail
                go_still_tail 15, (by kernel_rfl)
                change wpList _ _ _ _ _ wr.drew
                go_wp2_with fail
                go_roundw
                case rel => exact ⟨t + 1, _, by omega, by go_num, hst, HO2, HI2, Lib.hid (fun s h8 h9 => by omega), hbst⟩
                case measure => simp [intOf]; omega
              · have htd : decide ((t : Int) < l.length) = false := by rw [decide_eq_false_iff_not]; omega
                by_cases hy0 : y t = 0
                · have hyb : (((y t).toNat : Int) == 0) = true := by rw [hy0]; rfl
                  have hyb' : (((y t).toNat : Int) != 0) = false := by rw [hy0]; rfl
                  have Hy0 := Lib.hid hy0; clear hy0
                  go_wp2_with fail
                  go_roundw
                  case rel =>
                    refine ⟨t + 1, O, by omega, by go_num, hr, HO, Lib.hid (fun j hj => ?_), Lib.hid (fun s h8 h9 => ?_), hbk⟩
                    · have h8 := HI.out j hj
                      rwa [Nat.min_eq_right (by omega)] at h8 ⊢
                    · by_cases e : s = t
                      · rw [e]; exact Hy0.out
                      · exact HZ.out s h8 (by omega)
                  case measure => simp [intOf]; omega
                · have hyb : (((y t).toNat : Int) == 0) = false := by rw [byte_beq0]; simpa using hy0
                  have hyb' : (((y t).toNat : Int) != 0) = true := by unfold bne; rw [hyb]; rfl
                  have HNo : Hid (∀ c, ¬ G.Near p c i l) := Lib.hid (none_near hEf.out HP.out hl (by omega) ht (by rw [← HYv.out]; exact hy0))
                  have Hy0 := Lib.hid hy0; clear hy0
                  go_wp2_with fail
                  go_ret2
                  exact ⟨.inr ⟨rfl, HNo.out⟩, hbw⟩
            · obtain rfl : t = i := by omega
              have hrd : Rd wr (.slice (some ⟨wk.heap.size, 0, none⟩) N cap) O := by
                have := hr.rd (by rw [HO.out]; omega)
                rwa [HO.out] at this
              have hcx := run_str (P := Try.prog) Try.underlying26 Try.underlying5 Try.underlying9 hrd
              have HNr : Hid (G.Near p O t l) := Lib.hid (is_near HSh.out hEf.out HP.out hl (fun s h8 h9 => by rw [← HYv.out]; exact HZ.out s h8 h9) (by rw [HO.out, HN.out]) (fun j hj => by
                rw [← HN.out] at hj ⊢
                have h8 := HI.out j hj
                rw [Nat.min_eq_right hl] at h8
                rw [h8, HA.out, HYf.out]))
              go_wp2_with fail
              go_ret2
              exact ⟨.inl ⟨O, rfl, HNr.out⟩, hbw⟩
end Go.Proofs.Ytbijdhdapejjhaa
