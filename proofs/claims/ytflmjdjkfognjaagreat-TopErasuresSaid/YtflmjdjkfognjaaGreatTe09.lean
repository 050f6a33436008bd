/- Parts: XPw XDiv -/
import Derived.Test.YtflmjdjkfognjaaGreatTe08
import Derived.OneCell
namespace Go.Proofs.YtflmjdjkfognjaaGreat
open Go.RowKit
set_option linter.unusedVariables false
theorem degN_le (p : List UInt8) : ∀ n, -1 ≤ G.degN p n ∧ G.degN p n < n
  | 0 => by simp [G.degN]
  | n + 1 => by
    have := degN_le p n
    unfold G.degN
    split <;> omega
theorem deg_le (p : List UInt8) : -1 ≤ G.deg p ∧ G.deg p < p.length := degN_le p _
set_option maxRecDepth 100000 in
set_option maxHeartbeats 1000000 in
theorem degree_any (v : Value) (p : List UInt8) (w : World) (hv : Rd w v p) :
    Calls Tryz.prog 158 #[v] w fun e w' => e = .returned (.int .i64 (G.deg p)) ∧ w = w' := by
  obtain ⟨h0, a, cap, b, off, rfl, hcap, hcell⟩ := hv
  have HC := Lib.hid hcell; clear hcell
  go_enter Tryz.func158, Tryz.ntmps158
  go_wp2_with fail
  go_loop [3] (fun vk => ∃ m : Nat, m ≤ p.length ∧ vk = .int .i64 ((m : Int) - 1) ∧ Hid (G.deg p = G.degN p m)) (fun vk => (intOf vk + 1).toNat)
  case atStart => exact ⟨p.length, Nat.le_refl _, rfl, Lib.hid rfl⟩
  case round =>
    obtain ⟨m, hm, rfl, HD⟩ := hrel
    by_cases h0m : m = 0
    · subst h0m
      go_wp2_with fail
      go_ret
      exact ⟨retI (by rw [HD.out]; simp [G.degN]), rfl⟩
    · obtain ⟨k, rfl⟩ : ∃ k, m = k + 1 := ⟨m - 1, by omega⟩
      have hk1 : ((k + 1 : Nat) : Int) - 1 = k := by omega
      simp only [hk1]
      obtain ⟨ha, hcp⟩ := HC.out k (by omega)
      have hix := run_idx (P := Tryz.prog) Tryz.underlying245 Tryz.sizeU8 (cap := cap) ha (show k < p.length by omega) _ rfl w
      have Ha := Lib.hid ha; clear ha
      by_cases hc : G.ix p k = 0
      · have hb : ((G.ix p k).toNat : Int) = 0 := by rw [hc]; rfl
        have Hc := Lib.hid hc; clear hc
        have hb0 : (((G.ix p k).toNat : Int) == 0) = true := by rw [hb]; rfl
        clear hb
        go_wp2_with fail
        go_round
        case rel =>
          refine ⟨k, by omega, rfl, Lib.hid ?_⟩
          rw [HD.out]
          simp [G.degN, Hc.out]
        case measure => simp [intOf]
      · have hb0 : (((G.ix p k).toNat : Int) == 0) = false := by rw [byte_beq0]; simpa using hc
        have Hc := Lib.hid hc; clear hc
        go_wp2_with fail
        go_ret
        exact ⟨retI (by rw [HD.out]; simp [G.degN, Hc.out]), rfl⟩
theorem times_any (vp vq : Value) (p q : List UInt8) (w : World) (hp : Rd w vp p) (hq : Rd w vq q) :
    Calls Tryz.prog 161 #[vp, vq] w fun e w' => ∃ v, e = .returned v ∧ w'.ownsRow w.heap.size 5 1 v (G.prod p q).length (bs (G.prod p q)) ∧ Below w.heap.size w w' := by
  go_enter Tryz.func161, Tryz.ntmps161
  go_wp2_with fail
  refine (product_any vp vq p q _ hp hq).mono ?_
  rintro e w' ⟨v, rfl, ho, hb⟩
  go_wp2_with fail
  go_ret
  exact ⟨_, rfl, ho, hb⟩
theorem cloneP_some (ad : Addr) (cap : Nat) (l : List UInt8) (w : World) (hv : Rd w (.slice (some ad) l.length cap) l) :
    Calls Tryz.prog 206 #[.slice (some ad) l.length cap] w fun e w' => ∃ v, e = .returned v ∧ w'.ownsRow w.heap.size 5 1 v l.length (bs l) ∧ Below w.heap.size w w' := by
  have hq := fun wx => Lib.run_eql_slice_nil (P := Tryz.prog) wx 245 5 (some ad) l.length cap 0 0 Tryz.underlying245
  have hl := hv.1
  have hoe : (w.alloc (.cells #[] 5)).ownsRow w.heap.size 5 1 (.slice (some ⟨w.heap.size, 0, none⟩) 0 0) 0 (bs []) := World.ownsRow_lit w #[] 0 (Nat.le_refl _) (by simp) (by simp)
  have hve : Rd (w.alloc (.cells #[] 5)) (.slice (some ad) l.length cap) l := hv.keep ((Below.refl _ _).alloc (Nat.le_refl _) _)
  have hbe : Below w.heap.size w (w.alloc (.cells #[] 5)) := (Below.refl _ _).alloc (Nat.le_refl _) _
  go_enter Tryz.func206, Tryz.ntmps206
  go_wp2_with (refine wpList_appB rfl _ _ rfl Tryz.underlying245 Tryz.infoU8 hoe rfl hve rfl (by omega) hbe.size ?_; intro v4 w4 hown4 hgr4 _)
  go_ret
  rw [List.nil_append, Nat.zero_add] at hown4
  exact ⟨_, rfl, hown4, hbe.grown hgr4 hbe.size (by simp [Value.ownBlock])⟩
theorem wpList_copyB {P : Program} {ops : Array Oper} {rest : List Oper} {o : Oper} {a : Act} {Q : Exit → Act → World → Prop} {w : World} (hg : o.guard = none) (d s : Operand) {dT sT : TypeId}
    (hop : o.op = .call { callee := .builtin .copy, args := #[d, s], argTypes := #[dT, sT] }) {e base : Nat} (ht : P.underlying dT = some (.slice e)) (hsz : (P.info? e).map (·.size) = some 1)
    {g n cap : Nat} {l p : List UInt8} {vp : Value} (hd : a.eval d = .slice (some ⟨g, 0, none⟩) n cap) (h : w.ownsRow base e 1 (.slice (some ⟨g, 0, none⟩) n cap) n (bs l)) (hs : a.eval s = vp) (hp : Rd w vp p) (hle : p.length ≤ n)
    (hK : ∀ w', w'.ownsRow base e 1 (.slice (some ⟨g, 0, none⟩) n cap) n (bs (p ++ l.drop p.length)) → w.grownBy w' (some g) → wpList P ops Q rest (a.put o.dst (goInt p.length)) w') : wpList P ops Q (o :: rest) a w := by
  obtain ⟨hp0, sa, sc, b, off, rfl, hpc, hpcell⟩ := hp
  have hl : l.length = n := by have := h.1; simpa [bs_length] using this
  rcases h.2 with ⟨h', _⟩ | ⟨g', cap', cur, h', hb, hg', hn, hm, hs', ht'⟩
  · simp at h'
  · simp only [Value.slice.injEq, Option.some.injEq, Addr.mk.injEq, and_true, true_and] at h'
    obtain ⟨rfl, rfl⟩ := h'
    have hcs : (bs p).length = p.length := bs_length p
    have hcl : cur.size = cap := by simpa using hs'
    by_cases h0 : p.length = 0
    · obtain rfl := List.eq_nil_of_length_eq_zero h0
      refine wpList_copy_nothing hg d s dT sT hop e ht hsz _ _ n cap _ sc hd hs (by simp) ?_
      exact hK w (by simpa using h) (World.grownBy.refl w _)
    · obtain ⟨rfl, -⟩ := hpcell 0 (by omega)
      refine wpList_copy_own hg d s dT sT hop e ht hsz g 0 n cap ⟨b, off, none⟩ p.length sc hd hs cur e hg' (bs p) (by rw [hcs]; exact (Nat.min_eq_left hle).symm) ?_ (by rw [hcs]; omega) (bs_one p) ?_
      · intro j v hj
        have hj' : j < p.length := by have := (List.getElem?_eq_some_iff.1 hj).1; omega
        rw [bs_get hj'] at hj
        obtain rfl := Option.some.inj hj
        rw [Addr.add_lit]
        exact (hpcell j hj').2
      · rw [hcs]
        refine hK _ ⟨by simp [bs_length]; omega, .inr ⟨g, cap, _, rfl, hb, setRow_heap w g cur _ e _ hg', hn, hm, ?_, ?_⟩⟩ ⟨rfl, rfl, rfl, by simp, fun k _ hk => setRow_other w g k _ (fun e => hk (by rw [e]))⟩
        · simp [bs_length]; omega
        · simp only [Nat.zero_add, List.take_zero, List.nil_append]
          rw [bs_append]
          have e1 : cur.toList.take n = bs l := by simpa using ht'
          simp only [Nat.mul_one]
          rw [List.take_append, hcs, List.take_of_length_le (by rw [hcs]; omega)]
          congr 1
          rw [List.take_drop, show p.length + (n - p.length) = n by omega, e1]
          simp [bs]
theorem ix_set_ne (l : List UInt8) (c : UInt8) {i k : Nat} (h : ¬ i = k) : G.ix (l.set k c) i = G.ix l i := by
  unfold G.ix
  rw [List.getD_eq_getElem?_getD, List.getElem?_set_ne (fun e => h e.symm), ← List.getD_eq_getElem?_getD]
theorem ix_set_self (l : List UInt8) (c : UInt8) {k : Nat} (h : k < l.length) : G.ix (l.set k c) k = c := by
  simp [G.ix, h]
theorem ix_plus (p q : List UInt8) (i : Nat) (h : i < max p.length q.length) : G.ix (G.plus p q) i = G.ix p i ^^^ G.ix q i := by
  simp [G.plus, G.ix, h]
theorem plus_length (p q : List UInt8) : (G.plus p q).length = max p.length q.length := by simp [G.plus]
set_option maxRecDepth 100000 in
set_option maxHeartbeats 2000000 in
theorem plus_lt (vp vq : Value) (p q : List UInt8) (w : World) (hp : Rd w vp p) (hq : Rd w vq q) (hlt : p.length < q.length) :
    Calls Tryz.prog 160 #[vp, vq] w fun e w' => ∃ v, e = .returned v ∧ w'.ownsRow w.heap.size 5 1 v q.length (bs (G.plus p q)) ∧ Below w.heap.size w w' := by
  have hpl := hp.1
  have hpn : p.length ≤ q.length := by omega
  have hqn : q.length ≤ q.length := by omega
  obtain ⟨hql, qa, qc, qb, qo, rfl, hqc, hqcell⟩ := hq
  have HC := Lib.hid hqcell; clear hqcell
  obtain ⟨pa, pc, rfl⟩ := hp.form
  have hn48 : q.length ≤ 281474976710656 := by omega
  have HM : Hid (max p.length q.length = q.length) := Lib.hid (by omega)
  go_enter Tryz.func160, Tryz.ntmps160
  go_wp2_with (first | (refine wpList_mkB (base := w.heap.size) rfl _ _ rfl Tryz.underlying245 Tryz.infoU8 q.length rfl rfl rfl rfl hn48 (Nat.le_refl _) ?_; intro w3 hown3 hgr3; have hb3 : Below w.heap.size w w3 := (Below.refl _ _).grown hgr3 (Nat.le_refl _) (by simp); have hrp3 := hp.keepW (fun k hk => hgr3.block k hk (by simp)); have hb3s := hb3.size) | (refine wpList_copyB rfl _ _ rfl Tryz.underlying245 Tryz.sizeU8 rfl hown3 rfl hrp3 hpn ?_; intro w4 hown4 hgr4; have hb4 : Below w.heap.size w w4 := hb3.grown hgr4 hb3s (fun k hk => by obtain rfl := Option.some.inj hk; exact Nat.le_refl _)))
  rw [show p ++ (List.replicate q.length 0).drop p.length = p ++ List.replicate (q.length - p.length) 0 by rw [List.drop_replicate]] at hown4
  clear hgr3 hgr4 hown3 hrp3 hb3 hb3s hp
  go_loopw [6, 7, 19] (fun _ _ vk wr => ∃ (k : Nat) (R : List UInt8), k ≤ q.length ∧ vk = .int .i64 k ∧ wr.ownsRow w.heap.size 5 1 (.slice (some ⟨w.heap.size, 0, none⟩) q.length q.length) q.length (bs R) ∧ Hid (R.length = q.length) ∧ Hid (∀ i, i < q.length → G.ix R i = if i < k then G.ix p i ^^^ G.ix q i else G.ix p i) ∧ Below w.heap.size w wr) (fun _ _ vk _ => q.length - (intOf vk).toNat)
  case atStart =>
    refine ⟨0, _, by omega, rfl, hown4, Lib.hid (by rw [List.length_append, List.length_replicate]; omega), Lib.hid (fun i hi => ?_), hb4⟩
    simp only [Nat.not_lt_zero, if_false]
    unfold G.ix
    rw [List.getD_eq_getElem?_getD, List.getD_eq_getElem?_getD, List.getElem?_append]
    split
    · rfl
    · next hh => first | (rw [List.getElem?_eq_none (Nat.le_of_not_lt hh), List.getElem?_replicate]; split <;> rfl) | exact (hh hi).elim
  case round =>
    clear hown4 hb4
    obtain ⟨k, R, hk, rfl, ho, HL, HI, hb⟩ := hrel
    by_cases hkq : k < q.length
    · obtain ⟨ha, hcp⟩ := HC.out k hkq
      have hqw : wr.cell? ⟨qb, qo + k, none⟩ = some (B (G.ix q k)) := by
        rw [← hcp]; exact hb.cell (World.block_lt_of_cell? w _ hcp)
      clear hcp
      have hix := run_idx (P := Tryz.prog) Tryz.underlying245 Tryz.sizeU8 (cap := qc) ha hkq _ rfl wr
      have Ha := Lib.hid ha; clear ha
      have hkn : k < q.length := by omega
      have hcs := ownB_cell ho rfl k hkn
      have hfs := ownB_frozen ho rfl k
      have hR := HI.out k hkn
      simp only [Nat.lt_irrefl, if_false] at hR
      rw [hR] at hcs
      have HR := Lib.hid hR; clear hR
      have Hst := Lib.hid (ownB_store ho rfl k (G.ix p k ^^^ G.ix q k))
      have hxb := xorB (G.ix p k) (G.ix q k)
      go_wp2_with fail
      go_roundw
      case rel =>
        refine ⟨k + 1, _, by omega, by go_num, Hst.out, Lib.hid (by rw [List.length_set, HL.out]), Lib.hid fun i hi => ?_, hb.setCell (Nat.le_refl _) _⟩
        have hL := HL.out
        by_cases e : i = k
        · subst e
          simp [G.ix, (by omega : i < R.length)]
        · have := HI.out i hi
          have e2 : (i < k + 1) ↔ (i < k) := by omega
          rw [ix_set_ne _ _ e, this]
          simp only [e2]
      case measure => simp [intOf]; omega
    · go_wp2_with fail
      go_ret
      have e : R = G.plus p q := by
        apply G.ext_ix
        · rw [HL.out, plus_length, HM.out]
        · intro i hi
          rw [HL.out] at hi
          rw [HI.out i hi, ix_plus p q i (by rw [HM.out]; exact hi)]
          split
          · rfl
          · rw [show G.ix q i = 0 from by unfold G.ix; rw [List.getD_eq_getElem?_getD, List.getElem?_eq_none (by omega)]; rfl]
            simp
      rw [← e]
      exact ⟨_, rfl, ho, hb⟩
set_option maxRecDepth 100000 in
set_option maxHeartbeats 2000000 in
theorem plus_ge (vp vq : Value) (p q : List UInt8) (w : World) (hp : Rd w vp p) (hq : Rd w vq q) (hlt : ¬ p.length < q.length) :
    Calls Tryz.prog 160 #[vp, vq] w fun e w' => ∃ v, e = .returned v ∧ w'.ownsRow w.heap.size 5 1 v p.length (bs (G.plus p q)) ∧ Below w.heap.size w w' := by
  have hpl := hp.1
  have hpn : p.length ≤ p.length := by omega
  have hqn : q.length ≤ p.length := by omega
  obtain ⟨hql, qa, qc, qb, qo, rfl, hqc, hqcell⟩ := hq
  have HC := Lib.hid hqcell; clear hqcell
  obtain ⟨pa, pc, rfl⟩ := hp.form
  have hn48 : p.length ≤ 281474976710656 := by omega
  have HM : Hid (max p.length q.length = p.length) := Lib.hid (by omega)
  go_enter Tryz.func160, Tryz.ntmps160
  go_wp2_with (first | (refine wpList_mkB (base := w.heap.size) rfl _ _ rfl Tryz.underlying245 Tryz.infoU8 p.length rfl rfl rfl rfl hn48 (Nat.le_refl _) ?_; intro w3 hown3 hgr3; have hb3 : Below w.heap.size w w3 := (Below.refl _ _).grown hgr3 (Nat.le_refl _) (by simp); have hrp3 := hp.keepW (fun k hk => hgr3.block k hk (by simp)); have hb3s := hb3.size) | (refine wpList_copyB rfl _ _ rfl Tryz.underlying245 Tryz.sizeU8 rfl hown3 rfl hrp3 hpn ?_; intro w4 hown4 hgr4; have hb4 : Below w.heap.size w w4 := hb3.grown hgr4 hb3s (fun k hk => by obtain rfl := Option.some.inj hk; exact Nat.le_refl _)))
  rw [show p ++ (List.replicate p.length 0).drop p.length = p ++ List.replicate (p.length - p.length) 0 by rw [List.drop_replicate]] at hown4
  clear hgr3 hgr4 hown3 hrp3 hb3 hb3s hp
  go_loopw [6, 7, 19] (fun _ _ vk wr => ∃ (k : Nat) (R : List UInt8), k ≤ q.length ∧ vk = .int .i64 k ∧ wr.ownsRow w.heap.size 5 1 (.slice (some ⟨w.heap.size, 0, none⟩) p.length p.length) p.length (bs R) ∧ Hid (R.length = p.length) ∧ Hid (∀ i, i < p.length → G.ix R i = if i < k then G.ix p i ^^^ G.ix q i else G.ix p i) ∧ Below w.heap.size w wr) (fun _ _ vk _ => q.length - (intOf vk).toNat)
  case atStart =>
    refine ⟨0, _, by omega, rfl, hown4, Lib.hid (by rw [List.length_append, List.length_replicate]; omega), Lib.hid (fun i hi => ?_), hb4⟩
    simp only [Nat.not_lt_zero, if_false]
    unfold G.ix
    rw [List.getD_eq_getElem?_getD, List.getD_eq_getElem?_getD, List.getElem?_append]
    split
    · rfl
    · next hh => first | (rw [List.getElem?_eq_none (Nat.le_of_not_lt hh), List.getElem?_replicate]; split <;> rfl) | exact (hh hi).elim
  case round =>
    clear hown4 hb4
    obtain ⟨k, R, hk, rfl, ho, HL, HI, hb⟩ := hrel
    by_cases hkq : k < q.length
    · obtain ⟨ha, hcp⟩ := HC.out k hkq
      have hqw : wr.cell? ⟨qb, qo + k, none⟩ = some (B (G.ix q k)) := by
        rw [← hcp]; exact hb.cell (World.block_lt_of_cell? w _ hcp)
      clear hcp
      have hix := run_idx (P := Tryz.prog) Tryz.underlying245 Tryz.sizeU8 (cap := qc) ha hkq _ rfl wr
      have Ha := Lib.hid ha; clear ha
      have hkn : k < p.length := by omega
      have hcs := ownB_cell ho rfl k hkn
      have hfs := ownB_frozen ho rfl k
      have hR := HI.out k hkn
      simp only [Nat.lt_irrefl, if_false] at hR
      rw [hR] at hcs
      have HR := Lib.hid hR; clear hR
      have Hst := Lib.hid (ownB_store ho rfl k (G.ix p k ^^^ G.ix q k))
      have hxb := xorB (G.ix p k) (G.ix q k)
      go_wp2_with fail
      go_roundw
      case rel =>
        refine ⟨k + 1, _, by omega, by go_num, Hst.out, Lib.hid (by rw [List.length_set, HL.out]), Lib.hid fun i hi => ?_, hb.setCell (Nat.le_refl _) _⟩
        have hL := HL.out
        by_cases e : i = k
        · subst e
          simp [G.ix, (by omega : i < R.length)]
        · have := HI.out i hi
          have e2 : (i < k + 1) ↔ (i < k) := by omega
          rw [ix_set_ne _ _ e, this]
          simp only [e2]
      case measure => simp [intOf]; omega
    · go_wp2_with fail
      go_ret
      have e : R = G.plus p q := by
        apply G.ext_ix
        · rw [HL.out, plus_length, HM.out]
        · intro i hi
          rw [HL.out] at hi
          rw [HI.out i hi, ix_plus p q i (by rw [HM.out]; exact hi)]
          split
          · rfl
          · rw [show G.ix q i = 0 from by unfold G.ix; rw [List.getD_eq_getElem?_getD, List.getElem?_eq_none (by omega)]; rfl]
            simp
      rw [← e]
      exact ⟨_, rfl, ho, hb⟩
theorem plus_any (vp vq : Value) (p q : List UInt8) (w : World) (hp : Rd w vp p) (hq : Rd w vq q) :
    Calls Tryz.prog 160 #[vp, vq] w fun e w' => ∃ v, e = .returned v ∧ w'.ownsRow w.heap.size 5 1 v (G.plus p q).length (bs (G.plus p q)) ∧ Below w.heap.size w w' := by
  rw [plus_length]
  by_cases h : p.length < q.length
  · have := plus_lt vp vq p q w hp hq h
    rwa [← Nat.max_eq_right (Nat.le_of_lt h)] at this
  · have := plus_ge vp vq p q w hp hq h
    rwa [← Nat.max_eq_left (Nat.le_of_not_lt h)] at this
theorem ix_deriv (p : List UInt8) (i : Nat) (h : i < p.length - 1) : G.ix (G.deriv p) i = if i % 2 = 0 then G.ix p (i + 1) else 0 := by
  simp [G.deriv, G.ix, h]
theorem deriv_length (p : List UInt8) : (G.deriv p).length = p.length - 1 := by simp [G.deriv]
set_option maxRecDepth 100000 in
set_option maxHeartbeats 2000000 in
theorem derivative_any (vp : Value) (p : List UInt8) (w : World) (hp : Rd w vp p) (hp1 : 1 ≤ p.length) :
    Calls Tryz.prog 207 #[vp] w fun e w' => ∃ v, e = .returned v ∧ w'.ownsRow w.heap.size 5 1 v (p.length - 1) (bs (G.deriv p)) ∧ Below w.heap.size w w' := by
  obtain ⟨hpl, pa, pc, pb, po, rfl, hpc, hpcell⟩ := hp
  have HC := Lib.hid hpcell; clear hpcell
  obtain ⟨n, hn⟩ : ∃ n, p.length = n + 1 := ⟨p.length - 1, by omega⟩
  have hn1 : (p.length : Int) - 1 = n := by omega
  have hn2 : p.length - 1 = n := by omega
  have hmx : max (n : Int) 0 = n := by omega
  have hn48 : n ≤ 281474976710656 := by omega
  rw [hn2]
  have hD := deriv_length p
  rw [hn2] at hD
  have HD := Lib.hid hD; clear hD
  have HN2 := Lib.hid hn2; clear hn2
  go_enter Tryz.func207, Tryz.ntmps207
  go_wp2_with (refine wpList_mkB (base := w.heap.size) rfl _ _ rfl Tryz.underlying245 Tryz.infoU8 n rfl rfl rfl rfl hn48 (Nat.le_refl _) ?_; intro w3 hown3 hgr3; have hb3 : Below w.heap.size w w3 := (Below.refl _ _).grown hgr3 (Nat.le_refl _) (by simp))
  clear hgr3
  go_loopw [4, 12] (fun _ vk wr => ∃ (k : Nat) (R : List UInt8), k ≤ n ∧ vk = .int .i64 k ∧ wr.ownsRow w.heap.size 5 1 (.slice (some ⟨w.heap.size, 0, none⟩) n n) n (bs R) ∧ Hid (R.length = n) ∧ Hid (∀ i, i < n → G.ix R i = if i < k then G.ix (G.deriv p) i else 0) ∧ Below w.heap.size w wr) (fun _ vk _ => n - (intOf vk).toNat)
  case atStart =>
    refine ⟨0, _, by omega, rfl, hown3, Lib.hid (by simp), Lib.hid (fun i hi => ?_), hb3⟩
    simp only [Nat.not_lt_zero, if_false]
    unfold G.ix
    rw [List.getD_eq_getElem?_getD, List.getElem?_replicate]; split <;> rfl
  case round =>
    clear hown3 hb3
    obtain ⟨k, R, hk, rfl, ho, HL, HI, hb⟩ := hrel
    by_cases hkn : k < n
    · have HV : Hid (G.ix (G.deriv p) k = if k % 2 = 0 then G.ix p (k + 1) else 0) := Lib.hid (ix_deriv p k (by omega))
      obtain ⟨ha, hcp⟩ := HC.out (k + 1) (by omega)
      have hqw : wr.cell? ⟨pb, po + (k + 1), none⟩ = some (B (G.ix p (k + 1))) := by
        rw [← hcp]; exact hb.cell (World.block_lt_of_cell? w _ hcp)
      clear hcp
      have hk1 : k + 1 < n + 1 := by omega
      have hix := run_idx (P := Tryz.prog) Tryz.underlying245 Tryz.sizeU8 (cap := pc) ha hk1 ((k : Int) + 1) (by omega) wr
      have Ha := Lib.hid ha; clear ha
      have hcs := ownB_cell ho rfl k hkn
      have hfs := ownB_frozen ho rfl k
      by_cases hev : k % 2 = 0
      · have hz : ((k : Int) % 2 == 0) = true := by rw [beq_iff_eq]; omega
        have Hev := Lib.hid hev; clear hev
        have Hst := Lib.hid (ownB_store ho rfl k (G.ix p (k + 1)))
        go_wp2_with fail
        go_roundw
        case rel =>
          refine ⟨k + 1, _, by omega, by go_num, Hst.out, Lib.hid (by rw [List.length_set, HL.out]), Lib.hid fun i hi => ?_, hb.setCell (Nat.le_refl _) _⟩
          have hL := HL.out
          by_cases e : i = k
          · subst e
            rw [ix_set_self _ _ (by omega), if_pos (by omega), HV.out, if_pos Hev.out]
          · have := HI.out i hi
            have e2 : (i < k + 1) ↔ (i < k) := by omega
            rw [ix_set_ne _ _ e, this]
            simp only [e2]
        case measure => simp [intOf]; omega
      · have hz : ((k : Int) % 2 == 0) = false := by rw [beq_eq_false_iff_ne]; omega
        have Hev := Lib.hid hev; clear hev
        go_wp2_with fail
        go_roundw
        case rel =>
          refine ⟨k + 1, _, by omega, by go_num, ho, HL, Lib.hid fun i hi => ?_, hb⟩
          by_cases e : i = k
          · subst e
            rw [HI.out i hi, if_neg (by omega), if_pos (by omega), HV.out, if_neg Hev.out]
          · have := HI.out i hi
            have e2 : (i < k + 1) ↔ (i < k) := by omega
            rw [this]
            simp only [e2]
        case measure => simp [intOf]; omega
    · go_wp2_with fail
      go_ret
      have e : R = G.deriv p := by
        apply G.ext_ix
        · rw [HL.out, HD.out]
        · intro i hi
          rw [HL.out] at hi
          rw [HI.out i hi, if_pos (by omega)]
      rw [← e]
      exact ⟨_, rfl, ho, hb⟩
end Go.Proofs.YtflmjdjkfognjaaGreat
namespace Go.Proofs.YtflmjdjkfognjaaGreat
open Go.RowKit
set_option linter.unusedVariables false
theorem Row.other {w : World} {e g cap : Nat} {l : List UInt8} (h : Row w e g cap l) {a : Addr} (ha : g ≠ a.block) (u : Value) : Row (w.setCell a u) e g cap l :=
  h.keep (Below.heap_setCell _ _ _ _ ha)
theorem Row.drew {w : World} {e g cap : Nat} {l : List UInt8} (h : Row w e g cap l) : Row w.drew e g cap l := h.keep rfl
theorem Row.cells {w : World} {base e g cap n : Nat} {l : List UInt8} (h : w.ownsRow base e 1 (.slice (some ⟨g, 0, none⟩) n cap) n (bs l)) : Row w e g cap l := (Row.of_own h).1
theorem degN_ix (p : List UInt8) : ∀ (m n : Nat), G.degN p m = (n : Int) → G.ix p n ≠ 0
  | 0, n, h => by simp [G.degN] at h
  | m + 1, n, h => by
    unfold G.degN at h
    split at h
    · exact degN_ix p m n h
    · next hh => obtain rfl : m = n := by omega
                 exact hh
theorem deg_ix {p : List UInt8} {n : Nat} (h : G.deg p = (n : Int)) : G.ix p n ≠ 0 := degN_ix p _ n h
theorem divLoop_length (q : List UInt8) (n : Nat) (iv : UInt8) : ∀ (k : Nat) (s : List UInt8 × List UInt8), (G.divLoop q n iv k s).1.length = s.1.length ∧ (G.divLoop q n iv k s).2.length = s.2.length
  | 0, s => ⟨rfl, rfl⟩
  | k + 1, s => by
    rw [G.divLoop]
    obtain ⟨h1, h2⟩ := divLoop_length q n iv k (G.divStep q n iv (n + k) s)
    rw [h1, h2]
    simp [G.divStep, G.addRow_length]
set_option maxRecDepth 100000 in
set_option maxHeartbeats 4000000 in
theorem divide_any (ad : Addr) (cp : Nat) (vq : Value) (p q : List UInt8) (n : Nat) (w : World) (hp : Rd w (.slice (some ad) p.length cp) p) (hq : Rd w vq q) (hn : G.deg q = (n : Int)) (hnp : n < p.length) (hps : p.length ≤ 1073741824) :
    Calls Tryz.prog 159 #[.slice (some ad) p.length cp, vq] w fun e w' => ∃ g1 c1 g2 c2, e = .returned (.tuple #[.slice (some ⟨g1, 0, none⟩) (G.divide p q).1.length c1, .slice (some ⟨g2, 0, none⟩) p.length c2]) ∧
      Rd w' (.slice (some ⟨g1, 0, none⟩) (G.divide p q).1.length c1) (G.divide p q).1 ∧ Rd w' (.slice (some ⟨g2, 0, none⟩) p.length c2) (G.divide p q).2 ∧ (G.divide p q).2.length = p.length ∧ Below w.heap.size w w' := by
  have hdq := deg_le q
  have hnq : n < q.length := by omega
  have hqn0 := deg_ix hn
  have hq0 := hq
  obtain ⟨hql, ⟨a, cap, rfl, rfl⟩ | ⟨bq, oq, cq, rfl, hqq0, hqc⟩⟩ := hq.cases
  · simp at hnq
  have HQ := Lib.hid hqc; clear hqc
  have hcn := HQ.out n hnq
  have hbq : bq < w.heap.size := World.block_lt_of_cell? w _ hcn
  have Hn0 := Lib.hid hqn0; clear hqn0
  have Hdq := Lib.hid hn
  obtain ⟨m, hm⟩ : ∃ m : Nat, p.length = n + m := ⟨p.length - n, by omega⟩
  have hm1 : (p.length : Int) - n = m := by omega
  have hm0 : ¬ ((m : Int) < 1) := by omega
  have hdd : G.divide p q = G.divLoop q n (G.inv (G.ix q n)) (G.deg p + 1 - n).toNat (List.replicate m 0, p) := by
    unfold G.divide
    rw [hn]
    simp only [Int.toNat_natCast]
    rw [show (max ((p.length : Int) - (n : Int)) 1).toNat = m by omega]
  obtain ⟨D, hD⟩ : ∃ D, D = G.divide p q := ⟨_, rfl⟩
  rw [← hD]
  rw [hdd] at hD
  have hDl := divLoop_length q n (G.inv (G.ix q n)) (G.deg p + 1 - n).toNat (List.replicate m 0, p)
  rw [← hD] at hDl
  simp only [List.length_replicate] at hDl
  obtain ⟨hD1, hD2⟩ := hDl
  rw [hD1]
  have HD := Lib.hid hD; clear hD hdd
  have HD1 := Lib.hid hD1; clear hD1
  have HD2 := Lib.hid hD2; clear hD2
  have Hm := Lib.hid hm; clear hm
  go_enter Tryz.func159, Tryz.ntmps159
  go_wp2_with fail
  refine (degree_any _ q _ hq).mono ?_
  rintro e w' ⟨rfl, rfl⟩
  rw [hn]
  clear hn hdq
  go_wp2_with fail
  refine (ginv_at _ (G.ix q n) _ rfl Hn0.out).mono ?_
  rintro e w1 ⟨rfl, hb1⟩
  obtain ⟨iv, hiv⟩ : ∃ iv, iv = G.inv (G.ix q n) := ⟨_, rfl⟩
  rw [← hiv]
  have Hiv := Lib.hid hiv; clear hiv
  have hp1 := hp.keep hb1
  have hb1s := hb1.size
  go_wp2_with fail
  refine (cloneP_some ad cp p _ hp1).mono ?_
  rintro e w2 ⟨v2, rfl, ho2, hb2⟩
  obtain ⟨g, cap, rfl, hg1, hg2, hcap⟩ := own_some ho2 (by
    rintro rfl
    rcases ho2.2 with ⟨_, h⟩ | ⟨_, _, _, h, _⟩
    · have := Hm.out; omega
    · simp at h)
  have hr2 := Row.cells ho2
  have hB2 := hb1.trans (hb2.mono hb1s)
  have hB2s := hB2.size
  clear ho2 hb2
  go_wp2_with (refine wpList_mkB (base := w.heap.size) rfl _ _ rfl Tryz.underlying245 Tryz.infoU8 m rfl rfl rfl rfl (by omega) hB2s ?_; intro w3 hown3 hgr3; have hb3 : Below w.heap.size w w3 := hB2.grown hgr3 hB2s (by simp); have hr3 : Row w3 5 g cap p := hr2.keep (hgr3.block g hg2 (by simp)); have ho3 := Row.cells hown3)
  have hrd3 := hr3.rd (by omega)
  refine (degree_any _ p _ hrd3).mono ?_
  rintro e w' ⟨rfl, rfl⟩
  have hdp := deg_le p
  have hng : ¬ g = w2.heap.size := by omega
  have hwg : w.heap.size ≤ g := by omega
  clear hr2 hB2 hown3 hgr3 hrd3 hp hp1 hb1
  go_wp2_with fail
  go_loopw [11] (fun vk wr => ∃ (i : Int) (S1 S2 : List UInt8), vk = .int .i64 i ∧ -1 ≤ i ∧ i < p.length ∧ Hid (G.divLoop q n iv (i + 1 - n).toNat (S1, S2) = D) ∧ Hid (S1.length = m) ∧ Hid (S2.length = p.length) ∧ Row wr 5 w2.heap.size m S1 ∧ Row wr 5 g cap S2 ∧ Below w.heap.size w wr) (fun vk _ => (intOf vk + 1).toNat)
  case atStart => exact ⟨G.deg p, _, _, rfl, hdp.1, hdp.2, Lib.hid (by rw [HD.out, Hiv.out]), Lib.hid (by simp), Lib.hid rfl, ho3, hr3, hb3⟩
  case round =>
    clear ho3 hr3 hb3 hg2
    obtain ⟨i, S1, S2, rfl, hi1, hi2, HL, HS1, HS2, ho, hr, hb⟩ := hrel
    obtain ⟨wo, rfl⟩ : ∃ wo : World, wo = wr := ⟨_, rfl⟩
    by_cases hlt : (n : Int) ≤ i
    · obtain ⟨c, hc⟩ : ∃ c : Nat, i = ((n + c : Nat) : Int) := ⟨(i - n).toNat, by omega⟩
      subst hc
      have hsub : (((n + c : Nat) : Int)) - (n : Int) = c := by omega
      obtain ⟨t, ht⟩ : ∃ t : Nat, t = n + c := ⟨_, rfl⟩
      rw [← ht] at hsub hi1 hi2 HL hlt ⊢
      have htp : t < p.length := by omega
      have hcm : c < m := by have := Hm.out; omega
      have hS2 := HS2.out
      have hcr := hr.cell t (by omega)
      have hS1 := HS1.out
      have hfo := ho.frozen c hcm
      obtain ⟨f, hf⟩ : ∃ f, f = G.mul (G.ix S2 t) iv := ⟨_, rfl⟩
      have hsto := ho.store c f (by omega)
      have hcell1 : wo.cell? ⟨w2.heap.size, c, none⟩ = some (B (G.ix S1 c)) := ho.cell c (by omega)
      have hr' : Row (wo.setCell ⟨w2.heap.size, c, none⟩ (B f)) 5 g cap S2 := hr.other (by simpa using hng) _
      have hb' : Below w.heap.size w (wo.setCell ⟨w2.heap.size, c, none⟩ (B f)) := hb.setCell hB2s _
      clear hS1 hS2
      have Ht := Lib.hid ht; clear ht
      have HLd := Lib.hid hlt; clear hlt
      have hn1 : ((n : Int) + 1) = ((n + 1 : Nat) : Int) := by omega
      obtain ⟨n1, hn1'⟩ : ∃ n1, n1 = n + 1 := ⟨_, rfl⟩
      rw [← hn1'] at hn1
      have Hn1 := Lib.hid hn1'; clear hn1'
      have Hf := Lib.hid hf; clear hf
      go_wp2_with (go_at_call 201; refine (gmul_at _ _ (G.ix S2 t) iv _ rfl rfl).mono ?_; rintro e w' ⟨rfl, rfl⟩; rw [← Hf.out])
      clear hcr hcell1 hfo ho hr hb
      go_loopw [53] (fun vj wr => ∃ j : Nat, j ≤ n1 ∧ vj = .int .i64 j ∧ Row wr 5 w2.heap.size m (S1.set c f) ∧ Row wr 5 g cap (G.addRow c f q j S2) ∧ Below w.heap.size w wr) (fun vj _ => n1 - (intOf vj).toNat)
      case atStart => exact ⟨0, by omega, rfl, hsto, hr', hb'⟩
      case round =>
        clear hsto hr' hb'
        obtain ⟨j, hj, rfl, ho, hr, hb⟩ := hrel
        obtain ⟨r, hr0⟩ : ∃ r, r = G.addRow c f q j S2 := ⟨_, rfl⟩
        rw [← hr0] at hr
        have hrl : r.length = p.length := by rw [hr0, G.addRow_length, HS2.out]
        have Hr := Lib.hid hr0; clear hr0
        by_cases hlj : j < n1
        · have hjq : j < q.length := by have := Hn1.out; omega
          have hcjp : c + j < p.length := by have := Hn1.out; have := Ht.out; omega
          have hcq : wr.cell? ⟨bq, oq + j, none⟩ = some (B (G.ix q j)) := by rw [hb.cell hbq]; exact HQ.out j hjq
          have hco : wr.cell? ⟨g, c + j, none⟩ = some (B (G.ix r (c + j))) := hr.cell _ (by omega)
          have hfo := hr.frozen (c + j) (by omega)
          have Hst : Hid (Row (wr.drew.setCell ⟨g, c + j, none⟩ (B (G.ix r (c + j) ^^^ G.mul f (G.ix q j)))) 5 g cap (r.set (c + j) (G.ix r (c + j) ^^^ G.mul f (G.ix q j)))) := Lib.hid (hr.drew.store (c + j) _ (by omega))
          have Hot : Hid (Row (wr.drew.setCell ⟨g, c + j, none⟩ (B (G.ix r (c + j) ^^^ G.mul f (G.ix q j)))) 5 w2.heap.size m (S1.set c f)) := Lib.hid (ho.drew.other (by simpa using fun e => hng e.symm) _)
          have Hrl := Lib.hid hrl; clear hrl
          go_wp2_with fail
          have e1 : IntKind.i64.wrap ((c : Int) + (j : Int)) = (c : Int) + (j : Int) := IntWalk.i64_in _ (by omega)
          have e2 : (0 : Int) ≤ (c : Int) + (j : Int) := by omega
          have e3 : (c : Int) + (j : Int) < (p.length : Int) := by omega
          have e4 : ((c : Int) + (j : Int)).toNat = c + j := by omega
          have e5 : IntKind.i64.wrap (c : Int) = (c : Int) := IntWalk.i64_in _ (by omega)
          go_still_tail 16, (by kernel_rfl)
          still_call (flipW (gmul_at _ _ f (G.ix q j) _ rfl rfl))
          repeat still_step
          refine wpStill_nil ?_
          clear e1 e2 e3 e4 e5
          change wpList _ _ _ _ _ wr.drew
          go_wp2_with fail
          go_roundw
          case rel =>
            rw [xorB]
            refine ⟨j + 1, by omega, by go_num, Hot.out, ?_, (hb.drew).setCell hwg _⟩
            have h := Hst.out
            rw [G.addRow, ← Hr.out]
            exact h
          case measure => simp [intOf]; omega
        · have Hrl := Lib.hid hrl; clear hrl
          go_wp2_with fail
          go_roundw
          case rel =>
            obtain rfl : j = n1 := by omega
            refine ⟨(t : Int) - 1, S1.set c f, r, rfl, by omega, by omega, Lib.hid ?_, Lib.hid (by rw [List.length_set, HS1.out]), Hrl, ho, hr, hb⟩
            rw [← HL.out]
            have h1 := Ht.out
            rw [show ((t : Int) + 1 - (n : Int)).toNat = c + 1 by omega, show ((t : Int) - 1 + 1 - (n : Int)).toNat = c by omega, G.divLoop, ← h1]
            unfold G.divStep
            simp only
            rw [show t - n = c by omega, ← Hf.out, ← Hn1.out, ← Hr.out]
          case measure => simp [intOf]
    · go_wp2_with fail
      go_ret2
      have hDS : (S1, S2) = D := by
        rw [← HL.out, show (i + 1 - (n : Int)).toNat = 0 by omega]
        rfl
      rw [← hDS]
      have h1 := HS1.out
      have h2 := HS2.out
      refine ⟨_, _, _, _, rfl, ?_, ?_, h2, hb⟩
      · have := ho.rd (by omega)
        rwa [h1] at this
      · have := hr.rd (by omega)
        rwa [h2] at this
end Go.Proofs.YtflmjdjkfognjaaGreat
