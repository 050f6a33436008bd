/- Parts: XWp XWt XFil -/
import Derived.Test.YtflmjdjkfognjaaGreatTe11
import Derived.Test.YtflmjdjkfognjaaGreatTe12
import Derived.Test.YtflmjdjkfognjaaGreatTe01
namespace Go.Proofs.YtflmjdjkfognjaaGreat.W8
open Go.RowKit
set_option linter.unusedVariables false
theorem Tryz.infoI64 : (Tryz.prog.info? 3).map (fun i => (i.zero, i.size, i.bytes)) = some (some (.int .i64 0), 1, 8) := by kernel_rfl
theorem off_any (x y : Int) (w : World) (h1 : 0 ≤ x) (h2 : x ≤ 1) (h3 : 0 ≤ y) (h4 : y ≤ 100000) : Calls Tryz.prog 170 #[.int .i64 x, .int .i64 y] w fun e w' => e = .returned (.int .i64 (12 + 2 * y + x)) ∧ w = w' := by
  go_enter Tryz.func170, Tryz.ntmps170
  go_wp2_with fail
  go_ret
  exact ⟨rfl, rfl⟩
set_option maxRecDepth 100000 in
set_option maxHeartbeats 2000000 in
theorem pword_ok (m : Nat) (x : Int) (w : World) (hx : x = m) (h : m < 86) : Calls Tryz.prog 123 #[.int .i64 x] w fun e w' => ∃ v, e = .returned (.tuple #[v, .int .i64 0]) ∧ w'.ownsRow w.heap.size 3 1 v 26 (is (pw m)) ∧ Below w.heap.size w w' := by
  subst hx
  have hm1 : ¬ ((m : Int) < 0) := by omega
  have hm2 : (m : Int) < 86 := by omega
  have hm3 : (0 : Int) ≤ m := by omega
  go_enter Tryz.func123, Tryz.ntmps123
  go_wp2_with fail
  have ho0 := ownsRow_nil w w.heap.size 3
  have hb0 := Below.refl w.heap.size w
  go_loopw [4, 12] (fun vo vk wr => ∃ k : Nat, k ≤ 26 ∧ vk = .int .i64 k ∧ wr.ownsRow w.heap.size 3 1 vo k (is (pl m k)) ∧ Below w.heap.size w wr) (fun _ vk _ => 26 - (intOf vk).toNat)
  case atStart => exact ⟨0, by omega, rfl, ho0, hb0⟩
  case round =>
    clear ho0 hb0
    obtain ⟨k, hk, rfl, ho, hb⟩ := hrel
    by_cases hlt : k < 26
    · have hbs := hb.size
      have hlt' : (k : Int) < 26 := by omega
      go_wp2_with fail
      refine (off_any _ _ _ (by omega) (by omega) (by omega) (by omega)).mono ?_
      rintro e w1 ⟨rfl, rfl⟩
      obtain ⟨y, hy⟩ : ∃ y : Int, y = 12 + 2 * ((m : Int) / 2 + 43 * (k : Int)) + m % 2 := ⟨_, rfl⟩
      rw [← hy]
      have HY : Hid (y = pf m k) := Lib.hid hy
      clear hy
      have ho6 := own_keep' ho ((Below.refl wr.heap.size wr).alloc (Nat.le_refl _) (.cells #[.int .i64 y] 3))
      have hr6 := reads_lit wr [y] 3 (by simp)
      have hb6 := hb.alloc hbs (.cells #[.int .i64 y] 3)
      have hb6s := hb6.size
      clear ho hb
      go_wp2_with (refine wpList_appI rfl _ _ rfl Tryz.underlying53 Tryz.infoI64 ho6 rfl hr6 rfl (by simp; omega) hb6s ?_; intro v7 w7 hown7 hgr7)
      have hb7 := hb6.grown hgr7 hb6s (ownBlock_ge' ho6)
      rw [HY.out, ← pl_succ] at hown7
      clear hb6 ho6 hr6 hgr7
      go_roundw
      case rel => exact ⟨k + 1, by omega, by go_num, hown7, hb7⟩
      case measure => simp [intOf]; omega
    · obtain rfl : k = 26 := by omega
      go_wp2_with fail
      go_ret2
      exact ⟨_, rfl, ho, hb⟩
set_option maxRecDepth 100000 in
set_option maxHeartbeats 2000000 in
theorem qword_ok (m : Nat) (x : Int) (w : World) (hx : x = m) (h : m < 52) : Calls Tryz.prog 124 #[.int .i64 x] w fun e w' => ∃ v, e = .returned (.tuple #[v, .int .i64 0]) ∧ w'.ownsRow w.heap.size 3 1 v 45 (is (qw m)) ∧ Below w.heap.size w w' := by
  subst hx
  have hm1 : ¬ ((m : Int) < 0) := by omega
  have hm2 : (m : Int) < 52 := by omega
  have hm3 : (0 : Int) ≤ m := by omega
  go_enter Tryz.func124, Tryz.ntmps124
  go_wp2_with fail
  have ho0 := ownsRow_nil w w.heap.size 3
  have hb0 := Below.refl w.heap.size w
  go_loopw [4, 12] (fun vo vk wr => ∃ k : Nat, k ≤ 43 ∧ vk = .int .i64 k ∧ wr.ownsRow w.heap.size 3 1 vo k (is (ql m k)) ∧ Below w.heap.size w wr) (fun _ vk _ => 43 - (intOf vk).toNat)
  case atStart => exact ⟨0, by omega, rfl, ho0, hb0⟩
  case round =>
    clear ho0 hb0
    obtain ⟨k, hk, rfl, ho, hb⟩ := hrel
    by_cases hlt : k < 43
    · have hbs := hb.size
      have hlt' : (k : Int) < 43 := by omega
      go_wp2_with fail
      refine (off_any _ _ _ (by omega) (by omega) (by omega) (by omega)).mono ?_
      rintro e w1 ⟨rfl, rfl⟩
      obtain ⟨y, hy⟩ : ∃ y : Int, y = 12 + 2 * ((44 * (k : Int) + 43 * ((m : Int) / 2)) % 1118) + m % 2 := ⟨_, rfl⟩
      rw [← hy]
      have HY : Hid (y = qf m k) := Lib.hid hy
      clear hy
      have ho6 := own_keep' ho ((Below.refl wr.heap.size wr).alloc (Nat.le_refl _) (.cells #[.int .i64 y] 3))
      have hr6 := reads_lit wr [y] 3 (by simp)
      have hb6 := hb.alloc hbs (.cells #[.int .i64 y] 3)
      have hb6s := hb6.size
      clear ho hb
      go_wp2_with (refine wpList_appI rfl _ _ rfl Tryz.underlying53 Tryz.infoI64 ho6 rfl hr6 rfl (by simp; omega) hb6s ?_; intro v7 w7 hown7 hgr7)
      have hb7 := hb6.grown hgr7 hb6s (ownBlock_ge' ho6)
      rw [HY.out, ← ql_succ] at hown7
      clear hb6 ho6 hr6 hgr7
      go_roundw
      case rel => exact ⟨k + 1, by omega, by go_num, hown7, hb7⟩
      case measure => simp [intOf]; omega
    · obtain rfl : k = 43 := by omega
      have hbs := hb.size
      go_wp2_with fail
      refine (off_any _ _ _ (by omega) (by omega) (by omega) (by omega)).mono ?_
      rintro e w1 ⟨rfl, rfl⟩
      go_wp2_with fail
      refine (off_any _ _ _ (by omega) (by omega) (by omega) (by omega)).mono ?_
      rintro e w1 ⟨rfl, rfl⟩
      obtain ⟨y, hy⟩ : ∃ y : Int, y = 12 + 2 * (1118 + (m : Int) / 2) + m % 2 := ⟨_, rfl⟩
      obtain ⟨z, hz⟩ : ∃ z : Int, z = 12 + 2 * (1144 + (m : Int) / 2) + m % 2 := ⟨_, rfl⟩
      rw [← hy, ← hz]
      have HW : Hid (qw m = ql m 43 ++ [y, z]) := Lib.hid (by rw [hy, hz]; rfl)
      clear hy hz
      have ho6 := own_keep' ho ((Below.refl wr.heap.size wr).alloc (Nat.le_refl _) (.cells #[.int .i64 y, .int .i64 z] 3))
      have hr6 := reads_lit wr [y, z] 3 (by simp)
      have hb6 := hb.alloc hbs (.cells #[.int .i64 y, .int .i64 z] 3)
      have hb6s := hb6.size
      clear ho hb
      go_wp2_with (refine wpList_appI rfl _ _ rfl Tryz.underlying53 Tryz.infoI64 ho6 rfl hr6 rfl (by simp) hb6s ?_; intro v7 w7 hown7 hgr7)
      have hb7 := hb6.grown hgr7 hb6s (ownBlock_ge' ho6)
      rw [← HW.out] at hown7
      clear hb6 ho6 hr6 hgr7
      go_ret2
      exact ⟨_, rfl, hown7, hb7⟩
end Go.Proofs.YtflmjdjkfognjaaGreat.W8
namespace Go.Proofs.YtflmjdjkfognjaaGreat.W8
open Go.RowKit
set_option linter.unusedVariables false
def sym (raw : List UInt8) (f x : Int) : UInt8 := if x < f then 0 else G.ix raw x.toNat
def takeL (raw : List UInt8) (ws : List Int) (f : Int) : List UInt8 := ws.map (sym raw f)
theorem takeL_length (raw : List UInt8) (ws : List Int) (f : Int) : (takeL raw ws f).length = ws.length := by simp [takeL]
theorem ix_takeL (raw : List UInt8) (ws : List Int) (f : Int) (i : Nat) (h : i < ws.length) : G.ix (takeL raw ws f) i = sym raw f (ixI ws i) := by
  simp [takeL, G.ix, ixI, h]
def tk (raw : List UInt8) (ws : List Int) (f : Int) : Nat → List UInt8
  | 0 => List.replicate ws.length 0
  | k + 1 => if ixI ws k < f then tk raw ws f k else (tk raw ws f k).set k (G.ix raw (ixI ws k).toNat)
theorem tk_length (raw : List UInt8) (ws : List Int) (f : Int) : ∀ k, (tk raw ws f k).length = ws.length
  | 0 => by simp [tk]
  | k + 1 => by unfold tk; split <;> simp [tk_length raw ws f k]
theorem ix_set (l : List UInt8) (k i : Nat) (c : UInt8) (h : k < l.length) : G.ix (l.set k c) i = if i = k then c else G.ix l i := by
  unfold G.ix
  simp only [List.getD_eq_getElem?_getD]
  by_cases e : i = k
  · subst e; simp [h]
  · rw [if_neg e, List.getElem?_set_ne (Ne.symm e)]
theorem tk_ix (raw : List UInt8) (ws : List Int) (f : Int) : ∀ (k i : Nat), k ≤ ws.length → G.ix (tk raw ws f k) i = if i < k then sym raw f (ixI ws i) else 0
  | 0, i, _ => by
    rw [if_neg (by omega)]
    unfold tk G.ix
    by_cases h : i < ws.length <;> simp [h]
  | k + 1, i, hk => by
    have ih := tk_ix raw ws f k i (by omega)
    unfold tk
    by_cases hf : ixI ws k < f
    · rw [if_pos hf, ih]
      by_cases e : i = k
      · subst e; rw [if_neg (by omega), if_pos (by omega)]; simp [sym, hf]
      · by_cases h : i < k
        · rw [if_pos h, if_pos (by omega)]
        · rw [if_neg h, if_neg (by omega)]
    · rw [if_neg hf, ix_set _ _ _ _ (by rw [tk_length]; omega), ih]
      by_cases e : i = k
      · subst e; rw [if_pos rfl, if_pos (by omega)]; simp [sym, hf]
      · rw [if_neg e]
        by_cases h : i < k
        · rw [if_pos h, if_pos (by omega)]
        · rw [if_neg h, if_neg (by omega)]
theorem tk_all (raw : List UInt8) (ws : List Int) (f : Int) : tk raw ws f ws.length = takeL raw ws f := by
  apply G.ext_ix
  · rw [tk_length, takeL_length]
  · intro i hi
    rw [tk_length] at hi
    rw [tk_ix raw ws f _ i (Nat.le_refl _), if_pos hi, ix_takeL _ _ _ _ hi]
set_option maxRecDepth 100000 in
set_option maxHeartbeats 2000000 in
theorem take_any (rv : Value) (raw : List UInt8) (wv : Value) (ws : List Int) (f : Int) (w : World) (hr : Rd w rv raw) (hw : RdI w wv ws) (hl : ws.length ≤ 1000) (hb : ∀ x ∈ ws, 0 ≤ x ∧ x < raw.length) :
    Calls Tryz.prog 147 #[rv, wv, .int .i64 f] w fun e w' => e = .returned (.string (str (takeL raw ws f))) ∧ Below w.heap.size w w' := by
  obtain ⟨hr0, ra, rc, rb, ro, rfl, hrc, hrcell⟩ := hr
  obtain ⟨hw0, ⟨wa, wc, wb, wo, rfl, hwc, hwcell⟩, hwr⟩ := hw
  have HR := Lib.hid hrcell
  have HW := Lib.hid hwcell
  have HB : Hid (∀ k, k < ws.length → 0 ≤ ixI ws k ∧ ixI ws k < raw.length) := Lib.hid fun k hk => hb _ (ixI_mem hk)
  clear hrcell hwcell hwr hb
  go_enter Tryz.func147, Tryz.ntmps147
  go_wp2_with (refine wpList_mkB (base := w.heap.size) rfl _ _ rfl Tryz.underlying123 Tryz.infoU8 ws.length rfl rfl rfl rfl (by omega) (Nat.le_refl _) ?_; intro w1 hown1 hgr1)
  have hb1 : Below w.heap.size w w1 := (Below.refl _ _).grown hgr1 (Nat.le_refl _) (by simp)
  have hr1 : Row w1 5 w.heap.size ws.length (tk raw ws f 0) := Row.cells hown1
  clear hown1 hgr1
  go_loopw [15] (fun vk wr => ∃ k : Nat, k ≤ ws.length ∧ vk = .int .i64 k ∧ Row wr 5 w.heap.size ws.length (tk raw ws f k) ∧ Below w.heap.size w wr) (fun vk _ => ws.length - (intOf vk).toNat)
  case atStart => exact ⟨0, by omega, rfl, hr1, hb1⟩
  case round =>
    clear hr1 hb1
    obtain ⟨k, hk, rfl, hr, hb⟩ := hrel
    by_cases hlt : k < ws.length
    · obtain ⟨ha, hcw⟩ := HW.out k hlt
      obtain ⟨hx1, hx2⟩ := HB.out k hlt
      have HK : Hid (tk raw ws f (k + 1) = if ixI ws k < f then tk raw ws f k else (tk raw ws f k).set k (G.ix raw (ixI ws k).toNat)) := Lib.hid rfl
      obtain ⟨j, hj⟩ : ∃ j : Nat, ixI ws k = j := ⟨(ixI ws k).toNat, by omega⟩
      rw [hj] at hcw hx1 hx2
      have HJ := Lib.hid hj; clear hj
      have hj2 : j < raw.length := by omega
      obtain ⟨ha2, hcr⟩ := HR.out j hj2
      have hcw' : wr.cell? ⟨wb, wo + k, none⟩ = some (.int .i64 j) := (hb.cell (p := ⟨wb, wo + k, none⟩) (World.block_lt_of_cell? w _ hcw)).trans hcw
      have hcr' : wr.cell? ⟨rb, ro + j, none⟩ = some (B (G.ix raw j)) := (hb.cell (p := ⟨rb, ro + j, none⟩) (World.block_lt_of_cell? w _ hcr)).trans hcr
      have hix := run_idx (P := Tryz.prog) Tryz.underlying53 Tryz.sizeInt (cap := wc) ha hlt _ rfl wr
      have hiy := run_idx (P := Tryz.prog) Tryz.underlying123 Tryz.sizeU8 (cap := rc) ha2 hj2 _ rfl wr
      have hc := hr.cell k (by rw [tk_length]; exact hlt)
      have hf := hr.frozen k hlt
      have hst := hr.store k (G.ix raw j) (by rw [tk_length]; exact hlt)
      have hbst := hb.setCell (p := ⟨w.heap.size, k, none⟩) (Nat.le_refl _) (B (G.ix raw j))
      have Ha := Lib.hid ha; clear ha
      have Ha2 := Lib.hid ha2; clear ha2 hcw hcr
      by_cases hge : (j : Int) < f
      · have hd : decide (f ≤ (j : Int)) = false := by simp; omega
        rw [HJ.out, if_pos hge] at HK
        clear hst hbst
        go_wp2_with fail
        go_roundw
        case rel => exact ⟨k + 1, by omega, by go_num, by rw [HK.out]; exact hr, hb⟩
        case measure => simp [intOf]; omega
      · have hd : decide (f ≤ (j : Int)) = true := by simp; omega
        rw [HJ.out, if_neg hge, Int.toNat_natCast] at HK
        have hge' : f ≤ (j : Int) := by omega
        clear hge
        go_wp2_with fail
        go_roundw
        case rel => exact ⟨k + 1, by omega, by go_num, by rw [HK.out]; exact hst, hbst⟩
        case measure => simp [intOf]; omega
    · obtain rfl : k = ws.length := by omega
      rw [tk_all] at hr
      have hrd : Rd wr (.slice (some ⟨w.heap.size, 0, none⟩) ws.length ws.length) (takeL raw ws f) := by
        have := hr.rd (by rw [takeL_length]; omega)
        rwa [takeL_length] at this
      have hcx := run_str (P := Tryz.prog) Tryz.underlying123 Tryz.underlying5 Tryz.underlying9 hrd
      clear hr hrd
      go_wp2_with fail
      go_ret
      exact ⟨rfl, hb⟩
def OffI (g : Nat) (w : World) (v : Value) (l : List Int) : Prop := ∀ W : World, (∀ k, k < w.heap.size → k ≠ g → W.heap[k]? = w.heap[k]?) → RdI W v l
theorem OffI.rd {g : Nat} {w : World} {v : Value} {l : List Int} (h : OffI g w v l) : RdI w v l := h w fun _ _ _ => rfl
theorem offI_own {g base e n : Nat} {w : World} {v : Value} {l : List Int} (h : w.ownsRow base e 1 v n (is l)) (hg : g < base) (hn : l.length = n) (hl : n ≤ 17592186044416) (hr : ∀ x ∈ l, -9223372036854775808 ≤ x ∧ x ≤ 9223372036854775807) : OffI g w v l := fun W hW => by
  refine rdI_own (w := W) (base := base) (e := e) ⟨h.1, ?_⟩ hn hl hr
  rcases h.2 with h2 | ⟨b, cap, cur, h1, h2, h3, h4⟩
  · exact .inl h2
  · exact .inr ⟨b, cap, cur, h1, h2, (hW b (Array.getElem?_eq_some_iff.1 h3).1 (by omega)).trans h3, h4⟩
theorem grow_drewN {w W : World} {r : Option Nat} (h : w.grownBy W r) (n : Nat) : w.grownBy (W.drewN n) r := ⟨h.1, h.2, h.3, h.4, h.5⟩
theorem grow_set {w W : World} {g : Nat} (h : w.grownBy W (some g)) (j : Nat) (v : Value) : w.grownBy (W.setCell ⟨g, j, none⟩ v) (some g) :=
  ⟨h.1, h.2, h.3, by have := h.4; simpa using this, fun k hk hne => (Below.heap_setCell W ⟨g, j, none⟩ v k (fun e => hne (congrArg some e))).trans (h.5 k hk hne)⟩
def pkL (raw : List UInt8) (ws : List Int) (f : Int) (s : List UInt8) : Nat → List UInt8
  | 0 => raw
  | k + 1 => if ixI ws k < f then pkL raw ws f s k else (pkL raw ws f s k).set (ixI ws k).toNat (G.ix s k)
def pkB (raw : List UInt8) (ws : List Int) (f : Int) (s : List UInt8) : Nat → Bool
  | 0 => false
  | k + 1 => if ixI ws k < f then pkB raw ws f s k else pkB raw ws f s k || !decide (G.ix (pkL raw ws f s k) (ixI ws k).toNat = G.ix s k)
theorem pkL_length (raw : List UInt8) (ws : List Int) (f : Int) (s : List UInt8) : ∀ k, (pkL raw ws f s k).length = raw.length
  | 0 => rfl
  | k + 1 => by unfold pkL; split <;> simp [pkL_length raw ws f s k]
def putL (raw : List UInt8) (ws : List Int) (f : Int) (s : List UInt8) : List UInt8 := pkL raw ws f s ws.length
def putB (raw : List UInt8) (ws : List Int) (f : Int) (s : List UInt8) : Bool := pkB raw ws f s ws.length
theorem putL_length (raw : List UInt8) (ws : List Int) (f : Int) (s : List UInt8) : (putL raw ws f s).length = raw.length := pkL_length _ _ _ _ _
def PutP (e0 g cap : Nat) (raw : List UInt8) (ws : List Int) (f : Int) (s : List UInt8) (w : World) (e : Ending) (w' : World) : Prop :=
  e = .returned (.bool (putB raw ws f s)) ∧ Row w' e0 g cap (putL raw ws f s) ∧ w.grownBy w' (some g)
set_option maxRecDepth 100000 in
set_option maxHeartbeats 4000000 in
theorem put_any (g n cap : Nat) (raw : List UInt8) (wv : Value) (ws : List Int) (f : Int) (s : List UInt8) (w : World) (hn : n = raw.length) (hrow : Row w 5 g cap raw) (hw : OffI g w wv ws) (hl : ws.length ≤ 1000) (hb : ∀ x ∈ ws, 0 ≤ x ∧ x < raw.length) (hs : ws.length ≤ s.length) :
    Calls Tryz.prog 148 #[.slice (some ⟨g, 0, none⟩) n cap, wv, .int .i64 f, .string (str s)] w (PutP 5 g cap raw ws f s w) := by
  have HB : Hid (∀ k, k < ws.length → 0 ≤ ixI ws k ∧ ixI ws k < n) := Lib.hid fun k hk => by rw [hn]; exact hb _ (ixI_mem hk)
  have HN := Lib.hid hn
  have HS := Lib.hid hs
  obtain ⟨hw0, ⟨wa, wc, wb, wo, rfl, hwc, _⟩, _⟩ := hw.rd
  have hncap : n ≤ cap := by rw [hn]; exact hrow.le
  have HOff := Lib.hid hw
  clear hn hb hs hw
  go_enter Tryz.func148, Tryz.ntmps148
  go_wp2_with fail
  go_loopw [9, 14] (fun vc vk wr => ∃ k : Nat, k ≤ ws.length ∧ vk = .int .i64 k ∧ vc = .bool (pkB raw ws f s k) ∧ Row wr 5 g cap (pkL raw ws f s k) ∧ w.grownBy wr (some g)) (fun _ vk _ => ws.length - (intOf vk).toNat)
  case atStart => exact ⟨0, by omega, rfl, rfl, hrow, World.grownBy.refl _ _⟩
  case round =>
    clear hrow
    obtain ⟨k, hk, rfl, rfl, hr, hb⟩ := hrel
    by_cases hlt : k < ws.length
    · have hwr : RdI wr (.slice wa ws.length wc) ws := HOff.out wr fun j hj hjg => hb.block j hj (fun e => hjg (Option.some.inj e))
      obtain ⟨_, ⟨a2, c2, b2, o2, hv2, _, hcell⟩, _⟩ := hwr
      injection hv2 with e1 e2 e3
      subst e1 e3
      obtain ⟨ha, hcw⟩ := hcell k hlt
      obtain ⟨hx1, hx2⟩ := HB.out k hlt
      clear hcell e2
      have HK : Hid (pkL raw ws f s (k + 1) = if ixI ws k < f then pkL raw ws f s k else (pkL raw ws f s k).set (ixI ws k).toNat (G.ix s k)) := Lib.hid rfl
      have HKB : Hid (pkB raw ws f s (k + 1) = if ixI ws k < f then pkB raw ws f s k else pkB raw ws f s k || !decide (G.ix (pkL raw ws f s k) (ixI ws k).toNat = G.ix s k)) := Lib.hid rfl
      have hl2 := pkL_length raw ws f s k
      generalize pkL raw ws f s k = R at *
      generalize pkB raw ws f s k = bb at *
      obtain ⟨j, hj⟩ : ∃ j : Nat, ixI ws k = j := ⟨(ixI ws k).toNat, by omega⟩
      rw [hj] at hcw hx1 hx2 HK HKB
      have HJ := Lib.hid hj; clear hj
      rw [Int.toNat_natCast] at HK HKB
      have hj2 : j < n := by omega
      have hjR : j < R.length := by rw [hl2, ← HN.out]; exact hj2
      have hix := run_idx (P := Tryz.prog) Tryz.underlying53 Tryz.sizeInt (cap := wc) ha hlt _ rfl wr
      have hc := hr.cell j hjR
      have hf := hr.frozen j (by omega)
      have HL2 := Lib.hid hl2; clear hl2
      have Ha := Lib.hid ha; clear ha
      by_cases hge : (j : Int) < f
      · have hd : decide (f ≤ (j : Int)) = false := by simp; omega
        rw [if_pos hge] at HK HKB
        go_wp2_with fail
        go_roundw
        case rel => exact ⟨k + 1, by omega, by go_num, by rw [HKB.out], by rw [HK.out]; exact hr, hb⟩
        case measure => simp [intOf]; omega
      · have hd : decide (f ≤ (j : Int)) = true := by simp; omega
        rw [if_neg hge] at HK HKB
        have hge' : f ≤ (j : Int) := by omega
        clear hge
        have hi1 := fun wx => run_sidx (P := Tryz.prog) Tryz.underlying9 s k (by have := HS.out; omega) _ rfl wx
        have hcb : (((G.ix R j).toNat : Int) != ((G.ix s k).toNat : Int)) = !decide (G.ix R j = G.ix s k) := by rw [byte_bne]; simp
        generalize hch : (!decide (G.ix R j = G.ix s k)) = ch at hcb HKB
        have HCH := Lib.hid hch; clear hch
        have HSt := Lib.hid (hr.store j (G.ix s k) hjR)
        cases bb with
        | true =>
          go_wp2_with fail
          go_quiet (fail)
          have hr3 : Row (wr.drewN nq) 5 g cap R := hr
          have hb3 : w.grownBy (wr.drewN nq) (some g) := grow_drewN hb nq
          generalize wr.drewN nq = w2 at hr3 hb3 ⊢
          have hc3 := hr3.cell j hjR
          have hf3 := hr3.frozen j (by omega)
          have HSt := Lib.hid (hr3.store j (G.ix s k) hjR)
          have HBt : Hid (w.grownBy (w2.setCell ⟨g, j, none⟩ (B (G.ix s k))) (some g)) := Lib.hid (grow_set hb3 j _)
          clear hr3 hb3 hr hb hc hf
          go_wp2_with fail
          go_roundw
          case rel => exact ⟨k + 1, by omega, by go_num, by rw [HKB.out]; rfl, by rw [HK.out]; exact HSt.out, HBt.out⟩
          case measure => simp [intOf]; omega
        | false =>
          go_wp2_with fail
          go_quiet (fail)
          have hr3 : Row (wr.drewN nq) 5 g cap R := hr
          have hb3 : w.grownBy (wr.drewN nq) (some g) := grow_drewN hb nq
          generalize wr.drewN nq = w2 at hr3 hb3 ⊢
          have hc3 := hr3.cell j hjR
          have hf3 := hr3.frozen j (by omega)
          have HSt := Lib.hid (hr3.store j (G.ix s k) hjR)
          have HBt : Hid (w.grownBy (w2.setCell ⟨g, j, none⟩ (B (G.ix s k))) (some g)) := Lib.hid (grow_set hb3 j _)
          clear hr3 hb3 hr hb hc hf
          go_wp2_with fail
          go_roundw
          case rel => exact ⟨k + 1, by omega, by go_num, by rw [HKB.out]; rfl, by rw [HK.out]; exact HSt.out, HBt.out⟩
          case measure => simp [intOf]; omega
    · obtain rfl : k = ws.length := by omega
      go_wp2_with fail
      go_ret
      exact ⟨rfl, hr, hb⟩
end Go.Proofs.YtflmjdjkfognjaaGreat.W8
namespace Go.Proofs.YtflmjdjkfognjaaGreat
open Go.RowKit
set_option linter.unusedVariables false
end Go.Proofs.YtflmjdjkfognjaaGreat
