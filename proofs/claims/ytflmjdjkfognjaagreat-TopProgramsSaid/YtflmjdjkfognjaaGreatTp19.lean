/- Shaken out of XChg XWt XWs -/
import Derived.Test.YtflmjdjkfognjaaGreatTp18
import Derived.Shelf.Abstract
import Derived.WalkKit
import Derived.OwnWalkIn
import Derived.TacticsInMore
import Derived.LoopNIn
import Derived.LoopIn
import Derived.Test.YtflmjdjkfognjaaGreatTp10
import Derived.Test.YtflmjdjkfognjaaGreatTp07
namespace Go.Proofs.YtflmjdjkfognjaaGreat
open Go.RowKit
set_option linter.unusedVariables false
theorem ixI_mem {l : List Int} {i : Nat} (h : i < l.length) : ixI l i ∈ l := by
  unfold ixI; rw [List.getD_eq_getElem?_getD, List.getElem?_eq_getElem h]; exact List.getElem_mem h
set_option maxRecDepth 100000 in
set_option maxHeartbeats 1000000 in
theorem indexI_any (v : Value) (l : List Int) (x : Int) (w : World) (hv : RdI w v l) :
    Calls Tryz.prog 237 #[v, .int .i64 x] w fun e w' => ∃ k : Int, e = .returned (.int .i64 k) ∧ (0 ≤ k ↔ G.cont l x = true) ∧ -1 ≤ k ∧ w = w' := by
  obtain ⟨h0, ⟨a, cap, b, off, rfl, hcap, hcell⟩, hrng⟩ := hv
  have HC := Lib.hid hcell; clear hcell
  have HR := Lib.hid hrng; clear hrng
  go_enter Tryz.func237, Tryz.ntmps237
  go_wp2_with fail
  go_loop [5, 8] (fun _ vk => ∃ k : Nat, k ≤ l.length ∧ vk = .int .i64 k ∧ Hid (∀ i, i < k → ixI l i ≠ x)) (fun _ vk => l.length - (intOf vk).toNat)
  case atStart => exact ⟨0, by omega, rfl, Lib.hid (fun i h => by omega)⟩
  case round =>
    obtain ⟨k, hk, rfl, hz⟩ := hrel
    by_cases hlt : k < l.length
    · obtain ⟨ha, hcp⟩ := HC.out k hlt
      have hix := run_idx (P := Tryz.prog) Tryz.underlying53 Tryz.sizeInt (cap := cap) ha hlt _ rfl w
      have Ha := Lib.hid ha; clear ha
      obtain ⟨y, hy⟩ : ∃ y, y = ixI l k := ⟨_, rfl⟩
      rw [← hy] at hcp
      have Hy := Lib.hid hy; clear hy
      by_cases hc : x = y
      · have hb : (x == y) = true := by simpa using hc
        have Hc := Lib.hid hc; clear hc
        go_wp2_with fail
        go_ret
        refine ⟨_, rfl, ⟨fun _ => ?_, fun _ => by omega⟩, by omega, rfl⟩
        rw [G.cont_iff, Hc.out, Hy.out]
        exact ixI_mem hlt
      · have hb : (x == y) = false := by simpa using hc
        have Hc := Lib.hid hc; clear hc
        go_wp2_with fail
        go_round
        case rel =>
          refine ⟨k + 1, by omega, by go_num, Lib.hid fun i hi => ?_⟩
          by_cases e : i = k
          · rw [e, ← Hy.out]; exact fun h => Hc.out h.symm
          · exact hz.out i (by omega)
        case measure => simp [intOf]; omega
    · go_wp2_with fail
      go_ret
      refine ⟨_, rfl, ⟨fun h => by omega, fun h => ?_⟩, by omega, rfl⟩
      exfalso
      rw [G.cont_iff] at h
      obtain ⟨i, hi, e⟩ := List.getElem_of_mem h
      refine hz.out i (by omega) ?_
      unfold ixI; rw [List.getD_eq_getElem?_getD, List.getElem?_eq_getElem hi]; exact e
theorem containsI_any (v : Value) (l : List Int) (x : Int) (w : World) (hv : RdI w v l) :
    Calls Tryz.prog 209 #[v, .int .i64 x] w fun e w' => e = .returned (.bool (G.cont l x)) ∧ w = w' := by
  go_enter Tryz.func209, Tryz.ntmps209
  go_wp2_with fail
  refine (indexI_any v l x _ hv).mono ?_
  rintro e w' ⟨k, rfl, hk, hk1, rfl⟩
  have hd : decide (0 ≤ k) = G.cont l x := by
    rw [Bool.eq_iff_iff, decide_eq_true_eq]; exact hk
  clear hk
  go_wp2_with fail
  go_ret
  exact ⟨rfl, rfl⟩
/-- a byte of a string -/
theorem run_sidx {P : Program} {t : TypeId} (ht : P.underlying t = some .string) (l : List UInt8) (k : Nat) (hk : k < l.length) (i : Int) (hi : i = k) (w : World) :
    (Instr.index t (.string (str l)) (.int .i64 i)).run P w = .ok (B (G.ix l k)) w := by
  subst hi
  have h1 : (str l).size = l.length := str_size l
  have h2 : ((str l)[k]'(by rw [h1]; exact hk)) = l[k] := by simp [str, ByteArray.getElem_eq_getElem_data]
  simp [Instr.index, asIntOf, run_underlying ht, h1, hk, h2, G.ix]
set_option maxRecDepth 100000 in
set_option maxHeartbeats 2000000 in
theorem changes_any (p q : List UInt8) (ve : Value) (l : List Int) (w : World) (hpq : q.length = p.length) (hp : p.length ≤ 255) (hv : RdI w ve l) :
    Calls Tryz.prog 163 #[.string (str p), .string (str q), ve] w fun e w' => e = .returned (.tuple #[.int .i64 (G.allN p q p.length), .int .i64 (G.othN p q l p.length)]) ∧ Below w.heap.size w w' := by
  have hs := str_size p
  obtain ⟨n, hn⟩ : ∃ n, n = p.length := ⟨_, rfl⟩
  rw [← hn] at hpq hp hs ⊢
  have HN := Lib.hid hn; clear hn
  have HQ := Lib.hid hpq; clear hpq
  obtain ⟨va, vl, vc, rfl⟩ : ∃ a l c, ve = .slice a l c := by
    obtain ⟨_, ⟨a, c, _, _, rfl, _, _⟩, _⟩ := hv
    exact ⟨_, _, _, rfl⟩
  have hv0 := hv
  go_enter Tryz.func163, Tryz.ntmps163
  go_wp2_with fail
  go_loopw [8, 9, 10, 13] (fun va vo _ vk wr => ∃ k : Nat, k ≤ n ∧ vk = .int .i64 k ∧ va = .int .i64 (G.allN p q k) ∧ vo = .int .i64 (G.othN p q l k) ∧ Below w.heap.size w wr) (fun _ _ _ vk _ => n - (intOf vk).toNat)
  case atStart => exact ⟨0, by omega, rfl, rfl, rfl, Below.refl _ _⟩
  case round =>
    obtain ⟨k, hk, rfl, rfl, rfl, hb⟩ := hrel
    by_cases hlt : k < n
    · have hv' := hv0.keep (hb : Below w.heap.size w wr)
      have hi1 := fun wx => run_sidx (P := Tryz.prog) Tryz.underlying9 p k (by rw [← HN.out]; exact hlt) _ rfl wx
      have hi2 := fun wx => run_sidx (P := Tryz.prog) Tryz.underlying9 q k (by rw [HQ.out]; exact hlt) _ rfl wx
      have h1 := G.allN_le p q k
      have h2 := G.othN_le p q l k
      obtain ⟨A1, hA⟩ : ∃ A1, A1 = G.allN p q k := ⟨_, rfl⟩
      obtain ⟨O1, hO⟩ : ∃ O1, O1 = G.othN p q l k := ⟨_, rfl⟩
      rw [← hA] at h1 ⊢
      rw [← hO] at h2 ⊢
      have HA := Lib.hid hA; clear hA
      have HO := Lib.hid hO; clear hO
      by_cases hc : G.ix p k = G.ix q k
      · have hcb : (((G.ix p k).toNat : Int) == ((G.ix q k).toNat : Int)) = true := by rw [hc]; simp
        have Hc := Lib.hid hc; clear hc
        go_wp2_with fail
        go_quiet (fail)
        go_wp2_with fail
        go_roundw
        case rel => exact ⟨k + 1, by omega, by go_num, by rw [G.allN, if_pos Hc.out, HA.out]; simp, by rw [G.othN, if_pos Hc.out, HO.out]; simp, Below.drewN hb _⟩
        case measure => simp [intOf]; omega
      · have hcb : (((G.ix p k).toNat : Int) == ((G.ix q k).toNat : Int)) = false := by
          rw [beq_eq_false_iff_ne]; intro h; apply hc; apply UInt8.toNat_inj.1; omega
        have Hc := Lib.hid hc; clear hc
        go_wp2_with fail
        go_quiet (fail)
        go_wp2_with fail
        have hB := Below.drewN hb nq
        have hvn : RdI (wr.drewN nq) (.slice va vl vc) l := hv'.keepW (fun k hk => rfl)
        generalize wr.drewN nq = w2 at hB hvn ⊢
        refine (containsI_any _ l _ _ hvn).mono ?_
        rintro e w' ⟨rfl, rfl⟩
        cases hct : G.cont l (k : Int) with
        | true =>
          have Ht := Lib.hid hct; clear hct
          go_wp2_with fail
          go_roundw
          case rel => exact ⟨k + 1, by omega, by go_num, by rw [G.allN, if_neg Hc.out, HA.out]; go_num, by rw [G.othN, if_neg Hc.out, HO.out, Ht.out]; simp, hB⟩
          case measure => simp [intOf]; omega
        | false =>
          have Ht := Lib.hid hct; clear hct
          go_wp2_with fail
          go_roundw
          case rel => exact ⟨k + 1, by omega, by go_num, by rw [G.allN, if_neg Hc.out, HA.out]; go_num, by rw [G.othN, if_neg Hc.out, HO.out, Ht.out]; simp, hB⟩
          case measure => simp [intOf]; omega
    · obtain rfl : k = n := by omega
      go_wp2_with fail
      go_ret2
      exact ⟨rfl, hb⟩
end Go.Proofs.YtflmjdjkfognjaaGreat
namespace Go.Proofs.YtflmjdjkfognjaaGreat.W8
open Go.RowKit
set_option linter.unusedVariables false
/-- the symbol of the offset 'x'; those below 'f' take no part -/
def sym (raw : List UInt8) (f x : Int) : UInt8 := if x < f then 0 else G.ix raw x.toNat
def takeL (raw : List UInt8) (ws : List Int) (f : Int) : List UInt8 := ws.map (sym raw f)
theorem takeL_length (raw : List UInt8) (ws : List Int) (f : Int) : (takeL raw ws f).length = ws.length := by simp [takeL]
theorem ix_takeL (raw : List UInt8) (ws : List Int) (f : Int) (i : Nat) (h : i < ws.length) : G.ix (takeL raw ws f) i = sym raw f (ixI ws i) := by
  simp [takeL, G.ix, ixI, h]
/-- the first 'k' symbols taken, in a row of zeros -/
def tk (raw : List UInt8) (ws : List Int) (f : Int) : Nat → List UInt8
  | 0 => List.replicate ws.length 0
  | k + 1 => if ixI ws k < f then tk raw ws f k else (tk raw ws f k).set k (G.ix raw (ixI ws k).toNat)
theorem tk_length (raw : List UInt8) (ws : List Int) (f : Int) : ∀ k, (tk raw ws f k).length = ws.length
  | 0 => by simp [tk]
  | k + 1 => by unfold tk; split <;> simp [tk_length raw ws f k]
theorem ix_set (l : List UInt8) (k i : Nat) (c : UInt8) (h : k < l.length) : G.ix (l.set k c) i = if i = k then c else G.ix l i := by
  unfold G.ix
  simp only [List.getD_eq_getElem?_getD]
  by_cases e : i = k
  · subst e; simp [h]
  · rw [if_neg e, List.getElem?_set_ne (Ne.symm e)]
theorem tk_ix (raw : List UInt8) (ws : List Int) (f : Int) : ∀ (k i : Nat), k ≤ ws.length → G.ix (tk raw ws f k) i = if i < k then sym raw f (ixI ws i) else 0
  | 0, i, _ => by
    rw [if_neg (by omega)]
    unfold tk G.ix
    by_cases h : i < ws.length <;> simp [h]
  | k + 1, i, hk => by
    have ih := tk_ix raw ws f k i (by omega)
    unfold tk
    by_cases hf : ixI ws k < f
    · rw [if_pos hf, ih]
      by_cases e : i = k
      · subst e; rw [if_neg (by omega), if_pos (by omega)]; simp [sym, hf]
      · by_cases h : i < k
        · rw [if_pos h, if_pos (by omega)]
        · rw [if_neg h, if_neg (by omega)]
    · rw [if_neg hf, ix_set _ _ _ _ (by rw [tk_length]; omega), ih]
      by_cases e : i = k
      · subst e; rw [if_pos rfl, if_pos (by omega)]; simp [sym, hf]
      · rw [if_neg e]
        by_cases h : i < k
        · rw [if_pos h, if_pos (by omega)]
        · rw [if_neg h, if_neg (by omega)]
theorem tk_all (raw : List UInt8) (ws : List Int) (f : Int) : tk raw ws f ws.length = takeL raw ws f := by
  apply G.ext_ix
  · rw [tk_length, takeL_length]
  · intro i hi
    rw [tk_length] at hi
    rw [tk_ix raw ws f _ i (Nat.le_refl _), if_pos hi, ix_takeL _ _ _ _ hi]
set_option maxRecDepth 100000 in
set_option maxHeartbeats 2000000 in
theorem take_any (rv : Value) (raw : List UInt8) (wv : Value) (ws : List Int) (f : Int) (w : World) (hr : Rd w rv raw) (hw : RdI w wv ws) (hl : ws.length ≤ 1000) (hb : ∀ x ∈ ws, 0 ≤ x ∧ x < raw.length) :
    Calls Tryz.prog 147 #[rv, wv, .int .i64 f] w fun e w' => e = .returned (.string (str (takeL raw ws f))) ∧ Below w.heap.size w w' := by
  obtain ⟨hr0, ra, rc, rb, ro, rfl, hrc, hrcell⟩ := hr
  obtain ⟨hw0, ⟨wa, wc, wb, wo, rfl, hwc, hwcell⟩, hwr⟩ := hw
  have HR := Lib.hid hrcell
  have HW := Lib.hid hwcell
  have HB : Hid (∀ k, k < ws.length → 0 ≤ ixI ws k ∧ ixI ws k < raw.length) := Lib.hid fun k hk => hb _ (ixI_mem hk)
  clear hrcell hwcell hwr hb
  go_enter Tryz.func147, Tryz.ntmps147
  go_wp2_with (refine wpList_mkB (base := w.heap.size) rfl _ _ rfl Tryz.underlying123 Tryz.infoU8 ws.length rfl rfl rfl rfl (by omega) (Nat.le_refl _) ?_; intro w1 hown1 hgr1)
  have hb1 : Below w.heap.size w w1 := (Below.refl _ _).grown hgr1 (Nat.le_refl _) (by simp)
  have hr1 : Row w1 5 w.heap.size ws.length (tk raw ws f 0) := Row.cells hown1
  clear hown1 hgr1
  go_loopw [15] (fun vk wr => ∃ k : Nat, k ≤ ws.length ∧ vk = .int .i64 k ∧ Row wr 5 w.heap.size ws.length (tk raw ws f k) ∧ Below w.heap.size w wr) (fun vk _ => ws.length - (intOf vk).toNat)
  case atStart => exact ⟨0, by omega, rfl, hr1, hb1⟩
  case round =>
    clear hr1 hb1
    obtain ⟨k, hk, rfl, hr, hb⟩ := hrel
    by_cases hlt : k < ws.length
    · obtain ⟨ha, hcw⟩ := HW.out k hlt
      obtain ⟨hx1, hx2⟩ := HB.out k hlt
      have HK : Hid (tk raw ws f (k + 1) = if ixI ws k < f then tk raw ws f k else (tk raw ws f k).set k (G.ix raw (ixI ws k).toNat)) := Lib.hid rfl
      obtain ⟨j, hj⟩ : ∃ j : Nat, ixI ws k = j := ⟨(ixI ws k).toNat, by omega⟩
      rw [hj] at hcw hx1 hx2
      have HJ := Lib.hid hj; clear hj
      have hj2 : j < raw.length := by omega
      obtain ⟨ha2, hcr⟩ := HR.out j hj2
      have hcw' : wr.cell? ⟨wb, wo + k, none⟩ = some (.int .i64 j) := (hb.cell (p := ⟨wb, wo + k, none⟩) (World.block_lt_of_cell? w _ hcw)).trans hcw
      have hcr' : wr.cell? ⟨rb, ro + j, none⟩ = some (B (G.ix raw j)) := (hb.cell (p := ⟨rb, ro + j, none⟩) (World.block_lt_of_cell? w _ hcr)).trans hcr
      have hix := run_idx (P := Tryz.prog) Tryz.underlying53 Tryz.sizeInt (cap := wc) ha hlt _ rfl wr
      have hiy := run_idx (P := Tryz.prog) Tryz.underlying123 Tryz.sizeU8 (cap := rc) ha2 hj2 _ rfl wr
      have hc := hr.cell k (by rw [tk_length]; exact hlt)
      have hf := hr.frozen k hlt
      have hst := hr.store k (G.ix raw j) (by rw [tk_length]; exact hlt)
      have hbst := hb.setCell (p := ⟨w.heap.size, k, none⟩) (Nat.le_refl _) (B (G.ix raw j))
      have Ha := Lib.hid ha; clear ha
      have Ha2 := Lib.hid ha2; clear ha2 hcw hcr
      by_cases hge : (j : Int) < f
      · have hd : decide (f ≤ (j : Int)) = false := by simp; omega
        rw [HJ.out, if_pos hge] at HK
        clear hst hbst
        go_wp2_with fail
        go_roundw
        case rel => exact ⟨k + 1, by omega, by go_num, by rw [HK.out]; exact hr, hb⟩
        case measure => simp [intOf]; omega
      · have hd : decide (f ≤ (j : Int)) = true := by simp; omega
        rw [HJ.out, if_neg hge, Int.toNat_natCast] at HK
        have hge' : f ≤ (j : Int) := by omega
        clear hge
        go_wp2_with fail
        go_roundw
        case rel => exact ⟨k + 1, by omega, by go_num, by rw [HK.out]; exact hst, hbst⟩
        case measure => simp [intOf]; omega
    · obtain rfl : k = ws.length := by omega
      rw [tk_all] at hr
      have hrd : Rd wr (.slice (some ⟨w.heap.size, 0, none⟩) ws.length ws.length) (takeL raw ws f) := by
        have := hr.rd (by rw [takeL_length]; omega)
        rwa [takeL_length] at this
      have hcx := run_str (P := Tryz.prog) Tryz.underlying123 Tryz.underlying5 Tryz.underlying9 hrd
      clear hr hrd
      go_wp2_with fail
      go_ret
      exact ⟨rfl, hb⟩
/-- a slice of ints that stays while the block 'g' turns -/
def OffI (g : Nat) (w : World) (v : Value) (l : List Int) : Prop := ∀ W : World, (∀ k, k < w.heap.size → k ≠ g → W.heap[k]? = w.heap[k]?) → RdI W v l
theorem OffI.rd {g : Nat} {w : World} {v : Value} {l : List Int} (h : OffI g w v l) : RdI w v l := h w fun _ _ _ => rfl
theorem offI_own {g base e n : Nat} {w : World} {v : Value} {l : List Int} (h : w.ownsRow base e 1 v n (is l)) (hg : g < base) (hn : l.length = n) (hl : n ≤ 17592186044416) (hr : ∀ x ∈ l, -9223372036854775808 ≤ x ∧ x ≤ 9223372036854775807) : OffI g w v l := fun W hW => by
  refine rdI_own (w := W) (base := base) (e := e) ⟨h.1, ?_⟩ hn hl hr
  rcases h.2 with h2 | ⟨b, cap, cur, h1, h2, h3, h4⟩
  · exact .inl h2
  · exact .inr ⟨b, cap, cur, h1, h2, (hW b (Array.getElem?_eq_some_iff.1 h3).1 (by omega)).trans h3, h4⟩
theorem grow_drewN {w W : World} {r : Option Nat} (h : w.grownBy W r) (n : Nat) : w.grownBy (W.drewN n) r := ⟨h.1, h.2, h.3, h.4, h.5⟩
theorem grow_set {w W : World} {g : Nat} (h : w.grownBy W (some g)) (j : Nat) (v : Value) : w.grownBy (W.setCell ⟨g, j, none⟩ v) (some g) :=
  ⟨h.1, h.2, h.3, by have := h.4; simpa using this, fun k hk hne => (Below.heap_setCell W ⟨g, j, none⟩ v k (fun e => hne (congrArg some e))).trans (h.5 k hk hne)⟩
/-- the bytes when the first 'k' symbols of a word are put; whether one of them changed -/
def pkL (raw : List UInt8) (ws : List Int) (f : Int) (s : List UInt8) : Nat → List UInt8
  | 0 => raw
  | k + 1 => if ixI ws k < f then pkL raw ws f s k else (pkL raw ws f s k).set (ixI ws k).toNat (G.ix s k)
def pkB (raw : List UInt8) (ws : List Int) (f : Int) (s : List UInt8) : Nat → Bool
  | 0 => false
  | k + 1 => if ixI ws k < f then pkB raw ws f s k else pkB raw ws f s k || !decide (G.ix (pkL raw ws f s k) (ixI ws k).toNat = G.ix s k)
theorem pkL_length (raw : List UInt8) (ws : List Int) (f : Int) (s : List UInt8) : ∀ k, (pkL raw ws f s k).length = raw.length
  | 0 => rfl
  | k + 1 => by unfold pkL; split <;> simp [pkL_length raw ws f s k]
def putL (raw : List UInt8) (ws : List Int) (f : Int) (s : List UInt8) : List UInt8 := pkL raw ws f s ws.length
def putB (raw : List UInt8) (ws : List Int) (f : Int) (s : List UInt8) : Bool := pkB raw ws f s ws.length
def PutP (e0 g cap : Nat) (raw : List UInt8) (ws : List Int) (f : Int) (s : List UInt8) (w : World) (e : Ending) (w' : World) : Prop :=
  e = .returned (.bool (putB raw ws f s)) ∧ Row w' e0 g cap (putL raw ws f s) ∧ w.grownBy w' (some g)
set_option maxRecDepth 100000 in
set_option maxHeartbeats 4000000 in
theorem put_any (g n cap : Nat) (raw : List UInt8) (wv : Value) (ws : List Int) (f : Int) (s : List UInt8) (w : World) (hn : n = raw.length) (hrow : Row w 5 g cap raw) (hw : OffI g w wv ws) (hl : ws.length ≤ 1000) (hb : ∀ x ∈ ws, 0 ≤ x ∧ x < raw.length) (hs : ws.length ≤ s.length) :
    Calls Tryz.prog 148 #[.slice (some ⟨g, 0, none⟩) n cap, wv, .int .i64 f, .string (str s)] w (PutP 5 g cap raw ws f s w) := by
  have HB : Hid (∀ k, k < ws.length → 0 ≤ ixI ws k ∧ ixI ws k < n) := Lib.hid fun k hk => by rw [hn]; exact hb _ (ixI_mem hk)
  have HN := Lib.hid hn
  have HS := Lib.hid hs
  obtain ⟨hw0, ⟨wa, wc, wb, wo, rfl, hwc, _⟩, _⟩ := hw.rd
  have hncap : n ≤ cap := by rw [hn]; exact hrow.le
  have HOff := Lib.hid hw
  clear hn hb hs hw
  go_enter Tryz.func148, Tryz.ntmps148
  go_wp2_with fail
  go_loopw [9, 14] (fun vc vk wr => ∃ k : Nat, k ≤ ws.length ∧ vk = .int .i64 k ∧ vc = .bool (pkB raw ws f s k) ∧ Row wr 5 g cap (pkL raw ws f s k) ∧ w.grownBy wr (some g)) (fun _ vk _ => ws.length - (intOf vk).toNat)
  case atStart => exact ⟨0, by omega, rfl, rfl, hrow, World.grownBy.refl _ _⟩
  case round =>
    clear hrow
    obtain ⟨k, hk, rfl, rfl, hr, hb⟩ := hrel
    by_cases hlt : k < ws.length
    · have hwr : RdI wr (.slice wa ws.length wc) ws := HOff.out wr fun j hj hjg => hb.block j hj (fun e => hjg (Option.some.inj e))
      obtain ⟨_, ⟨a2, c2, b2, o2, hv2, _, hcell⟩, _⟩ := hwr
      injection hv2 with e1 e2 e3
      subst e1 e3
      obtain ⟨ha, hcw⟩ := hcell k hlt
      obtain ⟨hx1, hx2⟩ := HB.out k hlt
      clear hcell e2
      have HK : Hid (pkL raw ws f s (k + 1) = if ixI ws k < f then pkL raw ws f s k else (pkL raw ws f s k).set (ixI ws k).toNat (G.ix s k)) := Lib.hid rfl
      have HKB : Hid (pkB raw ws f s (k + 1) = if ixI ws k < f then pkB raw ws f s k else pkB raw ws f s k || !decide (G.ix (pkL raw ws f s k) (ixI ws k).toNat = G.ix s k)) := Lib.hid rfl
      have hl2 := pkL_length raw ws f s k
      generalize pkL raw ws f s k = R at *
      generalize pkB raw ws f s k = bb at *
      obtain ⟨j, hj⟩ : ∃ j : Nat, ixI ws k = j := ⟨(ixI ws k).toNat, by omega⟩
      rw [hj] at hcw hx1 hx2 HK HKB
      have HJ := Lib.hid hj; clear hj
      rw [Int.toNat_natCast] at HK HKB
      have hj2 : j < n := by omega
      have hjR : j < R.length := by rw [hl2, ← HN.out]; exact hj2
      have hix := run_idx (P := Tryz.prog) Tryz.underlying53 Tryz.sizeInt (cap := wc) ha hlt _ rfl wr
      have hc := hr.cell j hjR
      have hf := hr.frozen j (by omega)
      have HL2 := Lib.hid hl2; clear hl2
      have Ha := Lib.hid ha; clear ha
      by_cases hge : (j : Int) < f
      · have hd : decide (f ≤ (j : Int)) = false := by simp; omega
        rw [if_pos hge] at HK HKB
        go_wp2_with fail
        go_roundw
        case rel => exact ⟨k + 1, by omega, by go_num, by rw [HKB.out], by rw [HK.out]; exact hr, hb⟩
        case measure => simp [intOf]; omega
      · have hd : decide (f ≤ (j : Int)) = true := by simp; omega
        rw [if_neg hge] at HK HKB
        have hge' : f ≤ (j : Int) := by omega
        clear hge
        have hi1 := fun wx => run_sidx (P := Tryz.prog) Tryz.underlying9 s k (by have := HS.out; omega) _ rfl wx
        have hcb : (((G.ix R j).toNat : Int) != ((G.ix s k).toNat : Int)) = !decide (G.ix R j = G.ix s k) := by rw [byte_bne]; simp
        generalize hch : (!decide (G.ix R j = G.ix s k)) = ch at hcb HKB
        have HCH := Lib.hid hch; clear hch
        have HSt := Lib.hid (hr.store j (G.ix s k) hjR)
        cases bb with
        | true =>
          go_wp2_with fail
          go_quiet (fail)
          have hr3 : Row (wr.drewN nq) 5 g cap R := hr
          have hb3 : w.grownBy (wr.drewN nq) (some g) := grow_drewN hb nq
          generalize wr.drewN nq = w2 at hr3 hb3 ⊢
          have hc3 := hr3.cell j hjR
          have hf3 := hr3.frozen j (by omega)
          have HSt := Lib.hid (hr3.store j (G.ix s k) hjR)
          have HBt : Hid (w.grownBy (w2.setCell ⟨g, j, none⟩ (B (G.ix s k))) (some g)) := Lib.hid (grow_set hb3 j _)
          clear hr3 hb3 hr hb hc hf
          go_wp2_with fail
          go_roundw
          case rel => exact ⟨k + 1, by omega, by go_num, by rw [HKB.out]; rfl, by rw [HK.out]; exact HSt.out, HBt.out⟩
          case measure => simp [intOf]; omega
        | false =>
          go_wp2_with fail
          go_quiet (fail)
          have hr3 : Row (wr.drewN nq) 5 g cap R := hr
          have hb3 : w.grownBy (wr.drewN nq) (some g) := grow_drewN hb nq
          generalize wr.drewN nq = w2 at hr3 hb3 ⊢
          have hc3 := hr3.cell j hjR
          have hf3 := hr3.frozen j (by omega)
          have HSt := Lib.hid (hr3.store j (G.ix s k) hjR)
          have HBt : Hid (w.grownBy (w2.setCell ⟨g, j, none⟩ (B (G.ix s k))) (some g)) := Lib.hid (grow_set hb3 j _)
          clear hr3 hb3 hr hb hc hf
          go_wp2_with fail
          go_roundw
          case rel => exact ⟨k + 1, by omega, by go_num, by rw [HKB.out]; rfl, by rw [HK.out]; exact HSt.out, HBt.out⟩
          case measure => simp [intOf]; omega
    · obtain rfl : k = ws.length := by omega
      go_wp2_with fail
      go_ret
      exact ⟨rfl, hr, hb⟩
end Go.Proofs.YtflmjdjkfognjaaGreat.W8
namespace Go.Proofs.YtflmjdjkfognjaaGreat.W8
open Go.RowKit Go.Shelf
set_option linter.unusedVariables false
attribute [local go_sem] Oper.semAt_some
/-- what a block of cells holds stays when a loop keeps its books -/
theorem keeps_cells {W W' : World} {row : Option Nat} {g : Nat} {cs : Array Value} {t : TypeId} {fz : Nat × Nat} (h : W.heap[g]? = some (.cells cs t fz)) (hg : W.grownBy W' row) (hr : ∀ r, row = some r → ∃ o : Obj, W.heap[r]? = some o ∧ o.isCells = false) : W'.heap[g]? = some (.cells cs t fz) :=
  (hg.block g (Array.getElem?_eq_some_iff.1 h).1 (fun e => by
    obtain ⟨o, ho, hc⟩ := hr g e.symm
    rw [h] at ho
    obtain rfl := Option.some.inj ho
    cases hc)).trans h
theorem stays_own (B base e sz n : Nat) (v : Value) (xs : List Value) : Stays B fun W => W.ownsRow base e sz v n xs := fun _ W W' row h hg hr => by
  refine ⟨h.1, ?_⟩
  rcases h.2 with h2 | ⟨b, cap, cur, h1, h2, h3, h4⟩
  · exact .inl h2
  · exact .inr ⟨b, cap, cur, h1, h2, keeps_cells h3 hg (fun r e => (hr r e).2), h4⟩
theorem stays_row (B e g cap : Nat) (l : List UInt8) : Stays B fun W => Row W e g cap l := fun _ W W' row h hg hr => by
  obtain ⟨cur, fz, h1, h2⟩ := h
  exact ⟨cur, fz, keeps_cells h1 hg (fun r e => (hr r e).2), h2⟩
theorem stays_bx (B g t : Nat) (cs : List Value) : Stays B fun W => Bx W g t cs := fun _ W W' row h hg hr => keeps_cells h hg (fun r e => (hr r e).2)
theorem stays_below {n₀ B : Nat} {w₀ : World} (hn : n₀ ≤ w₀.heap.size) (hB : n₀ ≤ B) : Stays B fun W => Below n₀ w₀ W := ownFrom_below hn hB
theorem kf_below {B : Nat} {W W' : World} (hb : Below W.heap.size W W') : KeepsFrom B W W' := ⟨hb.size, fun k o _ hk _ => (hb.block k (Array.getElem?_eq_some_iff.1 hk).1).trans hk⟩
theorem kf_set (B : Nat) (W : World) (p : Addr) (v : Value) : KeepsFrom B W (W.setCell p v) := (KeepsOthers.setCell W p v).from B
/-- the word that a round is handed -/
def GW (B : Nat) (k : Nat) (v : Value) (W : World) : Prop := W.ownsRow B 3 1 v (wd k).length (is (wd k))
theorem GW.stays (B0 B k : Nat) (v : Value) : Stays B0 (GW B k v) := stays_own _ _ _ _ _ _ _
set_option maxRecDepth 100000 in
set_option maxHeartbeats 2000000 in
theorem words_gives (n : Nat) (hn : 2 ≤ n) (w : World) : Gives Fence.wide n Tryz.prog 122 #[] 138 (GW w.heap.size) w := fun l J Jx W hW hJ hY h0 => by
  refine callsIn_of_wp Tryz.func122 rfl trivial ?_ rfl
  simp only [Tryz.ntmps122, List.size_toArray, List.length_cons, List.length_nil, Nat.reduceAdd, Nat.reduceSub, Array.replicate_succ, Array.replicate_zero, List.push_toArray, List.append_toArray, List.nil_append, List.cons_append]
  have hW0 := hW.size
  have hn1 : 1 ≤ n := by omega
  have hn2 : 1 ≤ n - 1 := by omega
  clear hW
  gi_wp2
  gi_loopw [8] (fun i wr => ∃ k : Nat, k ≤ 86 ∧ i = .int .i64 k ∧ J k wr ∧ w.heap.size ≤ wr.heap.size) (fun i _ => 86 - (intOf i).toNat)
  case atStart => exact ⟨0, by omega, rfl, h0, hW0⟩
  case round =>
    obtain ⟨k, hk, rfl, hJk, hs⟩ := hrel
    clear h0 hW0
    by_cases hlt : k < 86
    · have hlt' : (k : Int) < 86 := by omega
      have hG : ∀ (v : Value) (w1 : World), w1.ownsRow wr.heap.size 3 1 v 26 (is (pw k)) → GW w.heap.size k v w1 := fun v w1 ho => by
        have e : wd k = pw k := if_pos hlt
        unfold GW
        rw [e, pw_length]
        exact own_mono ho hs
      have HG := Lib.hid hG; clear hG
      gi_wp2_with (refine ⟨trivial, ?_⟩; gi_at_call 123; refine (callsIn_wide.2 (pword_ok k _ _ rfl hlt)).mono ?_; rintro e w1 ⟨v, rfl, ho, hb⟩; have hs1 := hb.size; obtain ⟨fn, tmps, assign, body, hy, hR⟩ := hY k v w1 (by omega) (hJ k wr w1 hJk hb) (HG.out v w1 ho); clear ho hb)
      refine hR.mono ?_
      rintro e W3 (⟨rfl, hJ3, hs3⟩ | ⟨rfl, hJx3⟩)
      · gi_wp2
        go_roundw
        case rel => exact ⟨k + 1, by omega, by go_num, hJ3, by omega⟩
        case measure => simp [intOf]; omega
      · gi_wp2
        exact bodyPost_ret (results_none rfl _ _ _) rfl ⟨⟨_, rfl⟩, .inr hJx3⟩
    · obtain rfl : k = 86 := by omega
      rw [show ((86 : Nat) : Int) = 86 from rfl]
      gi_wp2
      gi_loopw [21] (fun i wr => ∃ k : Nat, k ≤ 52 ∧ i = .int .i64 k ∧ J (86 + k) wr ∧ w.heap.size ≤ wr.heap.size) (fun i _ => 52 - (intOf i).toNat)
      case atStart => exact ⟨0, by omega, rfl, hJk, hs⟩
      case round =>
        clear hJk hs hlt
        obtain ⟨k, hk, rfl, hJk, hs⟩ := hrel
        by_cases hlt : k < 52
        · have hlt' : (k : Int) < 52 := by omega
          have hG : ∀ (v : Value) (w1 : World), w1.ownsRow wr.heap.size 3 1 v 45 (is (qw k)) → GW w.heap.size (86 + k) v w1 := fun v w1 ho => by
            have e : wd (86 + k) = qw k := by unfold wd; rw [if_neg (by omega)]; congr 1; omega
            unfold GW
            rw [e, qw_length]
            exact own_mono ho hs
          have HG := Lib.hid hG; clear hG
          gi_wp2_with (refine ⟨trivial, ?_⟩; gi_at_call 124; refine (callsIn_wide.2 (qword_ok k _ _ rfl hlt)).mono ?_; rintro e w1 ⟨v, rfl, ho, hb⟩; have hs1 := hb.size; obtain ⟨fn, tmps, assign, body, hy, hR⟩ := hY (86 + k) v w1 (by omega) (hJ _ _ w1 hJk hb) (HG.out v w1 ho); clear ho hb)
          refine hR.mono ?_
          rintro e W3 (⟨rfl, hJ3, hs3⟩ | ⟨rfl, hJx3⟩)
          · gi_wp2
            go_roundw
            case rel => exact ⟨k + 1, by omega, by go_num, hJ3, by omega⟩
            case measure => simp [intOf]; omega
          · gi_wp2
            exact bodyPost_ret (results_none rfl _ _ _) rfl ⟨⟨_, rfl⟩, .inr hJx3⟩
        · obtain rfl : k = 52 := by omega
          gi_wp2
          go_end0
          exact ⟨⟨_, rfl⟩, .inl hJk⟩
end Go.Proofs.YtflmjdjkfognjaaGreat.W8
