/- Parts: XChg XD3 XD4 -/
import Derived.Test.YtflmjdjkfognjaaGreatTe11
import Derived.Test.YtflmjdjkfognjaaGreatTe04
import Derived.Test.YtflmjdjkfognjaaGreatTe08
namespace Go.Proofs.YtflmjdjkfognjaaGreat
open Go.RowKit
set_option linter.unusedVariables false
theorem ixI_mem {l : List Int} {i : Nat} (h : i < l.length) : ixI l i ∈ l := by
  unfold ixI; rw [List.getD_eq_getElem?_getD, List.getElem?_eq_getElem h]; exact List.getElem_mem h
set_option maxRecDepth 100000 in
set_option maxHeartbeats 1000000 in
theorem indexI_any (v : Value) (l : List Int) (x : Int) (w : World) (hv : RdI w v l) :
    Calls Tryz.prog 237 #[v, .int .i64 x] w fun e w' => ∃ k : Int, e = .returned (.int .i64 k) ∧ (0 ≤ k ↔ G.cont l x = true) ∧ -1 ≤ k ∧ w = w' := by
  obtain ⟨h0, ⟨a, cap, b, off, rfl, hcap, hcell⟩, hrng⟩ := hv
  have HC := Lib.hid hcell; clear hcell
  have HR := Lib.hid hrng; clear hrng
  go_enter Tryz.func237, Tryz.ntmps237
  go_wp2_with fail
  go_loop [5, 8] (fun _ vk => ∃ k : Nat, k ≤ l.length ∧ vk = .int .i64 k ∧ Hid (∀ i, i < k → ixI l i ≠ x)) (fun _ vk => l.length - (intOf vk).toNat)
  case atStart => exact ⟨0, by omega, rfl, Lib.hid (fun i h => by omega)⟩
  case round =>
    obtain ⟨k, hk, rfl, hz⟩ := hrel
    by_cases hlt : k < l.length
    · obtain ⟨ha, hcp⟩ := HC.out k hlt
      have hix := run_idx (P := Tryz.prog) Tryz.underlying53 Tryz.sizeInt (cap := cap) ha hlt _ rfl w
      have Ha := Lib.hid ha; clear ha
      obtain ⟨y, hy⟩ : ∃ y, y = ixI l k := ⟨_, rfl⟩
      rw [← hy] at hcp
      have Hy := Lib.hid hy; clear hy
      by_cases hc : x = y
      · have hb : (x == y) = true := by simpa using hc
        have Hc := Lib.hid hc; clear hc
        go_wp2_with fail
        go_ret
        refine ⟨_, rfl, ⟨fun _ => ?_, fun _ => by omega⟩, by omega, rfl⟩
        rw [G.cont_iff, Hc.out, Hy.out]
        exact ixI_mem hlt
      · have hb : (x == y) = false := by simpa using hc
        have Hc := Lib.hid hc; clear hc
        go_wp2_with fail
        go_round
        case rel =>
          refine ⟨k + 1, by omega, by go_num, Lib.hid fun i hi => ?_⟩
          by_cases e : i = k
          · rw [e, ← Hy.out]; exact fun h => Hc.out h.symm
          · exact hz.out i (by omega)
        case measure => simp [intOf]; omega
    · go_wp2_with fail
      go_ret
      refine ⟨_, rfl, ⟨fun h => by omega, fun h => ?_⟩, by omega, rfl⟩
      exfalso
      rw [G.cont_iff] at h
      obtain ⟨i, hi, e⟩ := List.getElem_of_mem h
      refine hz.out i (by omega) ?_
      unfold ixI; rw [List.getD_eq_getElem?_getD, List.getElem?_eq_getElem hi]; exact e
theorem containsI_any (v : Value) (l : List Int) (x : Int) (w : World) (hv : RdI w v l) :
    Calls Tryz.prog 209 #[v, .int .i64 x] w fun e w' => e = .returned (.bool (G.cont l x)) ∧ w = w' := by
  go_enter Tryz.func209, Tryz.ntmps209
  go_wp2_with fail
  refine (indexI_any v l x _ hv).mono ?_
  rintro e w' ⟨k, rfl, hk, hk1, rfl⟩
  have hd : decide (0 ≤ k) = G.cont l x := by
    rw [Bool.eq_iff_iff, decide_eq_true_eq]; exact hk
  clear hk
  go_wp2_with fail
  go_ret
  exact ⟨rfl, rfl⟩
theorem run_sidx {P : Program} {t : TypeId} (ht : P.underlying t = some .string) (l : List UInt8) (k : Nat) (hk : k < l.length) (i : Int) (hi : i = k) (w : World) :
    (Instr.index t (.string (str l)) (.int .i64 i)).run P w = .ok (B (G.ix l k)) w := by
  subst hi
  have h1 : (str l).size = l.length := str_size l
  have h2 : ((str l)[k]'(by rw [h1]; exact hk)) = l[k] := by simp [str, ByteArray.getElem_eq_getElem_data]
  simp [Instr.index, asIntOf, run_underlying ht, h1, hk, h2, G.ix]
set_option maxRecDepth 100000 in
set_option maxHeartbeats 2000000 in
theorem changes_any (p q : List UInt8) (ve : Value) (l : List Int) (w : World) (hpq : q.length = p.length) (hp : p.length ≤ 255) (hv : RdI w ve l) :
    Calls Tryz.prog 163 #[.string (str p), .string (str q), ve] w fun e w' => e = .returned (.tuple #[.int .i64 (G.allN p q p.length), .int .i64 (G.othN p q l p.length)]) ∧ Below w.heap.size w w' := by
  have hs := str_size p
  obtain ⟨n, hn⟩ : ∃ n, n = p.length := ⟨_, rfl⟩
  rw [← hn] at hpq hp hs ⊢
  have HN := Lib.hid hn; clear hn
  have HQ := Lib.hid hpq; clear hpq
  obtain ⟨va, vl, vc, rfl⟩ : ∃ a l c, ve = .slice a l c := by
    obtain ⟨_, ⟨a, c, _, _, rfl, _, _⟩, _⟩ := hv
    exact ⟨_, _, _, rfl⟩
  have hv0 := hv
  go_enter Tryz.func163, Tryz.ntmps163
  go_wp2_with fail
  go_loopw [8, 9, 10, 13] (fun va vo _ vk wr => ∃ k : Nat, k ≤ n ∧ vk = .int .i64 k ∧ va = .int .i64 (G.allN p q k) ∧ vo = .int .i64 (G.othN p q l k) ∧ Below w.heap.size w wr) (fun _ _ _ vk _ => n - (intOf vk).toNat)
  case atStart => exact ⟨0, by omega, rfl, rfl, rfl, Below.refl _ _⟩
  case round =>
    obtain ⟨k, hk, rfl, rfl, rfl, hb⟩ := hrel
    by_cases hlt : k < n
    · have hv' := hv0.keep (hb : Below w.heap.size w wr)
      have hi1 := fun wx => run_sidx (P := Tryz.prog) Tryz.underlying9 p k (by rw [← HN.out]; exact hlt) _ rfl wx
      have hi2 := fun wx => run_sidx (P := Tryz.prog) Tryz.underlying9 q k (by rw [HQ.out]; exact hlt) _ rfl wx
      have h1 := G.allN_le p q k
      have h2 := G.othN_le p q l k
      obtain ⟨A1, hA⟩ : ∃ A1, A1 = G.allN p q k := ⟨_, rfl⟩
      obtain ⟨O1, hO⟩ : ∃ O1, O1 = G.othN p q l k := ⟨_, rfl⟩
      rw [← hA] at h1 ⊢
      rw [← hO] at h2 ⊢
      have HA := Lib.hid hA; clear hA
      have HO := Lib.hid hO; clear hO
      by_cases hc : G.ix p k = G.ix q k
      · have hcb : (((G.ix p k).toNat : Int) == ((G.ix q k).toNat : Int)) = true := by rw [hc]; simp
        have Hc := Lib.hid hc; clear hc
        go_wp2_with fail
        go_quiet (fail)
        go_wp2_with fail
        go_roundw
        case rel => exact ⟨k + 1, by omega, by go_num, by rw [G.allN, if_pos Hc.out, HA.out]; simp, by rw [G.othN, if_pos Hc.out, HO.out]; simp, Below.drewN hb _⟩
        case measure => simp [intOf]; omega
      · have hcb : (((G.ix p k).toNat : Int) == ((G.ix q k).toNat : Int)) = false := by
          rw [beq_eq_false_iff_ne]; intro h; apply hc; apply UInt8.toNat_inj.1; omega
        have Hc := Lib.hid hc; clear hc
        go_wp2_with fail
        go_quiet (fail)
        go_wp2_with fail
        have hB := Below.drewN hb nq
        have hvn : RdI (wr.drewN nq) (.slice va vl vc) l := hv'.keepW (fun k hk => rfl)
        generalize wr.drewN nq = w2 at hB hvn ⊢
        refine (containsI_any _ l _ _ hvn).mono ?_
        rintro e w' ⟨rfl, rfl⟩
        cases hct : G.cont l (k : Int) with
        | true =>
          have Ht := Lib.hid hct; clear hct
          go_wp2_with fail
          go_roundw
          case rel => exact ⟨k + 1, by omega, by go_num, by rw [G.allN, if_neg Hc.out, HA.out]; go_num, by rw [G.othN, if_neg Hc.out, HO.out, Ht.out]; simp, hB⟩
          case measure => simp [intOf]; omega
        | false =>
          have Ht := Lib.hid hct; clear hct
          go_wp2_with fail
          go_roundw
          case rel => exact ⟨k + 1, by omega, by go_num, by rw [G.allN, if_neg Hc.out, HA.out]; go_num, by rw [G.othN, if_neg Hc.out, HO.out, Ht.out]; simp, hB⟩
          case measure => simp [intOf]; omega
    · obtain rfl : k = n := by omega
      go_wp2_with fail
      go_ret2
      exact ⟨rfl, hb⟩
end Go.Proofs.YtflmjdjkfognjaaGreat
namespace Go.Proofs.YtflmjdjkfognjaaGreat.C9
open Go.RowKit W8
set_option linter.unusedVariables false
def fl28 (N : Nat) (p : Nat → Nat → UInt8) : List UInt8 := (List.range (N * 28)).map fun x => p (x / 28) (x % 28)
theorem fl28_length (N : Nat) (p : Nat → Nat → UInt8) : (fl28 N p).length = N * 28 := by simp [fl28]
theorem fl28_get {N g i : Nat} (p : Nat → Nat → UInt8) (hg : g < N) (hi : i < 28) : (fl28 N p)[g * 28 + i]? = some (p g i) := by
  have e1 : (g * 28 + i) / 28 = g := by omega
  have e2 : (g * 28 + i) % 28 = i := by omega
  have e3 : g * 28 + i < N * 28 := by omega
  simp [fl28, e1, e2, e3]
theorem fl28_congr {N : Nat} {p q : Nat → Nat → UInt8} (h : ∀ g i, g < N → i < 28 → p g i = q g i) : fl28 N p = fl28 N q := List.map_congr_left fun x hx => by
  have := List.mem_range.1 hx
  exact h _ _ (by omega) (by omega)
theorem fl28_set {N g i : Nat} (p : Nat → Nat → UInt8) (hi : i < 28) (c : UInt8) : (fl28 N p).set (g * 28 + i) c = fl28 N (fun g' i' => if g' = g ∧ i' = i then c else p g' i') := by
  apply List.ext_getElem?
  intro x
  rw [List.getElem?_set, fl28_length]
  by_cases hx : x < N * 28
  · have e : x / 28 * 28 + x % 28 = x := by omega
    have h1 := fl28_get (N := N) (g := x / 28) (i := x % 28) p (by omega) (by omega)
    have h2 := fl28_get (N := N) (g := x / 28) (i := x % 28) (fun g' i' => if g' = g ∧ i' = i then c else p g' i') (by omega) (by omega)
    rw [e] at h1 h2
    rw [h1, h2]
    by_cases hh : g * 28 + i = x
    · rw [if_pos hh, if_pos (by omega), if_pos (by omega)]
    · rw [if_neg hh, if_neg (by omega)]
  · rw [List.getElem?_eq_none (l := fl28 N p) (by rw [fl28_length]; omega), List.getElem?_eq_none (l := fl28 N _) (by rw [fl28_length]; omega)]
    split
    · rw [if_neg (by omega)]
    · rfl
def symX (d : List UInt8) (f k g i : Nat) : UInt8 := if 4 * i ≤ g ∧ (g - 4 * i < f ∨ (g - 4 * i = f ∧ i < k)) then G.ix (wrd d (g - 4 * i)) i else 0
theorem symX_zero (d : List UInt8) (g i : Nat) : symX d 0 0 g i = 0 := by unfold symX; rw [if_neg (by omega)]
theorem symX_step (d : List UInt8) (N f k : Nat) (hk : k < 28) : (fl28 N (symX d f k)).set ((f + 4 * k) * 28 + k) (G.ix (wrd d f) k) = fl28 N (symX d f (k + 1)) := by
  rw [fl28_set _ hk]
  refine fl28_congr fun g i _ hi => ?_
  unfold symX
  by_cases h : g = f + 4 * k ∧ i = k
  · obtain ⟨rfl, rfl⟩ := h
    rw [if_pos ⟨rfl, rfl⟩, if_pos ⟨by omega, .inr ⟨by omega, by omega⟩⟩, Nat.add_sub_cancel]
  · rw [if_neg h]
    by_cases h2 : 4 * i ≤ g ∧ (g - 4 * i < f ∨ (g - 4 * i = f ∧ i < k))
    · rw [if_pos h2, if_pos ⟨h2.1, by omega⟩]
    · rw [if_neg h2, if_neg]
      intro h3
      omega
theorem symX_next (d : List UInt8) (N f : Nat) : fl28 N (symX d f 28) = fl28 N (symX d (f + 1) 0) := fl28_congr fun g i _ hi => by
  unfold symX
  by_cases h : 4 * i ≤ g ∧ (g - 4 * i < f ∨ (g - 4 * i = f ∧ i < 28))
  · rw [if_pos h, if_pos ⟨h.1, by omega⟩]
  · rw [if_neg h, if_neg (by omega)]
theorem symX_all (d : List UInt8) (n g i : Nat) : symX d n 0 g i = sym d n g i := by
  unfold symX sym
  by_cases h : 4 * i ≤ g ∧ g - 4 * i < n
  · rw [if_pos h, if_pos ⟨h.1, .inl h.2⟩]
  · rw [if_neg h, if_neg (by omega)]
theorem fl28_zero (N : Nat) (p : Nat → Nat → UInt8) (h : ∀ g i, p g i = 0) : fl28 N p = List.replicate (N * 28) 0 := by
  apply List.ext_getElem
  · simp [fl28]
  · intro x h1 h2
    simp [fl28, h]
theorem Tryz.sizeRow28 : (Tryz.prog.info? 179).map (·.size) = some 28 := by kernel_rfl
set_option maxRecDepth 100000 in
set_option maxHeartbeats 1000000 in
theorem enc1_any (i fr wb rb gr N : Nat) (wd : List UInt8) (R : List UInt8) (w : World) (hw : w.cell? ⟨wb, 0, none⟩ = some (.string (str wd))) (hr : w.cell? ⟨rb, 0, none⟩ = some (.slice (some ⟨gr, 0, none⟩) N N))
    (hb : Bx w gr 179 (bs R)) (hR : R.length = N * 28) (hi : i < 28) (hwl : wd.length = 28) (hfr : fr < N) (x : Int) (hx : x = fr) :
    Calls Tryz.prog 87 #[.int .i64 i, .int .i64 x, .pointer (some ⟨wb, 0, none⟩), .pointer (some ⟨rb, 0, none⟩)] w fun e w' => e = .returned (.tuple #[]) ∧ w' = w.drew.setCell ⟨gr, fr * 28 + i, none⟩ (B (G.ix wd i)) := by
  have hix := fun w' => run_idxS Tryz.underlying177 Tryz.sizeRow28 (a := some ⟨gr, 0, none⟩) (cap := N) rfl hfr x hx w'
  simp only [Nat.zero_add] at hix
  have Hx := Lib.hid hx; clear hx
  have hs := str_size wd
  have hcl : w.cell? ⟨gr, fr * 28 + i, none⟩ = some (B (G.ix R (fr * 28 + i))) := hb.cell (bs_get (by omega))
  have hfz := hb.free (fr * 28 + i)
  have hi' : (i : Int) < 28 := by omega
  have hstr : ∀ W, (Instr.index 9 (.string (str wd)) (.int .i64 (i : Int))).run Tryz.prog W = .ok (B (G.ix wd i)) W := fun W => run_sidx Tryz.underlying9 wd i (by omega) _ rfl W
  clear hb
  go_enter Tryz.func87, Tryz.ntmps87
  go_wp2_with fail
  go_still_tail 8, (by kernel_rfl)
  repeat still_step
  change wpList _ _ _ _ _ w.drew
  go_wp2_with fail
  go_end0
  exact ⟨rfl, rfl⟩
def EncS (gr : Nat) (R : List UInt8) (w : World) (e : Ending) (w' : World) : Prop := e = .returned (.tuple #[]) ∧ Bx w' gr 179 (bs R) ∧ Below gr w w' ∧ ∀ k, k < w.heap.size → k ≠ gr → w'.heap[k]? = w.heap[k]?
set_option maxRecDepth 100000 in
set_option maxHeartbeats 1000000 in
theorem collect_enc (d : List UInt8) (f n N wb rb gr : Nat) (w : World) (hd : d.length = 24 * n) (hf : f < n) (hn : n ≤ 784) (hN : N = n + 108) (hwb : wb ≠ gr) (hrb : rb ≠ gr) (hw : w.cell? ⟨wb, 0, none⟩ = some (.string (str (wrd d f)))) (hr : w.cell? ⟨rb, 0, none⟩ = some (.slice (some ⟨gr, 0, none⟩) N N))
    (hb : Bx w gr 179 (bs (fl28 N (symX d f 0)))) :
    Calls Tryz.prog 86 #[.int .i64 f, .func (.func 87) #[] #[.pointer (some ⟨wb, 0, none⟩), .pointer (some ⟨rb, 0, none⟩)]] w (EncS gr (fl28 N (symX d f 28)) w) := by
  have hwl := wrd_length hd hf
  have hbl1 := World.block_lt_of_cell? w _ hw
  have hbl2 := World.block_lt_of_cell? w _ hr
  have HW := Lib.hid hw
  have HR := Lib.hid hr
  have HB := Lib.hid hb
  have HS := Lib.hid (fun k hk => symX_step d N f k hk)
  have HL := Lib.hid (fun k => fl28_length N (symX d f k))
  generalize wrd d f = wd at *
  have hN1 : n + 108 ≤ N := by omega
  have hN2 : N ≤ n + 108 := by omega
  have HWL := Lib.hid hwl
  clear hw hr hb hd hN hwl
  simp only at hbl1 hbl2
  go_enter Tryz.func86, Tryz.ntmps86
  go_wp2_with fail
  go_loopw [5] (fun vi wr => ∃ i : Nat, i ≤ 28 ∧ vi = .int .i64 i ∧ Bx wr gr 179 (bs (fl28 N (symX d f i))) ∧ Below gr w wr ∧ Hid (∀ k, k < w.heap.size → k ≠ gr → wr.heap[k]? = w.heap[k]?)) (fun vi _ => 28 - (intOf vi).toNat)
  case atStart => exact ⟨0, by omega, rfl, HB.out, Below.refl _ _, Lib.hid fun k _ _ => rfl⟩
  case round =>
    obtain ⟨i, hi, rfl, hbx, hbe, HK⟩ := hrel
    by_cases hit : i < 28
    · have hit' : (i : Int) < 28 := by omega
      have hcw : wr.cell? ⟨wb, 0, none⟩ = some (.string (str wd)) := (World.cell?_of_block (w := w) (a := ⟨wb, 0, none⟩) (HK.out wb hbl1 hwb)).trans HW.out
      have hcr : wr.cell? ⟨rb, 0, none⟩ = some (.slice (some ⟨gr, 0, none⟩) N N) := (World.cell?_of_block (w := w) (a := ⟨rb, 0, none⟩) (HK.out rb hbl2 hrb)).trans HR.out
      have HC := Lib.hid (enc1_any i (f + 4 * i) wb rb gr N wd _ wr hcw hcr hbx (HL.out i) hit HWL.out (by omega) ((f : Int) + 4 * i) (by omega))
      have hset := hbx.set ((f + 4 * i) * 28 + i) (B (G.ix wd i))
      rw [bs_set, HS.out i hit] at hset
      have HSET := Lib.hid hset
      have HBX := Lib.hid hbx
      clear hcw hcr hset hbx
      go_wp2_with fail
      refine HC.out.mono ?_
      rintro e w1 ⟨rfl, rfl⟩
      go_wp2_with fail
      go_roundw
      case rel =>
        refine ⟨i + 1, by omega, by go_num, HSET.out, (hbe.drew).setCell (Nat.le_refl _) _, Lib.hid fun k hk hkb => ?_⟩
        exact (Below.heap_setCell wr ⟨gr, (f + 4 * i) * 28 + i, none⟩ (B (G.ix wd i)) k hkb).trans (HK.out k hk hkb)
      case measure => simp [intOf]; omega
    · obtain rfl : i = 28 := by omega
      go_wp2_with fail
      go_end0
      exact ⟨rfl, hbx, hbe, HK.out⟩
end Go.Proofs.YtflmjdjkfognjaaGreat.C9
namespace Go.Proofs.YtflmjdjkfognjaaGreat.C9
open Go.RowKit W8
set_option linter.unusedVariables false
def ssD (x : List UInt8) : List Value := [.string (str x)]
theorem ssD_len (x : List UInt8) : (ssD x).length = 1 := rfl
theorem ssD_one (x : List UInt8) : ∀ u ∈ ssD x, u.oneCell' = true := fun u hu => by
  simp only [ssD, List.mem_singleton] at hu
  subst hu
  rfl
def RdStr (w : World) (v : Value) (l : List (List UInt8)) : Prop := RdD [] ssD 1 w v l
theorem ss_append (l : List (List UInt8)) (x : List UInt8) : flD ssD (l ++ [x]) = flD ssD l ++ [.string (str x)] := by rw [flD_append, flD_single]; rfl
theorem Tryz.infoStr9 : (Tryz.prog.info? 9).map (fun i => (i.zero, i.size, i.bytes)) = some (some (.string ⟨#[]⟩), 1, 16) := by kernel_rfl
theorem Tryz.infoRow28 : (Tryz.prog.info? 179).map (fun i => (i.zero, i.size, i.bytes)) = some (some (.agg (bs (List.replicate 28 0)).toArray), 28, 28) := by kernel_rfl
def EncP (R : List (List UInt8) × Int) (w : World) (e : Ending) (w' : World) : Prop := ∃ v, e = .returned (.tuple #[v, .int .i64 R.2]) ∧ w'.ownsRow w.heap.size 9 1 v R.1.length (flD ssD R.1) ∧ Below w.heap.size w w'
theorem EncP.none (c : Int) {w : World} {e : Ending} {w' : World} (he : e = .returned (.tuple #[.slice none 0 0, .int .i64 c])) (hb : Below w.heap.size w w') : EncP ([], c) w e w' := ⟨_, he, ⟨rfl, .inl ⟨rfl, rfl⟩⟩, hb⟩
theorem run_cut9 {P : Program} {t : TypeId} (ht : P.underlying t = some .string) (l : List UInt8) (lo hi : Nat) (h1 : lo ≤ hi) (h2 : hi ≤ l.length) (x y : Int) (hx : x = lo) (hy : y = hi) (w : World) :
    (Instr.slice t (.string (str l)) (some (.int .i64 x)) (some (.int .i64 y)) none).run P w = .ok (.string (str ((l.drop lo).take (hi - lo)))) w := by
  subst hx hy
  have e : (str l).extract lo hi = str ((l.drop lo).take (hi - lo)) := by
    apply ByteArray.ext
    rw [ByteArray.data_extract]
    simp [str]
  simp [Instr.slice, run_underlying ht, Instr.sliceBounds, run_sliceBound, str_size, h2, h1, e]
theorem made_same (z : Array Value) (c : Value) (hz : 0 < z.size) (h : ∀ i, i < z.size → z[i]! = c) (n : Nat) : (madeCells z n).toList = List.replicate n c := by
  apply List.ext_getElem
  · simp [madeCells]
  · intro i h1 h2
    simp only [madeCells, Array.toList_map, List.getElem_map, List.getElem_replicate]
    exact h _ (Nat.mod_lt _ hz)
theorem made_rep (m : Nat) (hm : 0 < m) (n : Nat) : (madeCells (bs (List.replicate m 0)).toArray n).toList = List.replicate n (B 0) :=
  made_same (bs (List.replicate m 0)).toArray (B 0) (by simpa [bs] using hm) (fun i hi => by
    have hi' : i < m := by simpa [bs] using hi
    simp [bs, hi']) _
theorem wpList_mkRows {P : Program} {w : World} {ops : Array Oper} {rest : List Oper} {o : Oper} {a : Act} {Q : Exit → Act → World → Prop}
    (hg : o.guard = none) (l c : Operand) {t : TypeId} (hop : o.op = Op.makeSlice t l c)
    {e : TypeId} (h1 : P.underlying t = some (.slice e)) (h2 : (P.info? e).map (fun i => (i.zero, i.size, i.bytes)) = some (some (.agg (bs (List.replicate 28 0)).toArray), 28, 28))
    {L C : Int} (n : Nat) (hl : a.eval l = .int .i64 L) (hc : a.eval c = .int .i64 C) (hL : L = (n : Int)) (hC : C = (n : Int)) (b3 : n ≤ 1000000)
    (hK : ∀ w', Bx w' w.heap.size e (bs (List.replicate (n * 28) 0)) → Below w.heap.size w w' → wpList P ops Q rest (a.put o.dst (.slice (some ⟨w.heap.size, 0, none⟩) n n)) w') :
    wpList P ops Q (o :: rest) a w := by
  obtain ⟨i0, hi, hz0, hz1, hz2⟩ := info_parts h2
  refine wpList_make_full w hg l c t hop w.heap.size e i0 _ 28 h1 hi hz0 hz1 .i64 .i64 L C n hl hc hL hC (by rw [hz2]; omega) (by unfold maxLen; omega) (Nat.le_refl _) fun w' h3 h4 => hK w' ?_ ((Below.refl _ _).grown h4 (Nat.le_refl _) (fun k hk => by cases hk))
  have e1 : (madeCells (Value.agg (bs (List.replicate 28 0)).toArray).cells (n * 28)).toList = bs (List.replicate (n * 28) 0) := by
    rw [bs_replicate (n * 28)]
    exact made_rep 28 (by omega) _
  rw [e1] at h3
  exact Bx.ofOwn h3
set_option maxRecDepth 100000 in
set_option maxHeartbeats 1000000 in
theorem pencode_arg (d : List UInt8) (w : World) (hl : d.length ≤ 9223372036854775807) (h : d.length = 0 ∨ d.length % 24 ≠ 0) : Calls Tryz.prog 30 #[.string (str d)] w (EncP ([], 1) w) := by
  have hs := str_size d
  generalize d.length = n at *
  by_cases h0 : n / 24 = 0
  · have hq : (((n : Int) / 24) == 0) = true := by rw [beq_iff_eq]; omega
    clear h h0
    go_enter Tryz.func30, Tryz.ntmps30
    go_wp2_with fail
    go_ret2
    exact EncP.none 1 rfl (Below.refl _ _)
  · have hq : (((n : Int) / 24) == 0) = false := by rw [beq_eq_false_iff_ne]; omega
    have hm : (((n : Int) % 24) != 0) = true := by rw [bne_iff_ne]; omega
    clear h h0
    go_enter Tryz.func30, Tryz.ntmps30
    go_wp2_with fail
    go_ret2
    exact EncP.none 1 rfl (Below.refl _ _)
set_option maxRecDepth 100000 in
set_option maxHeartbeats 1000000 in
theorem pencode_big (d : List UInt8) (n : Nat) (w : World) (hl : d.length ≤ 9223372036854775807) (hd : d.length = 24 * n) (h : 784 < n) : Calls Tryz.prog 30 #[.string (str d)] w (EncP ([], 7) w) := by
  have hs := str_size d
  rw [hd] at hs hl
  have hq : (((n : Int)) == 0) = false := by rw [beq_eq_false_iff_ne]; omega
  clear hd
  go_enter Tryz.func30, Tryz.ntmps30
  go_wp2_with fail
  go_ret2
  exact EncP.none 7 rfl (Below.refl _ _)
structure EnW (w0 : World) (N gr gb : Nat) (R : List UInt8) (W : World) : Prop where
  r : Bx W gr 179 (bs R)
  b : Bx W gb 177 [.slice (some ⟨gr, 0, none⟩) N N]
  le : Below w0.heap.size w0 W
  g1 : w0.heap.size ≤ gr
  g2 : gr < gb
theorem EnW.keep {w0 W W' : World} {N gr gb : Nat} {R : List UInt8} (h : EnW w0 N gr gb R W) (hb : Below (gb + 1) W W') : EnW w0 N gr gb R W' :=
  have h1 := h.g1
  have h2 := h.g2
  ⟨h.r.keepB hb (by omega), h.b.keepB hb (by omega), h.le.trans (hb.mono (by omega)), h1, h2⟩
theorem EnW.size {w0 W : World} {N gr gb : Nat} {R : List UInt8} (h : EnW w0 N gr gb R W) : gb + 1 ≤ W.heap.size := h.b.lt
theorem EnW.call {w0 W W' : World} {N gr gb : Nat} {R : List UInt8} (h : EnW w0 N gr gb R W) (hb : Below W.heap.size W W') : EnW w0 N gr gb R W' := h.keep (hb.mono h.size)
theorem EnW.enc {w0 W W' : World} {N gr gb : Nat} {R R' : List UInt8} {e : Ending} (h : EnW w0 N gr gb R W) (hs : EncS gr R' W e W') : EnW w0 N gr gb R' W' := by
  obtain ⟨_, h1, h2, h3⟩ := hs
  have g1 := h.g1
  have g2 := h.g2
  exact ⟨h1, (h3 gb h.b.lt (by omega)).trans h.b, h.le.trans (h2.mono g1), g1, g2⟩
theorem row_rd {W : World} {N gr g : Nat} {d : List UInt8} {n : Nat} (h : Bx W gr 179 (bs (fl28 N (symX d n 0)))) (hg : g < N) : Rd W (.slice (some ⟨gr, g * 28, none⟩) 28 28) (rowK d n g 28) := by
  have hl := rowK_length d n g 28
  refine ⟨by omega, some ⟨gr, g * 28, none⟩, 28, gr, g * 28, by rw [hl], by omega, fun i hi => ⟨rfl, ?_⟩⟩
  rw [hl] at hi
  have h2 : G.ix (fl28 N (symX d n 0)) (g * 28 + i) = G.ix (rowK d n g 28) i := by
    rw [ix_rowK _ _ _ _ _ hi, ← symX_all]
    have := fl28_get (N := N) (symX d n 0) hg hi
    unfold G.ix
    rw [List.getD_eq_getElem?_getD, this]
    rfl
  rw [← h2]
  exact h.cell (bs_get (by rw [fl28_length]; omega))
set_option maxRecDepth 100000 in
set_option maxHeartbeats 4000000 in
theorem pencode_ok (d : List UInt8) (n : Nat) (w : World) (hd : d.length = 24 * n) (h1 : 1 ≤ n) (h2 : n ≤ 784) : Calls Tryz.prog 30 #[.string (str d)] w (EncP (frms d n (n + 108), 0) w) := by
  have hs := str_size d
  rw [hd] at hs
  have hq : (((n : Int)) == 0) = false := by rw [beq_eq_false_iff_ne]; omega
  have HF := Lib.hid (fun W => (frames_any n W).mono (fun e w' (h : e = _ ∧ W = w') => (by rw [frN_ok h1 (by omega)] at h; exact h : e = .returned (.int .i64 ((n + 108 : Nat) : Int)) ∧ W = w')))
  have HD := Lib.hid hd
  obtain ⟨N, hN⟩ : ∃ N, N = n + 108 := ⟨_, rfl⟩
  rw [← hN] at HF ⊢
  have hN1 : n + 108 ≤ N := by omega
  have hN2 : N ≤ n + 108 := by omega
  have HN := Lib.hid hN
  clear hd hN
  go_enter Tryz.func30, Tryz.ntmps30
  go_wp2_with fail
  refine (HF.out _).mono ?_
  rintro e w' ⟨rfl, rfl⟩
  go_wp2_with (refine wpList_mkRows rfl _ _ rfl Tryz.underlying177 Tryz.infoRow28 N rfl rfl rfl rfl (by omega) ?_; intro w2 hbx2 hb2; have hsz2 := hbx2.lt)
  have hen : EnW w N w.heap.size w2.heap.size (fl28 N (symX d 0 0)) (w2.alloc (.cells #[.slice (some ⟨w.heap.size, 0, none⟩) N N] 177)) := by
    rw [fl28_zero N _ (symX_zero d)]
    exact ⟨hbx2.alloc _, Bx.new _ _ _, hb2.alloc hb2.size _, Nat.le_refl _, hsz2⟩
  obtain ⟨gb, hgb⟩ : ∃ gb, gb = w2.heap.size := ⟨_, rfl⟩
  obtain ⟨gr, hgr⟩ : ∃ gr, gr = w.heap.size := ⟨_, rfl⟩
  generalize hw3 : w2.alloc (.cells #[.slice (some ⟨w.heap.size, 0, none⟩) N N] 177) = w3 at hen ⊢
  simp only [← hgb] at hen ⊢
  simp only [← hgr] at hen ⊢
  have hgb1 : gr < gb := hen.g2
  have hgr1 := hen.g1
  clear hbx2 hb2 hsz2 hgb hgr hw3 hq
  go_loopw [32] (fun vf wr => ∃ f : Nat, f ≤ n ∧ vf = .int .i64 f ∧ EnW w N gr gb (fl28 N (symX d f 0)) wr) (fun vf _ => n - (intOf vf).toNat)
  case atStart => exact ⟨0, by omega, rfl, hen⟩
  case round =>
    clear hen
    obtain ⟨f, hf, rfl, hen⟩ := hrel
    obtain ⟨wo, rfl⟩ : ∃ wo : World, wo = wr := ⟨_, rfl⟩
    by_cases hlt : f < n
    · have hlt' : (f : Int) < (n : Int) := by omega
      have hcut := fun W => run_cut9 (P := Tryz.prog) Tryz.underlying9 d (24 * f) (24 * (f + 1)) (by omega) (by rw [HD.out]; omega) (24 * (f : Int)) (24 * ((f : Int) + 1)) (by omega) (by omega) W
      have hdl := dat_length HD.out hlt
      have e24 : 24 * (f + 1) - 24 * f = 24 := by omega
      rw [e24] at hcut
      simp only [show (d.drop (24 * f)).take 24 = dat d f from rfl] at hcut
      have HE := Lib.hid (fun W => encode_ok (dat d f) 4 W (by intro e; rw [e] at hdl; simp at hdl) (by omega) (by omega) (by omega))
      have HNX := Lib.hid (symX_next d N f)
      have hsz := hen.size
      have HEN := Lib.hid hen
      clear hdl e24 hen
      go_wp2_with fail
      refine (HE.out _).mono ?_
      rintro e w4 ⟨rfl, hb4⟩
      have hen4 := HEN.out.call hb4
      have hen5 := hen4.call ((Below.refl w4.heap.size w4).alloc (Nat.le_refl _) (.cells #[.string (str (wrd d f))] 9))
      have hwb := Bx.new w4 9 [.string (str (wrd d f))]
      have hs4 := hen4.size
      have HCO := Lib.hid (collect_enc d f n N w4.heap.size gb gr (w4.alloc (.cells #[.string (str (wrd d f))] 9)) HD.out hlt h2 HN.out (by omega) (by omega) (hwb.cell (i := 0) rfl) (hen5.b.cell (i := 0) rfl) hen5.r)
      have HEN5 := Lib.hid hen5
      clear hcut HE hb4 hen4 hen5 hwb
      go_wp2_with fail
      refine HCO.out.mono ?_
      intro e w6 hco
      have hen6 := HEN5.out.enc hco
      obtain ⟨rfl, _⟩ := hco
      rw [HNX.out] at hen6
      go_wp2_with fail
      go_roundw
      case rel => exact ⟨f + 1, by omega, by go_num, hen6⟩
      case measure => simp [intOf]; omega
    · obtain rfl : f = n := by omega
      have hcb := hen.b.cell (i := 0) rfl
      go_wp2_with fail
      go_loopw [9, 52] (fun vo vg wr => ∃ g : Nat, g ≤ N ∧ vg = .int .i64 g ∧ wr.ownsRow (gb + 1) 9 1 vo (frms d f g).length (flD ssD (frms d f g)) ∧ EnW w N gr gb (fl28 N (symX d f 0)) wr) (fun _ vg _ => N - (intOf vg).toNat)
      case atStart => exact ⟨0, by omega, rfl, ⟨rfl, .inl ⟨rfl, rfl⟩⟩, hen⟩
      case round =>
        clear hen hcb
        obtain ⟨g, hg, rfl, ho, hen⟩ := hrel
        obtain ⟨wq, rfl⟩ : ∃ wq : World, wq = wr := ⟨_, rfl⟩
        have hsz := hen.size
        by_cases hgt : g < N
        · have hgt' : (g : Int) < (N : Int) := by omega
          have HL := Lib.hid (frms_succ d f g)
          have hll := frms_length d f g
          obtain ⟨L, hL⟩ : ∃ L, L = frms d f g := ⟨_, rfl⟩
          rw [← hL] at HL ho hll
          clear hL
          have hcb := hen.b.cell (i := 0) rfl
          have hix := fun w' => run_idxS Tryz.underlying177 Tryz.sizeRow28 (a := some ⟨gr, 0, none⟩) (cap := N) rfl hgt (g : Int) rfl w'
          simp only [Nat.zero_add] at hix
          have hrd := row_rd hen.r hgt
          have hconv := run_str (P := Tryz.prog) Tryz.underlying123 Tryz.underlying5 Tryz.underlying9 hrd
          have HE := Lib.hid (fun W => encode_ok (rowK d f g 28) 4 W (by intro e; have := rowK_length d f g 28; rw [e] at this; simp at this) (by omega) (by omega) (by have := rowK_length d f g 28; omega))
          have HEN := Lib.hid hen
          have HO := Lib.hid ho
          clear hen ho hrd
          go_wp2_with fail
          refine (HE.out _).mono ?_
          rintro e w7 ⟨rfl, hb7⟩
          change Hid (frms d f (g + 1) = L ++ [G.enc (rowK d f g 28) 4]) at HL
          generalize G.enc (rowK d f g 28) 4 = x at HL ⊢
          have hA := hb7.alloc hb7.size (.cells #[.string (str x)] 9)
          have hoa := ownD_keep HO.out hA
          have hbas := hA.size
          have HA := Lib.hid hA
          clear hconv hix hb7 hA hcb
          go_wp2_with (at_builtin; refine wpList_ap1 rfl _ _ rfl Tryz.underlying47 Tryz.infoStr9 rfl hoa rfl (g := w7.heap.size) (y := .string (str x)) rfl (by simp) rfl (by unfold maxLen; omega) (by omega) (by omega) ?_; intro v8 w8 hown8 hgr8 hno8)
          have hb8 := (Below.refl (gb + 1) (w7.alloc (.cells #[.string (str x)] 9))).grown hgr8 (by omega) (fun q hq => by have := ownD_block hoa q hq; omega)
          have hen8 := (HEN.out.call HA.out).keep hb8
          clear hoa hgr8 hno8 hb8
          go_roundw
          case rel => exact ⟨g + 1, by omega, by go_num, by rw [HL.out, ss_append, List.length_append]; exact hown8, hen8⟩
          case measure => simp [intOf]; omega
        · obtain rfl : g = N := by omega
          have HLE := Lib.hid hen.le
          have HO := Lib.hid ho
          obtain ⟨ao, co, rfl⟩ := ownD_form ho
          clear ho hen
          go_wp2_with fail
          go_ret2
          exact ⟨_, rfl, own_mono HO.out (by omega), HLE.out⟩
end Go.Proofs.YtflmjdjkfognjaaGreat.C9
