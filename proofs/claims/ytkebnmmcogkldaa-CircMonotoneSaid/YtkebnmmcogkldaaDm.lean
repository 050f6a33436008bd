/- Chapter 9: the laws CircDecodes and CircReturns. -/
import Derived.Test.YtkebnmmcogkldaaDb
import Derived.Test.YtkebnmmcogkldaaDecW
import Derived.Test.YtkebnmmcogkldaaRow
import Derived.Deep.CutBlock
import Derived.Test.YtkebnmmcogkldaaRef4
import Derived.Deep.RegionHeld3
import Derived.Test.YtkebnmmcogkldaaGauss
import Derived.Test.YtkebnmmcogkldaaMg
import Derived.Deep.LoopGhost
import Derived.Deep.RegionWith
import Derived.Deep.DeepMust
import Derived.Deep.DeepCutAuto
import Derived.RegionTactic
import Derived.ChangeAlike
import Derived.Test.YtkebnmmcogkldaaOpen
import Derived.Test.YtkebnmmcogkldaaEras
import Derived.Test.YtkebnmmcogkldaaD8
/- Chapter 9: collect of the package with the two closures of Decode walked. -/
namespace Go.Proofs.Ytkebnmmcogkldaa.C9
open Go.RowKit W8
set_option linter.unusedVariables false

/-- the rows that the first loop of Decode leaves -/
def rwK (F : List (List UInt8)) (N g : Nat) : List (List UInt8) := (List.range N).map fun h => if h < g then (got F h).take 28 else []
/-- the word while it is filled -/
def wdZ (F : List (List UInt8)) (f i : Nat) : List UInt8 := wdD F f i ++ List.replicate (28 - i) 0
theorem wdZ_length (F : List (List UInt8)) (f i : Nat) (h : i ≤ 28) : (wdZ F f i).length = 28 := by unfold wdZ; rw [List.length_append, wdD_length, List.length_replicate]; omega
theorem wdZ_zero (F : List (List UInt8)) (f : Nat) : wdZ F f 0 = List.replicate 28 0 := by simp [wdZ, wdD]
theorem wdZ_all (F : List (List UInt8)) (f : Nat) : wdZ F f 28 = wdD F f 28 := by simp [wdZ]
theorem wdZ_set (F : List (List UInt8)) (f i : Nat) (h : i < 28) : (wdZ F f i).set i (G.ix (got F (f + 4 * i)) i) = wdZ F f (i + 1) := by
  unfold wdZ
  rw [wdD_succ, List.append_assoc, List.set_append_right _ _ (by rw [wdD_length]; exact Nat.le_refl _), wdD_length, Nat.sub_self]
  congr 1
  rw [show 28 - i = (28 - (i + 1)) + 1 from by omega, List.replicate_succ]
  rfl
theorem wdZ_same (F : List (List UInt8)) (f i : Nat) (h : i < 28) (h0 : got F (f + 4 * i) = []) : wdZ F f (i + 1) = wdZ F f i := by
  rw [← wdZ_set F f i h, h0]
  unfold wdZ
  rw [List.set_append_right _ _ (by rw [wdD_length]; exact Nat.le_refl _), wdD_length, Nat.sub_self, show 28 - i = (28 - (i + 1)) + 1 from by omega, List.replicate_succ]
  rfl
/-- what the closure of Decode writes: the erased positions and the word -/
def DcS (gw gwb eb : Nat) (E : List Int) (Wd : List UInt8) (w : World) (e : Ending) (w' : World) : Prop :=
  e = .returned (.tuple #[]) ∧ ErB eb E w' ∧ Bx w' gw 5 (bs Wd) ∧ Bx w' gwb 59 [.slice (some ⟨gw, 0, none⟩) 28 28] ∧ Below gw w w'
set_option maxRecDepth 100000 in
set_option maxHeartbeats 1000000 in
theorem dec1_no (i : Int) (fr rb gr N eb wb : Nat) (E : List Int) (w : World) (hr : w.cell? ⟨rb, 0, none⟩ = some (.slice (some ⟨gr, 0, none⟩) N N)) (hc : w.cell? ⟨gr, fr, none⟩ = some (.string (str []))) (hfr : fr < N) (x : Int) (hx : x = fr) (he : ErB eb E w) (hE : E.length ≤ 1000) :
    Calls Try.prog 42 #[.int .i64 i, .int .i64 x, .pointer (some ⟨rb, 0, none⟩), .pointer (some ⟨eb, 0, none⟩), .pointer (some ⟨wb, 0, none⟩)] w (ErP eb (E ++ [i]) w) := by
  have hix := fun w' => run_idxS Try.underlying36 (by kernel_rfl : (Try.prog.info? 9).map (·.size) = some 1) (a := some ⟨gr, 0, none⟩) (cap := N) rfl hfr x hx w'
  simp only [Nat.mul_one, Nat.zero_add] at hix
  have hc' : w.cell? ⟨gr, fr, none⟩ = some (.string ⟨#[]⟩) := hc
  have Hx := Lib.hid hx; clear hx hc
  obtain ⟨ve, hbx, hoe⟩ := he
  have hc0 := hbx.cell (i := 0) rfl
  have hlt := hbx.lt
  have hoa := ownD_keep hoe ((Below.refl w.heap.size w).alloc (Nat.le_refl _) (.cells #[.int .i64 i] 3))
  have hba := (Below.refl eb w).alloc (Nat.le_of_lt hlt) (.cells #[.int .i64 i] 3)
  have hbxa := hbx.alloc (.cells #[.int .i64 i] 3)
  have hbas : eb + 1 ≤ (w.alloc (.cells #[.int .i64 i] 3)).heap.size := by simp; omega
  have HBX := Lib.hid hbxa
  clear hbx hoe hbxa
  go_enter Try.func42, Try.ntmps42
  go_wp2_with (at_builtin; refine wpList_ap1 rfl _ _ rfl Try.underlying24 Try.infoInt9 rfl hoa rfl (g := w.heap.size) (y := .int .i64 i) rfl (by simp) rfl (by unfold maxLen; omega) (by omega) hbas ?_; intro v7 w7 hown7 hgr7 hno7; obtain ⟨a7, c7, rfl⟩ := ownD_form hown7; have hbx7 := bx_off HBX.out hgr7 (fun h => by have := ownD_block hoa eb h; omega); have hb7 := hba.grown hgr7 (by omega) (fun q hq => by have := ownD_block hoa q hq; omega); have hc7 := hbx7.cell (i := 0) rfl; have hf7 := hbx7.free 0; clear hoa hba hbas hgr7 hno7 hc0)
  go_end0
  exact ⟨rfl, ⟨_, hbx7.set 0 _, by rw [is_append, List.length_append]; exact ownD_far hown7 (by simp only; omega) _⟩, hb7.setCell (Nat.le_refl _) _⟩
set_option maxRecDepth 100000 in
set_option maxHeartbeats 1000000 in
theorem dec1_yes (i fr rb gr N eb wb gw : Nat) (y Wd : List UInt8) (w : World) (hr : w.cell? ⟨rb, 0, none⟩ = some (.slice (some ⟨gr, 0, none⟩) N N)) (hc : w.cell? ⟨gr, fr, none⟩ = some (.string (str y))) (hfr : fr < N) (x : Int) (hx : x = fr) (hy : y ≠ []) (hi : i < y.length) (h28 : i < 28)
    (hw : w.cell? ⟨wb, 0, none⟩ = some (.slice (some ⟨gw, 0, none⟩) 28 28)) (hb : Bx w gw 5 (bs Wd)) (hW : Wd.length = 28) :
    Calls Try.prog 42 #[.int .i64 i, .int .i64 x, .pointer (some ⟨rb, 0, none⟩), .pointer (some ⟨eb, 0, none⟩), .pointer (some ⟨wb, 0, none⟩)] w fun e w' => e = .returned (.tuple #[]) ∧ w' = w.drew.setCell ⟨gw, i, none⟩ (B (G.ix y i)) := by
  have hix := fun w' => run_idxS Try.underlying36 (by kernel_rfl : (Try.prog.info? 9).map (·.size) = some 1) (a := some ⟨gr, 0, none⟩) (cap := N) rfl hfr x hx w'
  have hix2 := fun w' => run_idxS Try.underlying59 (by kernel_rfl : (Try.prog.info? 5).map (·.size) = some 1) (a := some ⟨gw, 0, none⟩) (cap := 28) rfl h28 (i : Int) rfl w'
  simp only [Nat.mul_one, Nat.zero_add] at hix hix2
  have Hx := Lib.hid hx; clear hx
  have hcl : w.cell? ⟨gw, i, none⟩ = some (B (G.ix Wd i)) := hb.cell (bs_get (by omega))
  have hfz := hb.free i
  have hstr : ∀ W, (Instr.index 9 (.string (str y)) (.int .i64 (i : Int))).run Try.prog W = .ok (B (G.ix y i)) W := fun W => run_sidx Try.underlying9 y i hi _ rfl W
  have hne : (str y).toList = y := str_toList y
  have hy2 : ¬ (str y).toList = [] := by rw [hne]; exact hy
  have hy3 : (str y).toList.isEmpty = false := by rw [hne]; cases y with | nil => exact absurd rfl hy | cons a b => rfl
  have hsy := str_size y
  obtain ⟨q, hq⟩ : ∃ q, q = G.ix y i := ⟨_, rfl⟩
  rw [← hq] at hstr ⊢
  obtain ⟨ny, hny⟩ : ∃ n, n = y.length := ⟨_, rfl⟩
  rw [← hny] at hsy hi
  generalize str y = Y at *
  clear hb hne hy hq hW hny
  go_enter Try.func42, Try.ntmps42
  go_wp2_with fail
  go_still_tail 9, (by kernel_rfl)
  repeat still_step
  change wpList _ _ _ _ _ w.drew
  go_wp2_with fail
  go_end0
  exact ⟨rfl, rfl⟩
/-- the rows, all of them written -/
def rwA (F : List (List UInt8)) (N : Nat) : List (List UInt8) := (List.range N).map fun h => (got F h).take 28
theorem rwA_length (F : List (List UInt8)) (N : Nat) : (rwA F N).length = N := by simp [rwA]
theorem rwA_at (F : List (List UInt8)) {N h : Nat} (hh : h < N) : atD [] (rwA F N) h = (got F h).take 28 := by simp [atD, rwA, hh]
/-- the frames are empty or have 32 bytes -/
def okK (F : List (List UInt8)) (k : Nat) : Prop := ∀ m, m < k → (frA F m).length = 0 ∨ (frA F m).length = 32
theorem got_ok {F : List (List UInt8)} {N g : Nat} (h : okK F N) (hg : g < N) : got F g = [] ∨ (got F g).length = 32 := by
  rcases got_length F g with h1 | h1
  · exact .inl h1
  · rcases h g hg with h2 | h2
    · rw [h2] at h1
      exact .inl (List.eq_nil_of_length_eq_zero h1)
    · exact .inr (by omega)
set_option maxRecDepth 100000 in
set_option maxHeartbeats 1000000 in
theorem collect_dec (F : List (List UInt8)) (f n N gr rb gw gwb eb : Nat) (w : World) (hf : f < n) (hN : N = n + 108) (hn : n ≤ 784) (hok : okK F N) (o1 : gr < gw) (o2 : rb < gw) (o3 : gw < gwb) (o4 : gwb < eb)
    (hb : Bx w gr 9 (flD ssD (rwA F N))) (hr : w.cell? ⟨rb, 0, none⟩ = some (.slice (some ⟨gr, 0, none⟩) N N))
    (hw : Bx w gw 5 (bs (List.replicate 28 0))) (hwb : Bx w gwb 59 [.slice (some ⟨gw, 0, none⟩) 28 28]) (he : ErB eb [] w) :
    Calls Try.prog 32 #[.int .i64 f, .func (.func 42) #[] #[.pointer (some ⟨rb, 0, none⟩), .pointer (some ⟨eb, 0, none⟩), .pointer (some ⟨gwb, 0, none⟩)]] w (DcS gw gwb eb (erD F f 28) (wdD F f 28) w) := by
  have HB := Lib.hid hb
  have HR := Lib.hid hr
  have HW := Lib.hid hw
  have HWB := Lib.hid hwb
  have HE := Lib.hid he
  have HOK := Lib.hid (fun (g : Nat) (hg : g < N) => got_ok hok hg)
  have hN1 : n + 108 ≤ N := by omega
  have hN2 : N ≤ n + 108 := by omega
  have HCL := Lib.hid (fun (g : Nat) (hg : g < N) => (show w.cell? ⟨gr, g, none⟩ = some (.string (str ((got F g).take 28))) from hb.cell (by
    have e := flD_get (d := ([] : List UInt8)) (D := ssD) ssD_len (rwA F N) g 0 (by rw [rwA_length]; exact hg) (by omega)
    rw [Nat.mul_one, Nat.add_zero, rwA_at F hg] at e
    exact e)))
  clear hb hr hw hwb he hN hok
  go_enter Try.func32, Try.ntmps32
  go_wp2_with fail
  go_loopw [5] (fun vi wr => ∃ i : Nat, i ≤ 28 ∧ vi = .int .i64 i ∧ ErB eb (erD F f i) wr ∧ Bx wr gw 5 (bs (wdZ F f i)) ∧ Bx wr gwb 59 [.slice (some ⟨gw, 0, none⟩) 28 28] ∧ Below gw w wr) (fun vi _ => 28 - (intOf vi).toNat)
  case atStart => exact ⟨0, by omega, rfl, HE.out, by rw [wdZ_zero]; exact HW.out, HWB.out, Below.refl _ _⟩
  case round =>
    obtain ⟨i, hi, rfl, hee, hww, hwwb, hbe⟩ := hrel
    by_cases hit : i < 28
    · have hit' : (i : Int) < 28 := by omega
      have hgN : f + 4 * i < N := by omega
      have hcr : wr.cell? ⟨rb, 0, none⟩ = some (.slice (some ⟨gr, 0, none⟩) N N) := (hbe.cell (p := ⟨rb, 0, none⟩) o2).trans HR.out
      have hcl : wr.cell? ⟨gr, f + 4 * i, none⟩ = some (.string (str ((got F (f + 4 * i)).take 28))) := (hbe.cell (p := ⟨gr, f + 4 * i, none⟩) o1).trans (HCL.out _ hgN)
      have HS := Lib.hid (erD_succ F f i)
      have HZ := Lib.hid (wdZ_set F f i hit)
      have HZ2 := Lib.hid (wdZ_same F f i hit)
      have hel := erD_length F f i
      have hzl := wdZ_length F f i hi
      rcases HOK.out _ hgN with hg | hg
      · rw [hg] at hcl HS
        have HS2 : Hid (erD F f (i + 1) = erD F f i ++ [(i : Int)]) := Lib.hid (HS.out.trans (if_pos (by rfl)))
        have HZ3 := Lib.hid (HZ2.out hg)
        have HK := Lib.hid (dec1_no i (f + 4 * i) rb gr N eb gwb (erD F f i) wr hcr hcl hgN ((f : Int) + 4 * i) (by omega) hee (by omega))
        have HW2 := Lib.hid hww
        have HWB2 := Lib.hid hwwb
        clear hcr hcl HS HZ HZ2 hee hg hww hwwb hzl
        go_wp2_with fail
        refine HK.out.mono ?_
        rintro e w1 ⟨rfl, he1, hb1⟩
        go_wp2_with fail
        go_roundw
        case rel => exact ⟨i + 1, by omega, by go_num, by rw [HS2.out]; exact he1, by rw [HZ3.out]; exact HW2.out.keepB hb1 (by omega), HWB2.out.keepB hb1 o4, hbe.trans (hb1.mono (by omega))⟩
        case measure => simp [intOf]; omega
      · have HS2 : Hid (erD F f (i + 1) = erD F f i) := Lib.hid (by rw [HS.out, if_neg (by cases e : got F (f + 4 * i) with | nil => rw [e] at hg; simp at hg | cons a b => simp)])
        have hy : ((got F (f + 4 * i)).take 28).length = 28 := by rw [List.length_take, hg]; rfl
        have hyi : G.ix ((got F (f + 4 * i)).take 28) i = G.ix (got F (f + 4 * i)) i := ix_take hit
        have HK := Lib.hid (dec1_yes i (f + 4 * i) rb gr N eb gwb gw ((got F (f + 4 * i)).take 28) (wdZ F f i) wr hcr hcl hgN ((f : Int) + 4 * i) (by omega) (by intro e; rw [e] at hy; simp at hy) (by omega) hit (hwwb.cell (i := 0) rfl) hww hzl)
        rw [hyi] at HK
        have hset := hww.set i (B (G.ix (got F (f + 4 * i)) i))
        rw [bs_set, HZ.out] at hset
        have HSET := Lib.hid hset
        have HEE := Lib.hid hee
        have HWB2 := Lib.hid hwwb
        clear hcr hcl HS HZ HZ2 hee hg hww hwwb hzl hy hyi hset
        go_wp2_with fail
        refine HK.out.mono ?_
        rintro e w1 ⟨rfl, rfl⟩
        go_wp2_with fail
        go_roundw
        case rel =>
          obtain ⟨ve, hv1, hv2⟩ := HEE.out
          exact ⟨i + 1, by omega, by go_num, by rw [HS2.out]; exact ⟨ve, hv1.far (by simp only; omega) _, ownD_far (base := eb + 1) hv2 (by simp only; omega) _⟩, HSET.out, HWB2.out.far (by simp only; omega) _, (hbe.drew).setCell (Nat.le_refl _) _⟩
        case measure => simp [intOf]; omega
    · obtain rfl : i = 28 := by omega
      rw [wdZ_all] at hww
      go_wp2_with fail
      go_end0
      exact ⟨rfl, hee, hww, hwwb, hbe⟩
/-- the box 'eb' holds ints in blocks from 'Bs' on; of the blocks below it alone has changed -/
def ErQ (eb Bs : Nat) (E : List Int) (w : World) (e : Ending) (w' : World) : Prop := e = .returned (.tuple #[]) ∧ (∃ ve, Bx w' eb 24 [ve] ∧ w'.ownsRow Bs 3 1 ve E.length (is E)) ∧ Below eb w w' ∧ Bs ≤ w'.heap.size ∧ ∀ k, k < Bs → k ≠ eb → w'.heap[k]? = w.heap[k]?
set_option maxRecDepth 100000 in
set_option maxHeartbeats 1000000 in
theorem dec2_any (i x : Int) (eb Bs : Nat) (E : List Int) (w : World) (hlB : eb < Bs) (hB : Bs ≤ w.heap.size) (he : ∃ ve, Bx w eb 24 [ve] ∧ w.ownsRow Bs 3 1 ve E.length (is E)) (hE : E.length ≤ 1000) :
    Calls Try.prog 43 #[.int .i64 i, .int .i64 x, .pointer (some ⟨eb, 0, none⟩)] w (ErQ eb Bs (E ++ [i]) w) := by
  obtain ⟨ve, hbx, hoe⟩ := he
  have hc0 := hbx.cell (i := 0) rfl
  have hlt := hbx.lt
  have hoa := ownD_keep hoe ((Below.refl w.heap.size w).alloc (Nat.le_refl _) (.cells #[.int .i64 i] 3))
  have hba := (Below.refl eb w).alloc (Nat.le_of_lt hlt) (.cells #[.int .i64 i] 3)
  have hbxa := hbx.alloc (.cells #[.int .i64 i] 3)
  have hbas : Bs ≤ (w.alloc (.cells #[.int .i64 i] 3)).heap.size := by simp; omega
  have hbk := (Below.refl w.heap.size w).alloc (Nat.le_refl _) (.cells #[.int .i64 i] 3)
  have HBX := Lib.hid hbxa
  have HBK := Lib.hid hbk
  clear hbx hoe hbxa hbk
  go_enter Try.func43, Try.ntmps43
  go_wp2_with (at_builtin; refine wpList_ap1 rfl _ _ rfl Try.underlying24 Try.infoInt9 rfl hoa rfl (g := w.heap.size) (y := .int .i64 i) rfl (by simp) rfl (by unfold maxLen; omega) (by omega) hbas ?_; intro v7 w7 hown7 hgr7 hno7; obtain ⟨a7, c7, rfl⟩ := ownD_form hown7; have hbx7 := bx_off HBX.out hgr7 (fun h => by have := ownD_block hoa eb h; omega); have hb7 := hba.grown hgr7 (by omega) (fun q hq => by have := ownD_block hoa q hq; omega); have hq7 := (Below.refl Bs _).grown hgr7 hbas (ownD_block hoa); have HQ7 := Lib.hid hq7; have hc7 := hbx7.cell (i := 0) rfl; have hf7 := hbx7.free 0; clear hoa hba hbas hgr7 hno7 hc0 hq7)
  go_end0
  refine ⟨rfl, ⟨_, hbx7.set 0 _, by rw [is_append, List.length_append]; exact ownD_far hown7 (by simp only; omega) _⟩, hb7.setCell (Nat.le_refl _) _, ?_, fun k hk hne => ?_⟩
  · have h1 := HQ7.out.size
    have h2 := HBK.out.size
    simp only [World.size_setCell]
    omega
  · rw [Below.heap_setCell _ _ _ _ (by simp only; exact hne), HQ7.out.block k hk]
    exact HBK.out.block k (by omega)
theorem upI_succ (n : Nat) : upI (n + 1) = upI n ++ [(n : Int)] := by simp [upI, List.range_succ]
theorem upI_length (n : Nat) : (upI n).length = n := by simp [upI]
set_option maxRecDepth 100000 in
set_option maxHeartbeats 1000000 in
theorem collect_all (f eb Bs : Nat) (w : World) (hf : f ≤ 784) (hlB : eb < Bs) (hB : Bs ≤ w.heap.size) (he : ∃ ve, Bx w eb 24 [ve] ∧ w.ownsRow Bs 3 1 ve ([] : List Int).length (is [])) :
    Calls Try.prog 32 #[.int .i64 f, .func (.func 43) #[] #[.pointer (some ⟨eb, 0, none⟩)]] w (ErQ eb Bs (upI 28) w) := by
  have HE := Lib.hid he
  clear he
  go_enter Try.func32, Try.ntmps32
  go_wp2_with fail
  go_loopw [5] (fun vi wr => ∃ i : Nat, i ≤ 28 ∧ vi = .int .i64 i ∧ Hid (∃ ve, Bx wr eb 24 [ve] ∧ wr.ownsRow Bs 3 1 ve (upI i).length (is (upI i))) ∧ Below eb w wr ∧ Bs ≤ wr.heap.size ∧ Hid (∀ k, k < Bs → k ≠ eb → wr.heap[k]? = w.heap[k]?)) (fun vi _ => 28 - (intOf vi).toNat)
  case atStart => exact ⟨0, by omega, rfl, HE, Below.refl _ _, hB, Lib.hid fun k _ _ => rfl⟩
  case round =>
    obtain ⟨i, hi, rfl, HEE, hbe, hBr, HKK⟩ := hrel
    by_cases hit : i < 28
    · have hit' : (i : Int) < 28 := by omega
      have HS := Lib.hid (upI_succ i)
      have hul := upI_length i
      have HK := Lib.hid (fun x => dec2_any i x eb Bs (upI i) wr hlB hBr HEE.out (by omega))
      clear hul
      go_wp2_with fail
      refine (HK.out _).mono ?_
      rintro e w1 ⟨rfl, he1, hb1, hB1, hk1⟩
      have HE1 := Lib.hid he1
      have HK1 := Lib.hid hk1
      clear he1 hk1
      go_wp2_with fail
      go_roundw
      case rel => exact ⟨i + 1, by omega, by go_num, by rw [HS.out]; exact HE1, hbe.trans hb1, hB1, Lib.hid fun k hk hne => (HK1.out k hk hne).trans (HKK.out k hk hne)⟩
      case measure => simp [intOf]; omega
    · obtain rfl : i = 28 := by omega
      have HZ : Hid (ErQ eb Bs (upI 28) w (.returned (.tuple #[])) wr) := Lib.hid ⟨rfl, HEE.out, hbe, hBr, HKK.out⟩
      go_wp2_with fail
      go_end0
      exact HZ.out
end Go.Proofs.Ytkebnmmcogkldaa.C9
/- Chapter 9: Decode of the package walked. -/
namespace Go.Proofs.Ytkebnmmcogkldaa.C9
open Go.RowKit W8
set_option linter.unusedVariables false

theorem rwK_zero (F : List (List UInt8)) (N : Nat) : rwK F N 0 = List.replicate N [] := by
  apply List.ext_getElem <;> simp [rwK]
theorem rwK_length (F : List (List UInt8)) (N g : Nat) : (rwK F N g).length = N := by simp [rwK]
theorem rwK_all (F : List (List UInt8)) (N : Nat) : rwK F N N = rwA F N := List.map_congr_left fun h hh => by rw [if_pos (List.mem_range.1 hh)]
theorem rwK_set (F : List (List UInt8)) {N g : Nat} (hg : g < N) : (rwK F N g).set g ((got F g).take 28) = rwK F N (g + 1) := by
  apply List.ext_getElem
  · simp [rwK]
  · intro i h1 h2
    simp only [rwK, List.length_set, List.length_map, List.length_range] at h1
    simp only [rwK, List.getElem_set, List.getElem_map, List.getElem_range]
    by_cases h : g = i
    · subst h; rw [if_pos rfl, if_pos (by omega)]
    · rw [if_neg h]
      by_cases h3 : i < g
      · rw [if_pos h3, if_pos (by omega)]
      · rw [if_neg h3, if_neg (by omega)]
theorem rwK_same (F : List (List UInt8)) {N g : Nat} (hg : g < N) (h : got F g = []) : rwK F N (g + 1) = rwK F N g := by
  rw [← rwK_set F hg, h]
  apply List.ext_getElem
  · simp
  · intro i h1 h2
    simp only [rwK, List.getElem_set, List.getElem_map, List.getElem_range]
    by_cases h3 : g = i
    · subst h3; rw [if_pos rfl, if_neg (by omega)]; rfl
    · rw [if_neg h3]
theorem okK_true {F : List (List UInt8)} (h : okK F F.length) : okF F = true := by
  unfold okF
  rw [List.all_eq_true]
  intro x hx
  obtain ⟨i, hi, rfl⟩ := List.getElem_of_mem hx
  have e : frA F i = F[i] := by unfold frA; rw [List.getElem?_eq_getElem hi]; rfl
  have := h i hi
  rw [e] at this
  simpa using this
theorem okK_false {F : List (List UInt8)} {k : Nat} (hk : k < F.length) (h : ¬ ((frA F k).length = 0 ∨ (frA F k).length = 32)) : okF F = false := by
  rw [Bool.eq_false_iff]
  intro h2
  unfold okF at h2
  rw [List.all_eq_true] at h2
  have := h2 _ (List.getElem_mem hk)
  have e : frA F k = F[k] := by unfold frA; rw [List.getElem?_eq_getElem hk]; rfl
  rw [← e] at this
  exact h (by simpa using this)
def DecP (R : List UInt8 × List Int × Int) (w : World) (e : Ending) (w' : World) : Prop := ∃ v, e = .returned (.tuple #[.string (str R.1), v, .int .i64 R.2.2]) ∧ w'.ownsRow w.heap.size 3 1 v R.2.1.length (is R.2.1) ∧ Below w.heap.size w w'
theorem DecP.bad {w : World} {e : Ending} {w' : World} (he : e = .returned (.tuple #[.string ⟨#[]⟩, .slice none 0 0, .int .i64 1])) (hb : Below w.heap.size w w') : DecP ([], [], 1) w e w' := ⟨_, he, ownsRow_nil _ _ _, hb⟩
theorem ss_rep : ∀ n, flD ssD (List.replicate n []) = List.replicate n (Value.string ⟨#[]⟩)
  | 0 => rfl
  | n + 1 => by
    have := ss_rep n
    rw [List.replicate_succ, List.replicate_succ, ← this]
    rfl
/-- an owned row below a bound -/
theorem own_below {w w' : World} {b e sz n B : Nat} {v : Value} {xs : List Value} (h : w.ownsRow b e sz v n xs) (hk : ∀ k, v.ownBlock = some k → k < B) (hb : Below B w w') : w'.ownsRow b e sz v n xs := by
  refine ⟨h.1, ?_⟩
  rcases h.2 with h | ⟨g, cap, cur, rfl, hg, hh, r⟩
  · exact .inl h
  · exact .inr ⟨g, cap, cur, rfl, hg, (hb.block g (hk g rfl)).trans hh, r⟩
/-- 'make([]string, n)' -/
theorem wpList_mkStrs {P : Program} {w : World} {ops : Array Oper} {rest : List Oper} {o : Oper} {a : Act} {Q : Exit → Act → World → Prop}
    (hg : o.guard = none) (l c : Operand) {t : TypeId} (hop : o.op = Op.makeSlice t l c)
    {e : TypeId} (h1 : P.underlying t = some (.slice e)) (h2 : (P.info? e).map (fun i => (i.zero, i.size, i.bytes)) = some (some (.string ⟨#[]⟩), 1, 16))
    {L C : Int} (n : Nat) (hl : a.eval l = .int .i64 L) (hc : a.eval c = .int .i64 C) (hL : L = (n : Int)) (hC : C = (n : Int)) (b3 : n ≤ 1000000000)
    (hK : ∀ w', Bx w' w.heap.size e (flD ssD (List.replicate n [])) → Below w.heap.size w w' → wpList P ops Q rest (a.put o.dst (.slice (some ⟨w.heap.size, 0, none⟩) n n)) w') :
    wpList P ops Q (o :: rest) a w := by
  obtain ⟨i0, hi, hz0, hz1, hz2⟩ := info_parts h2
  refine wpList_make_full w hg l c t hop w.heap.size e i0 _ 1 h1 hi hz0 hz1 .i64 .i64 L C n hl hc hL hC (by rw [hz2]; omega) (by unfold maxLen; omega) (Nat.le_refl _) fun w' h3 h4 => hK w' ?_ ((Below.refl _ _).grown h4 (Nat.le_refl _) (fun k hk => by cases hk))
  have e1 : (madeCells (Value.string ⟨#[]⟩).cells (n * 1)).toList = flD ssD (List.replicate n []) := by
    simp only [Value.cells, toList_madeCells_one, Nat.mul_one]
    exact (ss_rep n).symm
  rw [e1] at h3
  exact Bx.ofOwn h3
/-- what Decode keeps in memory -/
structure DeW (w0 : World) (N gr gb : Nat) (R : List (List UInt8)) (W : World) : Prop where
  r : Bx W gr 9 (flD ssD R)
  b : Bx W gb 36 [.slice (some ⟨gr, 0, none⟩) N N]
  le : Below w0.heap.size w0 W
  g1 : w0.heap.size ≤ gr
  g2 : gr < gb
theorem DeW.keep {w0 W W' : World} {N gr gb : Nat} {R : List (List UInt8)} (h : DeW w0 N gr gb R W) (hb : Below (gb + 1) W W') : DeW w0 N gr gb R W' :=
  have h1 := h.g1
  have h2 := h.g2
  ⟨h.r.keepB hb (by omega), h.b.keepB hb (by omega), h.le.trans (hb.mono (by omega)), h1, h2⟩
theorem DeW.size {w0 W : World} {N gr gb : Nat} {R : List (List UInt8)} (h : DeW w0 N gr gb R W) : gb + 1 ≤ W.heap.size := h.b.lt
theorem DeW.call {w0 W W' : World} {N gr gb : Nat} {R : List (List UInt8)} (h : DeW w0 N gr gb R W) (hb : Below W.heap.size W W') : DeW w0 N gr gb R W' := h.keep (hb.mono h.size)
theorem DeW.put {w0 W : World} {N gr gb g : Nat} {R : List (List UInt8)} (h : DeW w0 N gr gb R W) (hg : g < R.length) (y : List UInt8) : DeW w0 N gr gb (R.set g y) (W.setCell ⟨gr, g, none⟩ (.string (str y))) := by
  have h1 := h.g1
  have h2 := h.g2
  have e := flD_set (d := ([] : List UInt8)) (D := ssD) ssD_len R g 0 hg (by omega) (.string (str y)) y rfl
  rw [Nat.mul_one, Nat.add_zero] at e
  exact ⟨by rw [← e]; exact h.r.set g _, h.b.far (by simp only; omega) _, h.le.setCell h1 _, h1, h2⟩
/-- what another row holds stays, if the elements are of another type -/
theorem apart9 {w : World} {b b' e e' sz sz' n n' : Nat} {v v' : Value} {xs xs' : List Value} (h : w.ownsRow b e sz v n xs) (h' : w.ownsRow b' e' sz' v' n' xs') (hne : e ≠ e') : ∀ k, v.ownBlock = some k → v'.ownBlock ≠ some k := by
  intro k hk hk'
  rcases h.2 with ⟨rfl, _⟩ | ⟨g, cap, cur, rfl, _, hg, _⟩
  · simp [Value.ownBlock] at hk
  rcases h'.2 with ⟨rfl, _⟩ | ⟨g', cap', cur', rfl, _, hg', _⟩
  · simp [Value.ownBlock] at hk'
  have e1 : g = k := by simpa [Value.ownBlock] using hk
  have e2 : g' = k := by simpa [Value.ownBlock] using hk'
  subst e1 e2
  rw [hg] at hg'
  simp only [Option.some.injEq, Obj.cells.injEq] at hg'
  exact hne hg'.2.1
theorem block9 {w : World} {b e sz n g t : Nat} {v : Value} {xs cs : List Value} (h : w.ownsRow b e sz v n xs) (hb : Bx w g t cs) (hne : t ≠ e) : v.ownBlock ≠ some g := by
  intro hk
  rcases h.2 with ⟨rfl, _⟩ | ⟨g', cap, cur, rfl, _, hg, _⟩
  · simp [Value.ownBlock] at hk
  have e1 : g' = g := by simpa [Value.ownBlock] using hk
  subst e1
  unfold Bx at hb
  rw [hg] at hb
  simp only [Option.some.injEq, Obj.cells.injEq] at hb
  exact hne hb.2.1.symm
theorem row9 {w : World} {b e sz n g t cap : Nat} {v : Value} {xs : List Value} {l : List UInt8} (h : w.ownsRow b e sz v n xs) (hb : Row w t g cap l) (hne : t ≠ e) : v.ownBlock ≠ some g := by
  intro hk
  rcases h.2 with ⟨rfl, _⟩ | ⟨g', cap', cur, rfl, _, hg, _⟩
  · simp [Value.ownBlock] at hk
  have e1 : g' = g := by simpa [Value.ownBlock] using hk
  subst e1
  obtain ⟨cur', fz, hg', _⟩ := hb
  rw [hg] at hg'
  simp only [Option.some.injEq, Obj.cells.injEq] at hg'
  exact hne hg'.2.1.symm
theorem row_off {w w' : World} {g t cap : Nat} {u : Value} {l : List UInt8} (h : Row w t g cap l) (hg : w.grownBy w' u.ownBlock) (ho : u.ownBlock ≠ some g) : Row w' t g cap l := h.keep (hg.block g h.lt fun e => ho e.symm)
theorem row_bx {w : World} {g n : Nat} {t : TypeId} {l : List UInt8} (h : Bx w g t (bs l)) (hl : l.length = n) : Row w t g n l := ⟨_, _, h, .inl rfl, by omega, by simp [bs_length, hl], by rw [List.take_of_length_le (by simp [bs_length])]⟩
theorem lo24_take (E : List Int) (k : Nat) (x : Int) (hx : E[k]? = some x) : lo24 (E.take (k + 1)) = if x < 24 then lo24 (E.take k) ++ [x] else lo24 (E.take k) := by
  obtain ⟨hk, rfl⟩ := List.getElem?_eq_some_iff.1 hx
  unfold lo24
  rw [List.take_succ_eq_append_getElem hk, List.filter_append]
  by_cases h : E[k] < 24
  · rw [if_pos h]; simp [h]
  · rw [if_neg h]; simp [h]
theorem lo24_len (E : List Int) (k : Nat) (h : E.length ≤ 28) : (lo24 (E.take k)).length ≤ 28 := by
  unfold lo24
  have h1 := List.length_filter_le (fun i => decide (i < 24)) (E.take k)
  have h2 : (E.take k).length ≤ E.length := List.length_take_le' _ _
  omega
theorem at24_app (f : Nat) (E : List Int) (x : Int) : at24 f (E ++ [x]) = at24 f E ++ [24 * (f : Int) + x] := by simp [at24]
theorem at24_len (f : Nat) (E : List Int) : (at24 f E).length = E.length := by simp [at24]
theorem run_bytes9 {P : Program} (w : World) {src dst e : TypeId} (hs : P.underlying src = some .string) (hd : P.underlying dst = some (.slice e)) (he : P.underlying e = some (.int .u8)) (l : List UInt8) (n : Nat) (hn : l.length = n) :
    ∃ w' cap, (convert src dst (.string (str l))).run P w = .ok (.slice (some ⟨w.heap.size, 0, none⟩) n cap) w' ∧ Row w' e w.heap.size cap l ∧ Below w.heap.size w w' ∧ n ≤ cap := by
  subst hn
  have hsz := str_size l
  refine ⟨_, _, by rw [Lib.run_convert_string_bytes (P := P) w src dst e (str l) hs hd he, hsz], ?_, ?_, ?_⟩
  · refine ⟨Lib.bytesCells w e (str l), _, Lib.bytesWorld_at_new w e (str l), .inr (Nat.le_refl _), ?_, by rw [size_bytesCells w e (str l), hsz], ?_⟩
    · have := grownCap_ge w l.length 0 e
      simpa using this
    · have hl : (str l).data.toList.length = l.length := rfl
      unfold Lib.bytesCells
      rw [Array.toList_append, List.take_append_of_le_length (by simp [← hl]), List.take_of_length_le (by simp [← hl])]
      simp [bs, str]
  · exact ⟨rfl, rfl, rfl, by rw [Lib.bytesWorld_size]; omega, fun k hk => Lib.bytesWorld_at_old w e (str l) k hk⟩
  · have := grownCap_ge w l.length 0 e
    simpa using this
/-- the strings' cut -/
theorem run_pre9 {P : Program} {t : TypeId} (ht : P.underlying t = some .string) (l : List UInt8) (k : Nat) (hk : k ≤ l.length) (x : Int) (hx : x = k) (w : World) : (Instr.slice t (.string (str l)) none (some (.int .i64 x)) none).run P w = .ok (.string (str (l.take k))) w := by
  subst hx
  have hs := str_size l
  have he : (str l).extract 0 k = str (l.take k) := by
    apply ByteArray.ext
    rw [ByteArray.data_extract]
    simp [str]
  simp [Instr.slice, run_underlying ht, Instr.sliceBounds, run_sliceBound, hs, hk, he]
set_option maxRecDepth 100000 in
set_option maxHeartbeats 1000000 in
theorem pdecode_len (va : Value) (F : List (List UInt8)) (w : World) (hF : RdStr w va F) (hl : F.length ≤ 9223372036854775807) (h : F.length < 109 ∨ 892 < F.length) :
    Calls Try.prog 26 #[va] w (DecP ([], [], 1) w) := by
  obtain ⟨a, c, rfl, _⟩ := RdD.form hF
  clear hF
  generalize F.length = n at *
  rcases h with h | h
  · have h1 : (n : Int) - 108 < 1 := by omega
    go_enter Try.func26, Try.ntmps26
    go_wp2_with fail
    go_ret3
    exact DecP.bad rfl (Below.refl _ _)
  · have h1 : ¬ (n : Int) - 108 < 1 := by omega
    have h2 : (784 : Int) < (n : Int) - 108 := by omega
    go_enter Try.func26, Try.ntmps26
    go_wp2_with fail
    go_ret3
    exact DecP.bad rfl (Below.refl _ _)
set_option maxRecDepth 100000 in
set_option maxHeartbeats 16000000 in
theorem pdecode_ok (va : Value) (F : List (List UInt8)) (n : Nat) (w : World) (hF : RdStr w va F) (hn : F.length = n + 108) (h1 : 1 ≤ n) (h2 : n ≤ 784) :
    Calls Try.prog 26 #[va] w (DecP (if okF F = false then ([], [], 1) else (datD F n, lstD F n, 0)) w) := by
  obtain ⟨a, c, rfl, _⟩ := RdD.form hF
  obtain ⟨b0, off, hcell⟩ := RdD.at hF
  have HC := Lib.hid hcell
  have HNO : Hid (∀ k, k < F.length → ¬ ((frA F k).length = 0 ∨ (frA F k).length = 32) → (if okF F = false then (([] : List UInt8), ([] : List Int), (1 : Int)) else (datD F n, lstD F n, 0)) = ([], [], 1)) := Lib.hid fun k hk h => by rw [okK_false hk h, if_pos rfl]
  have HYES : Hid (okK F F.length → (if okF F = false then (([] : List UInt8), ([] : List Int), (1 : Int)) else (datD F n, lstD F n, 0)) = (datD F n, lstD F n, 0)) := Lib.hid fun h => by rw [okK_true h, if_neg (by decide)]
  generalize (if okF F = false then (([] : List UInt8), ([] : List Int), (1 : Int)) else (datD F n, lstD F n, 0)) = RES at *
  obtain ⟨N, hN⟩ : ∃ N, N = F.length := ⟨_, rfl⟩
  rw [← hN] at HNO HYES HC hn ⊢
  have HN := Lib.hid hn
  have hN1 : n + 108 ≤ N := by omega
  have hN2 : N ≤ n + 108 := by omega
  have q1 : ¬ (N : Int) - 108 < 1 := by omega
  have q2 : ¬ (784 : Int) < (N : Int) - 108 := by omega
  have HQ : Hid ((N : Int) - 108 = (n : Int)) := Lib.hid (by omega)
  clear hF hcell hn hN
  go_enter Try.func26, Try.ntmps26
  go_wp2_with (refine wpList_mkStrs rfl _ _ rfl Try.underlying36 Try.infoStr9 N rfl rfl rfl rfl (by omega) ?_; intro w2 hbx2 hb2; have hsz2 := hbx2.lt)
  rw [HQ.out]
  have hen : DeW w N w.heap.size w2.heap.size (rwK F N 0) (w2.alloc (.cells #[.slice (some ⟨w.heap.size, 0, none⟩) N N] 36)) := by
    rw [rwK_zero]
    exact ⟨hbx2.alloc _, Bx.new _ _ _, hb2.alloc hb2.size _, Nat.le_refl _, hsz2⟩
  obtain ⟨gb, hgb⟩ : ∃ gb, gb = w2.heap.size := ⟨_, rfl⟩
  obtain ⟨gr, hgr⟩ : ∃ gr, gr = w.heap.size := ⟨_, rfl⟩
  generalize hw3 : w2.alloc (.cells #[.slice (some ⟨w.heap.size, 0, none⟩) N N] 36) = w3 at hen ⊢
  simp only [← hgb] at hen ⊢
  simp only [← hgr] at hen ⊢
  have hgb1 : gr < gb := hen.g2
  have hgr1 := hen.g1
  clear hbx2 hb2 hsz2 hgb hgr hw3 q1 q2
  go_loopw [36] (fun vg wr => ∃ g : Nat, g ≤ N ∧ vg = .int .i64 g ∧ Hid (okK F g) ∧ DeW w N gr gb (rwK F N g) wr) (fun vg _ => N - (intOf vg).toNat)
  case atStart => exact ⟨0, by omega, rfl, Lib.hid fun m hm => by omega, hen⟩
  case round =>
    clear hen
    obtain ⟨g, hg, rfl, HO, hen⟩ := hrel
    obtain ⟨wo, rfl⟩ : ∃ wo : World, wo = wr := ⟨_, rfl⟩
    have hsz := hen.size
    by_cases hlt : g < N
    · have hlt' : (g : Int) < (N : Int) := by omega
      obtain ⟨ha, hrange⟩ := HC.out g hlt
      change w.rangeAt b0 (off + g * 1) (ssD (frA F g)) at hrange
      have hcl : wo.cell? ⟨b0, off + g * 1, none⟩ = some (.string (str (frA F g))) := (hen.le.cell (p := ⟨b0, off + g * 1, none⟩) (World.block_lt_of_cell? w _ (hrange 0 _ rfl))).trans (hrange 0 _ rfl)
      have hix := fun w' => run_idxS Try.underlying36 (by kernel_rfl : (Try.prog.info? 9).map (·.size) = some 1) (cap := c) ha hlt (g : Int) rfl w'
      simp only [Nat.mul_one] at hix hcl
      have HS : Hid ((frA F g).length = 0 ∨ (frA F g).length = 32 → okK F (g + 1)) := Lib.hid fun h m hm => by
        by_cases e : m < g
        · exact HO.out m e
        · have : m = g := by omega
          rw [this]; exact h
      have HNOk := Lib.hid (HNO.out g hlt)
      have HD := Lib.hid (fun W => decode_any (frA F g) 4 (.slice none 0 0) [] W)
      have HG0 : Hid (frA F g = [] → got F g = []) := Lib.hid fun h => by unfold got; rw [h]; exact decode_nil _ _
      have HGE : Hid ((G.decode (frA F g) 4 []).1 = got F g) := Lib.hid rfl
      have HGB : Hid ((G.decode (frA F g) 4 []).2.2 ≠ 0 → got F g = []) := Lib.hid fun h => (G.decode_bad2 _ _ _ h).1
      have HGL : Hid ((G.decode (frA F g) 4 []).2.2 = 0 → (got F g).length = (frA F g).length) := Lib.hid fun h => (G.decode_sound _ _ _ h).choose_spec.2.1
      have HST := Lib.hid (rwK_set F hlt)
      have HSM := Lib.hid (rwK_same F hlt)
      have hrl := rwK_length F N g
      have hsy := str_size (frA F g)
      generalize frA F g = x at *
      have Ha := Lib.hid ha
      have HEN := Lib.hid hen
      have HR0 : Hid (∀ W, RdI W (.slice none 0 0) []) := Lib.hid fun W => ⟨by simp, ⟨none, 0, 0, 0, rfl, by simp, fun i hi => by simp at hi⟩, fun i hi => by simp at hi⟩
      clear ha hrange hen
      obtain ⟨nx, hnx⟩ : ∃ nx, nx = x.length := ⟨_, rfl⟩
      rw [← hnx] at hsy HS HNOk HD HGL
      have HNX := Lib.hid hnx
      clear hnx
      by_cases hx0 : nx = 0
      · subst hx0
        have hg0 := HG0.out (List.eq_nil_of_length_eq_zero HNX.out.symm)
        have HS2 := Lib.hid (HS.out (.inl rfl))
        have HSM2 := Lib.hid (HSM.out hg0)
        clear hg0 HD HGL
        go_wp2_with fail
        go_roundw
        case rel => exact ⟨g + 1, by omega, by go_num, HS2, by rw [HSM2.out]; exact HEN.out⟩
        case measure => simp [intOf]; omega
      · by_cases hx32 : nx = 32
        · subst hx32
          have HS2 := Lib.hid (HS.out (.inr rfl))
          have HD2 := Lib.hid (fun W => HD.out W (by omega) (HR0.out W) (by simp))
          have HGL2 := Lib.hid HGL.out
          clear HD HGL
          have hcb := HEN.out.b.cell (i := 0) rfl
          by_cases hcode : (G.decode x 4 []).2.2 = 0
          · have hgl : (got F g).length = 32 := HGL2.out hcode
            generalize G.decode x 4 [] = D at *
            obtain ⟨D1, D2, D3⟩ := D
            try simp only at hcode HGE
            subst hcode
            have hD1 := HGE.out
            try simp only at hD1
            subst hD1
            have hcut := fun W => run_pre9 (P := Try.prog) Try.underlying9 (got F g) 28 (by omega) 28 rfl W
            have hgix := fun w' => run_idxS Try.underlying36 (by kernel_rfl : (Try.prog.info? 9).map (·.size) = some 1) (a := some ⟨gr, 0, none⟩) (cap := N) rfl hlt (g : Int) rfl w'
            simp only [Nat.mul_one, Nat.zero_add] at hgix
            have HPUT := Lib.hid (fun (W : World) (hW : DeW w N gr gb (rwK F N g) W) => (show DeW w N gr gb (rwK F N (g + 1)) (W.setCell ⟨gr, g, none⟩ (.string (str ((got F g).take 28)))) from by rw [← HST.out]; exact hW.put (by rw [hrl]; exact hlt) _))
            have HLT : Hid (g < (rwK F N g).length) := Lib.hid (by rw [hrl]; exact hlt)
            clear hgl hrl hcb
            generalize (got F g).take 28 = Y at *
            go_wp2_with fail
            refine (HD2.out _).mono ?_
            rintro e w4 ⟨rfl, hb4⟩
            have hen4 := HEN.out.call hb4
            have hcb := hen4.b.cell (i := 0) rfl
            have hcr : w4.cell? ⟨gr, g, none⟩ = some (.string (str (atD [] (rwK F N g) g))) := hen4.r.cell (by
              have e := flD_get (d := ([] : List UInt8)) (D := ssD) ssD_len (rwK F N g) g 0 HLT.out (by omega)
              rw [Nat.mul_one, Nat.add_zero] at e
              exact e)
            have hfr := hen4.r.free g
            have HEN4 := Lib.hid (HPUT.out w4.drew (hen4.keep ((Below.refl _ _).drew)))
            clear hb4 hen4
            generalize str (atD [] (rwK F N g) g) = old at hcr
            go_wp2_with fail
            go_still_tail 5, (by kernel_rfl)
            repeat still_step
            change wpList _ _ _ _ _ w4.drew
            go_wp2_with fail
            go_roundw
            case rel => exact ⟨g + 1, by omega, by go_num, HS2, HEN4.out⟩
            case measure => simp [intOf]; omega
          · have HSM2 := Lib.hid (HSM.out (HGB.out hcode))
            generalize G.decode x 4 [] = D at *
            obtain ⟨D1, D2, D3⟩ := D
            have hcode' : (D3 == 0) = false := by rw [beq_eq_false_iff_ne]; exact hcode
            clear hcode HGL2 HGB HGE hcb
            go_wp2_with fail
            refine (HD2.out _).mono ?_
            rintro e w4 ⟨rfl, hb4⟩
            have hen4 := HEN.out.call hb4
            clear hb4
            go_wp2_with fail
            go_roundw
            case rel => exact ⟨g + 1, by omega, by go_num, HS2, by rw [HSM2.out]; exact hen4⟩
            case measure => simp [intOf]; omega
        · have hR := HNOk.out (by omega)
          subst hR
          have e1 : ((nx : Int) == 0) = false := by rw [beq_eq_false_iff_ne]; omega
          have e2 : ((nx : Int) == 32) = false := by rw [beq_eq_false_iff_ne]; omega
          have HLE := Lib.hid HEN.out.le
          clear HNOk hx0 hx32
          go_wp2_with fail
          go_ret3
          exact DecP.bad rfl HLE.out
    · obtain rfl : g = N := by omega
      rw [rwK_all] at hen
      have hR := HYES.out HO.out
      subst hR
      have HOK := HO
      clear hlt hg HC HNO HYES HO hsz
      go_wp2_with fail
      go_loopw [12, 13, 62] (fun vd vo vf wr => ∃ f : Nat, f ≤ n ∧ vf = .int .i64 f ∧ wr.ownsRow (gb + 1) 5 1 vd (24 * f) (bs (datD F f)) ∧ wr.ownsRow (gb + 1) 3 1 vo (lstD F f).length (is (lstD F f)) ∧ DeW w g gr gb (rwA F g) wr) (fun _ _ vf _ => n - (intOf vf).toNat)
      case atStart => exact ⟨0, by omega, rfl, ⟨rfl, .inl ⟨rfl, rfl⟩⟩, ownsRow_nil _ _ _, hen⟩
      case round =>
        clear hen
        obtain ⟨f, hf, rfl, hd, ho, hen⟩ := hrel
        obtain ⟨wq, rfl⟩ : ∃ wq : World, wq = wr := ⟨_, rfl⟩
        have hsz := hen.size
        have hLl := lstD_length F f
        by_cases hlt : f < n
        · have hlt' : (f : Int) < (n : Int) := by omega
          have HDS : Hid (datD F (f + 1) = datD F f ++ (outD F f).1) := Lib.hid rfl
          have HLS : Hid (lstD F (f + 1) = lstD F f ++ at24 f (outD F f).2) := Lib.hid rfl
          obtain ⟨L, hL⟩ : ∃ L, L = lstD F f := ⟨_, rfl⟩
          obtain ⟨Dt, hDt⟩ : ∃ Dt, Dt = datD F f := ⟨_, rfl⟩
          rw [← hL] at ho HLS hLl
          rw [← hDt] at hd HDS
          clear hL hDt
          obtain ⟨ad, cd, rfl⟩ := ownD_form hd
          obtain ⟨ao, co, rfl⟩ := ownD_form ho
          have HD := Lib.hid hd
          have HO := Lib.hid ho
          have HEN := Lib.hid hen
          clear hd ho hen
          go_wp2_with (refine wpList_mkB rfl _ _ rfl (base := wq.heap.size) Try.underlying59 Try.infoU9 28 rfl rfl rfl rfl (by omega) (Nat.le_refl _) ?_; intro wA hoA hgA; have hbxA : Bx wA wq.heap.size 5 (bs (List.replicate 28 0)) := Bx.ofOwn hoA; have hszA := hbxA.lt)
          have hbA := (Below.refl wq.heap.size wq).grown hgA (Nat.le_refl _) (fun k hk => by cases hk)
          have hbB := hbA.alloc hbA.size (.cells #[.slice (some ⟨wq.heap.size, 0, none⟩) 28 28] 59)
          have hbC := hbB.alloc hbB.size (.cells #[.slice none 0 0] 24)
          have hgwb := (Bx.new wA 59 [.slice (some ⟨wq.heap.size, 0, none⟩) 28 28]).alloc (.cells #[.slice none 0 0] 24)
          have heb := Bx.new (wA.alloc (.cells #[.slice (some ⟨wq.heap.size, 0, none⟩) 28 28] 59)) 24 [.slice none 0 0]
          rw [World.size_alloc] at heb
          have hgw := (hbxA.alloc (.cells #[.slice (some ⟨wq.heap.size, 0, none⟩) 28 28] 59)).alloc (.cells #[.slice none 0 0] 24)
          have hen5 := HEN.out.call hbC
          have hd5 := ownD_keep HD.out hbC
          have ho5 := ownD_keep HO.out hbC
          clear hoA hgA hbxA hbA hbB hbC
          generalize (wA.alloc (.cells #[.slice (some ⟨wq.heap.size, 0, none⟩) 28 28] 59)).alloc (.cells #[.slice none 0 0] 24) = wC at *
          obtain ⟨eb, hE⟩ : ∃ eb, eb = wA.heap.size + 1 := ⟨_, rfl⟩
          obtain ⟨gwb, hG⟩ : ∃ gwb, gwb = wA.heap.size := ⟨_, rfl⟩
          obtain ⟨gw, hW⟩ : ∃ gw, gw = wq.heap.size := ⟨_, rfl⟩
          rw [← hE] at heb
          rw [← hG] at hgwb
          rw [← hW] at hgwb hgw
          simp only [← hE]
          simp only [← hG]
          simp only [← hW]
          have hne1 : gw < gwb := by omega
          have hne2 : gwb < eb := by omega
          have hne3 : gb < gw := by omega
          have hLb : ∀ q, (Value.slice ao L.length co).ownBlock = some q → q < gw := fun q hq => by have := (HO.out.lt q hq).2; omega
          have HLB := Lib.hid hLb
          have HDB := Lib.hid (show ∀ q, (Value.slice ad (24 * f) cd).ownBlock = some q → q < gw from fun q hq => by have := (HD.out.lt q hq).2; omega)
          have HCO := Lib.hid (collect_dec F f n g gr gb gw gwb eb wC hlt HN.out h2 HOK.out (by omega) hne3 hne1 hne2 hen5.r (hen5.b.cell (i := 0) rfl) hgw hgwb ⟨_, heb, ownsRow_nil _ _ _⟩)
          have HD5 := Lib.hid hd5
          have HO5 := Lib.hid ho5
          have HEN5 := Lib.hid hen5
          clear hE hG hW hgw hgwb heb hen5 hd5 ho5 HEN HD HO hLb
          go_wp2_with fail
          refine HCO.out.mono ?_
          rintro e w6 ⟨rfl, ⟨ve, heb, hve⟩, hgw, hgwb, hb6⟩
          have hel := erD_length F f 28
          have hwl := wdD_length F f 28
          have hd6 := own_below HD5.out HDB.out hb6
          have ho6 := own_below HO5.out HLB.out hb6
          have hen6 := HEN5.out.keep (hb6.mono (by omega))
          have HD6 := Lib.hid hd6
          have HO6 := Lib.hid ho6
          have HEN6 := Lib.hid hen6
          obtain ⟨ae, ce, rfl⟩ := ownD_form hve
          have hc1 := heb.cell (i := 0) rfl
          have hc2 := hgwb.cell (i := 0) rfl
          have HPO := Lib.hid (erD_pos F f)
          have HOB := Lib.hid (show (erD F f 28).length ≤ 4 → (G.decode (wdD F f 28) 4 (erD F f 28)).2.2 = 0 → outD F f = ((G.decode (wdD F f 28) 4 (erD F f 28)).1.take 24, []) from fun h1 h2 => by unfold outD; rw [if_pos h1, if_pos h2])
          have HOC := Lib.hid (show (erD F f 28).length ≤ 4 → ¬ (G.decode (wdD F f 28) 4 (erD F f 28)).2.2 = 0 → outD F f = (List.replicate 24 0, upI 24) from fun h1 h2 => by unfold outD; rw [if_pos h1, if_neg h2])
          have HOD := Lib.hid (show ¬ (erD F f 28).length ≤ 4 → outD F f = ((wdD F f 28).take 24, lo24 (erD F f 28)) from fun h1 => by unfold outD; rw [if_neg h1])
          have HDL := Lib.hid (show (G.decode (wdD F f 28) 4 (erD F f 28)).2.2 = 0 → (G.decode (wdD F f 28) 4 (erD F f 28)).1.length = 28 from fun h => by rw [(G.decode_sound _ _ _ h).choose_spec.2.1, wdD_length])
          have HEB0 := Lib.hid (fun (x : Int) (hx : x ∈ erD F f 28) => (show 0 ≤ x ∧ x < 28 from by
            obtain ⟨i, h1, _, rfl⟩ := (mem_erD F f 28 x).1 hx
            omega))
          have HDE := Lib.hid (fun W => decode_any (wdD F f 28) 4 (.slice ae (erD F f 28).length ce) (erD F f 28) W)
          clear hd6 ho6 hen6 HD5 HO5 HEN5 HCO
          generalize outD F f = OUT at *
          obtain ⟨out1, out2⟩ := OUT
          generalize G.decode (wdD F f 28) 4 (erD F f 28) = DD at *
          obtain ⟨D1, D2, D3⟩ := DD
          generalize erD F f 28 = E at *
          generalize wdD F f 28 = Wd at *
          simp only at HDS HLS HOB HOC HOD HDL HDE
          by_cases h4 : E.length ≤ 4
          · have h4' : (E.length : Int) ≤ 4 := by omega
            have hrdI := rdI_own hve rfl (by omega) (fun x hx => by have := HEB0.out x hx; omega)
            have hrow := row_bx hgw hwl
            have hrd := hrow.rd (by omega)
            rw [hwl] at hrd
            have hconv := run_str (P := Try.prog) Try.underlying59 Try.underlying5 Try.underlying9 hrd
            have HDE2 := Lib.hid (HDE.out w6 (by omega) hrdI (by omega))
            have HEBX := Lib.hid heb
            have HGWB := Lib.hid hgwb
            clear hrdI hrow hrd hve hgw HDE hb6 heb hgwb
            go_wp2_with fail
            refine HDE2.out.mono ?_
            rintro e w7 ⟨rfl, hb7⟩
            have hd7 := ownD_keep HD6.out hb7
            have ho7 := ownD_keep HO6.out hb7
            have hen7 := HEN6.out.call hb7
            have heb7 := HEBX.out.call hb7
            have hgwb7 := HGWB.out.call hb7
            have hbx8 := heb7.set 0 (.slice none 0 0)
            have hgwb8 := hgwb7.far (p := ⟨eb, 0, none⟩) (by simp only; omega) (.slice none 0 0)
            have hd8 := own_below hd7 HDB.out ((Below.refl gw w7).setCell (p := ⟨eb, 0, none⟩) (by simp only; omega) (.slice none 0 0))
            have ho8 := own_below ho7 HLB.out ((Below.refl gw w7).setCell (p := ⟨eb, 0, none⟩) (by simp only; omega) (.slice none 0 0))
            have hen8 := hen7.keep ((Below.refl (gb + 1) w7).setCell (p := ⟨eb, 0, none⟩) (by simp only; omega) (.slice none 0 0))
            have hq1 := heb7.cell (i := 0) rfl
            have hq2 := heb7.free 0
            have hszD := str_size D1
            clear hconv hb7 hd7 ho7 hen7 hgwb7 HD6 HO6 HEN6 HEBX HGWB hc1 hc2 heb7 HDE2
            go_upto_region 27 with (fail)
            clear hq1 hq2
            have HD8 := Lib.hid hd8
            have HO8 := Lib.hid ho8
            have HEN8 := Lib.hid hen8
            have HBX8 := Lib.hid hbx8
            have HG8 := Lib.hid hgwb8
            have hc8 := hgwb8.cell (i := 0) rfl
            have hf8 := hgwb8.free 0
            clear hd8 ho8 hen8 hbx8 hgwb8
            generalize w7.setCell ⟨eb, 0, none⟩ (.slice none 0 0) = w8 at *
            obtain ⟨wN, capN, hrunN, hrowN, hbN, hleN⟩ := run_bytes9 (P := Try.prog) w8 Try.underlying9 Try.underlying59 Try.underlying5 D1 D1.length rfl
            have hgwbN := HG8.out.call hbN
            have hcN := hgwbN.cell (i := 0) rfl
            have hfN := hgwbN.free 0
            have hdN := own_below (ownD_keep HD8.out hbN) HDB.out ((Below.refl gw wN).setCell (p := ⟨gwb, 0, none⟩) (by simp only; omega) (.slice (some ⟨w8.heap.size, 0, none⟩) D1.length capN))
            have hoN := own_below (ownD_keep HO8.out hbN) HLB.out ((Below.refl gw wN).setCell (p := ⟨gwb, 0, none⟩) (by simp only; omega) (.slice (some ⟨w8.heap.size, 0, none⟩) D1.length capN))
            have henN := (HEN8.out.call hbN).keep ((Below.refl (gb + 1) wN).setCell (p := ⟨gwb, 0, none⟩) (by simp only; omega) (.slice (some ⟨w8.heap.size, 0, none⟩) D1.length capN))
            have hbxN := (HBX8.out.call hbN).far (p := ⟨gwb, 0, none⟩) (by simp only; omega) (.slice (some ⟨w8.heap.size, 0, none⟩) D1.length capN)
            have hgN := hgwbN.set 0 (.slice (some ⟨w8.heap.size, 0, none⟩) D1.length capN)
            have hg8l := HG8.out.lt
            have hrN : Row (wN.setCell ⟨gwb, 0, none⟩ (.slice (some ⟨w8.heap.size, 0, none⟩) D1.length capN)) 5 w8.heap.size capN D1 := hrowN.keep (Below.heap_setCell wN ⟨gwb, 0, none⟩ _ _ (by simp only; omega))
            clear hbN hgwbN hrowN
            go_upto_region 28 with (fail)
            clear hrunN hcN hfN hc8 hf8
            generalize wN.setCell ⟨gwb, 0, none⟩ (.slice (some ⟨w8.heap.size, 0, none⟩) D1.length capN) = wM at *
            obtain ⟨gs, hgs⟩ : ∃ gs, gs = w8.heap.size := ⟨_, rfl⟩
            rw [← hgs] at hgN hrN
            clear hgs HD8 HO8 HEN8 HBX8 HG8 hg8l hleN
            by_cases hcode : D3 = 0
            · have hout := HOB.out h4 hcode
              have hDl := HDL.out hcode
              subst hcode
              simp only [Prod.mk.injEq] at hout
              obtain ⟨ho1, ho2⟩ := hout
              subst ho1 ho2
              have hown : wM.ownsRow (eb + 1) 3 1 (.slice none 0 0) 0 (is []) := ownsRow_nil _ _ _
              have HEB := Lib.hid (show ∀ x ∈ ([] : List Int), 0 ≤ x ∧ x < 28 from by simp)
              have hEl : 0 ≤ 28 := by omega
              have HLS2 : Hid (lstD F (f + 1) = L ++ at24 f (lo24 [])) := HLS
              have HDS2 : Hid (datD F (f + 1) = Dt ++ D1.take 24) := HDS
              rw [hDl] at hgN
              have hoff : Off (.slice ao L.length co) (fun k => (none : Option Addr) = some ⟨k, 0, none⟩) := fun q hq h => by cases h
              have HWL := Lib.hid hDl
              have hq1 := hbxN.cell (i := 0) rfl
              clear hDl HOC HOB HOD HDL HLS HDS
              go_wp2_with fail
              go_loopw [13, 90] (fun vo vk wr => ∃ k : Nat, k ≤ 0 ∧ vk = .int .i64 k ∧ wr.ownsRow (gb + 1) 3 1 vo (L ++ at24 f (lo24 ((([] : List Int)).take k))).length (is (L ++ at24 f (lo24 ((([] : List Int)).take k)))) ∧ Off vo (fun k => (none : Option Addr) = some ⟨k, 0, none⟩) ∧ wr.ownsRow (eb + 1) 3 1 (.slice none 0 0) 0 (is ([] : List Int)) ∧ Bx wr gwb 59 [.slice (some ⟨gs, 0, none⟩) 28 capN] ∧ Row wr 5 gs capN D1 ∧ wr.ownsRow (gb + 1) 5 1 (.slice ad (24 * f) cd) (24 * f) (bs Dt) ∧ DeW w g gr gb (rwA F g) wr) (fun _ vk _ => 0 - (intOf vk).toNat)
              case atStart => exact ⟨0, by omega, rfl, by rw [List.take_zero, show at24 f (lo24 []) = [] from rfl, List.append_nil]; exact hoN, hoff, hown, hgN, hrN, hdN, henN⟩
              case round =>
                clear hoN hown hgN hrN hdN henN hbxN hoff hq1
                obtain ⟨k, hk, rfl, hoo, hoff, hoe, hgx, hrx, hdx, hlo⟩ := hrel
                have hwsz := hlo.size
                by_cases hkt : k < 0
                · exact absurd hkt (by omega)
                · obtain rfl : k = 0 := by omega
                  rw [show (([] : List Int)).take 0 = ([] : List Int) from by simp] at hoo
                  rw [← HLS2.out] at hoo
                  obtain ⟨a9, c9, rfl⟩ := ownD_form hoo
                  have hgc := hgx.cell (i := 0) rfl
                  have hwl9 := HWL.out
                  have hrd := hrx.rd (by omega)
                  obtain ⟨vs, hrs, _, _, hcut⟩ := run_cut (P := Try.prog) Try.underlying59 (by kernel_rfl : (Try.prog.info? 5).map (·.size) = some 1) hrd 0 24 (by omega) (by omega)
                  have hcut2 := fun W => hcut rfl 24 W rfl
                  rw [hwl9] at hcut2
                  rw [List.drop_zero] at hrs
                  have hl24 : ((D1).take 24).length = 24 := by rw [List.length_take, hwl9]; rfl
                  have HL24 := Lib.hid hl24
                  have HDX := Lib.hid hdx
                  have HOO := Lib.hid hoo
                  have HLO := Lib.hid hlo
                  clear hrd hrx hgx hoe hoff hoo hlo hcut hwl9 hl24
                  go_wp2_with (at_builtin; refine wpList_appB rfl _ _ rfl Try.underlying59 Try.infoU9 HDX.out rfl hrs rfl (by have := HL24.out; omega) hwsz ?_; intro v8 w8 hown8 hgr8 hno8)
                  have hb8 := (Below.refl (gb + 1) wr).grown hgr8 hwsz (fun q hq => by have := ownD_block HDX.out q hq; omega)
                  have hen8 := HLO.out.keep hb8
                  have ho8 := own_off HOO.out hgr8 (fun q hq h => apart9 HOO.out HDX.out (by decide) q hq h)
                  rw [HL24.out, ← HDS2.out] at hown8
                  clear hgr8 hno8 hb8 HLO HOO HDX hgc hrs hcut2
                  go_roundw
                  case rel => exact ⟨f + 1, by omega, by go_num, by rw [show 24 * (f + 1) = 24 * f + 24 from by omega]; exact hown8, ho8, hen8⟩
                  case measure => simp [intOf]; omega
            · have hout := HOC.out h4 hcode
              have hcode' : (D3 != 0) = true := by rw [bne_iff_ne]; exact hcode
              simp only [Prod.mk.injEq] at hout
              obtain ⟨ho1, ho2⟩ := hout
              subst ho1 ho2
              have hq3 := hgN.cell (i := 0) rfl
              clear hcode
              go_upto_region 30 with (refine wpList_mkB rfl _ _ rfl (base := wM.heap.size) Try.underlying59 Try.infoU9 28 rfl rfl rfl rfl (by omega) (Nat.le_refl _) ?_; intro wP hoP hgP; have hbP := (Below.refl wM.heap.size wM).grown hgP (Nat.le_refl _) (fun k hk => by cases hk); have hgP1 := hgN.call hbP; have hgP2 := hgP1.cell (i := 0) rfl; have hgP3 := hgP1.free 0)
              have hbxP : Bx wP wM.heap.size 5 (bs (List.replicate 28 0)) := Bx.ofOwn hoP
              have hgMl := hgN.lt
              have hbl := hbxN.lt
              have hrowP : Row (wP.setCell ⟨gwb, 0, none⟩ (.slice (some ⟨wM.heap.size, 0, none⟩) 28 28)) 5 wM.heap.size 28 (List.replicate 28 0) := (row_bx hbxP (by simp)).keep (Below.heap_setCell wP ⟨gwb, 0, none⟩ _ _ (by simp only; omega))
              have hgQ := hgP1.set 0 (.slice (some ⟨wM.heap.size, 0, none⟩) 28 28)
              have hbxQ := (hbxN.call hbP).far (p := ⟨gwb, 0, none⟩) (by simp only; omega) (.slice (some ⟨wM.heap.size, 0, none⟩) 28 28)
              have hdQ := own_below (ownD_keep hdN hbP) HDB.out ((Below.refl gw wP).setCell (p := ⟨gwb, 0, none⟩) (by simp only; omega) (.slice (some ⟨wM.heap.size, 0, none⟩) 28 28))
              have hoQ := own_below (ownD_keep hoN hbP) HLB.out ((Below.refl gw wP).setCell (p := ⟨gwb, 0, none⟩) (by simp only; omega) (.slice (some ⟨wM.heap.size, 0, none⟩) 28 28))
              have henQ := (henN.call hbP).keep ((Below.refl (gb + 1) wP).setCell (p := ⟨gwb, 0, none⟩) (by simp only; omega) (.slice (some ⟨wM.heap.size, 0, none⟩) 28 28))
              clear hgP2 hgP3 hgP1 hbxP hbP hgP hoP hbxN hgN hrN hdN hoN henN hq3
              generalize wP.setCell ⟨gwb, 0, none⟩ (.slice (some ⟨wM.heap.size, 0, none⟩) 28 28) = wQ at *
              obtain ⟨gt, hgt⟩ : ∃ gt, gt = wM.heap.size := ⟨_, rfl⟩
              rw [← hgt] at hrowP hgQ
              have heg : gwb < eb := hne2
              have hgtq := hrowP.lt
              have hebq : eb < gt := by omega
              clear hgt hgMl hbl
              have HCA := Lib.hid (collect_all f eb (gt + 1) wQ (by omega) (by omega) (by omega) ⟨_, hbxQ, ownsRow_nil _ _ _⟩)
              have HRP := Lib.hid hrowP
              have HGQ := Lib.hid hgQ
              have HDQ := Lib.hid hdQ
              have HOQ := Lib.hid hoQ
              have HEQ := Lib.hid henQ
              clear hbxQ hrowP hgQ hdQ hoQ henQ
              go_wp2_with fail
              refine HCA.out.mono ?_
              rintro e wR ⟨rfl, ⟨vR, hbxR, hown0⟩, hbR, _, hkR⟩
              have hown := own_mono hown0 (show eb + 1 ≤ gt + 1 from by omega)
              clear hown0
              obtain ⟨aR, cR, rfl⟩ := ownD_form hown
              have hgR := HGQ.out.keepB hbR hne2
              have hdR := own_below HDQ.out (fun k hk => by have := HDB.out k hk; omega) hbR
              have hoR := own_below HOQ.out (fun k hk => by have := HLB.out k hk; omega) hbR
              have henR := HEQ.out.keep (hbR.mono (by omega))
              have hrR : Row wR 5 gt 28 (List.replicate 28 0) := HRP.out.keep (hkR gt (by omega) (by omega))
              have hul := upI_length 28
              have HEB := Lib.hid (show ∀ x ∈ upI 28, 0 ≤ x ∧ x < 28 from fun x hx => by
                simp only [upI, List.mem_map, List.mem_range] at hx
                obtain ⟨i, h1, rfl⟩ := hx
                show (0 : Int) ≤ (i : Int) ∧ (i : Int) < 28
                omega)
              have hEl : (upI 28).length ≤ 28 := by omega
              have HLS2 : Hid (lstD F (f + 1) = L ++ at24 f (lo24 (upI 28))) := HLS
              have HDS2 : Hid (datD F (f + 1) = Dt ++ (List.replicate 28 (0 : UInt8)).take 24) := HDS
              have hoff : Off (.slice ao L.length co) (fun k => aR = some ⟨k, 0, none⟩) := fun q hq h => by have h1 := HLB.out q hq; have h2 := (hown.lt q (by rw [h]; rfl)).1; omega
              have HWL := Lib.hid (show (List.replicate 28 (0 : UInt8)).length = 28 from by simp)
              have hq1 := hbxR.cell (i := 0) rfl
              clear HOC HOB HOD HDL HLS HDS hul hbR hkR
              generalize upI 28 = E2 at *
              generalize List.replicate 28 (0 : UInt8) = Z2 at *
              go_wp2_with fail
              go_loopw [13, 90] (fun vo vk wr => ∃ k : Nat, k ≤ E2.length ∧ vk = .int .i64 k ∧ wr.ownsRow (gb + 1) 3 1 vo (L ++ at24 f (lo24 ((E2).take k))).length (is (L ++ at24 f (lo24 ((E2).take k)))) ∧ Off vo (fun k => aR = some ⟨k, 0, none⟩) ∧ wr.ownsRow (eb + 1) 3 1 (.slice aR E2.length cR) E2.length (is E2) ∧ Bx wr gwb 59 [.slice (some ⟨gt, 0, none⟩) 28 28] ∧ Row wr 5 gt 28 Z2 ∧ wr.ownsRow (gb + 1) 5 1 (.slice ad (24 * f) cd) (24 * f) (bs Dt) ∧ DeW w g gr gb (rwA F g) wr) (fun _ vk _ => E2.length - (intOf vk).toNat)
              case atStart => exact ⟨0, by omega, rfl, by rw [List.take_zero, show at24 f (lo24 []) = [] from rfl, List.append_nil]; exact hoR, hoff, hown, hgR, hrR, hdR, henR⟩
              case round =>
                clear hoR hown hgR hrR hdR henR hbxR hoff hq1
                obtain ⟨k, hk, rfl, hoo, hoff, hoe, hgx, hrx, hdx, hlo⟩ := hrel
                have hwsz := hlo.size
                by_cases hkt : k < E2.length
                · have hkt' : (k : Int) < (E2.length : Int) := by omega
                  obtain ⟨ge, ce', he, hge, hge2⟩ := ownD_addr hoe (by omega)
                  simp only [Value.slice.injEq] at he
                  have ha := he.1
                  clear he
                  obtain ⟨hx1, hx2⟩ := HEB.out _ (ixI_mem hkt)
                  have HS := Lib.hid (lo24_take E2 k (ixI E2 k) (ixI_some hkt))
                  have hoe2 := hoe
                  rw [ha] at hoe2
                  have hcl : wr.cell? ⟨ge, k, none⟩ = some (.int .i64 (ixI E2 k)) := by rw [hoe2.cellAt k (by omega), is_get hkt]
                  have hix := fun w' => run_idxS Try.underlying24 Try.sizeInt9 (a := aR) (cap := cR) ha hkt (k : Int) rfl w'
                  simp only [Nat.mul_one, Nat.zero_add] at hix
                  have Ha := Lib.hid ha
                  generalize ixI E2 k = x at *
                  have hll := lo24_len E2 k hEl
                  have hal := at24_len f (lo24 ((E2).take k))
                  obtain ⟨M, hM⟩ : ∃ M, M = L ++ at24 f (lo24 ((E2).take k)) := ⟨_, rfl⟩
                  have hMl : M.length ≤ 28 * f + 28 := by rw [hM, List.length_append]; omega
                  rw [← hM] at hoo
                  have HOE := Lib.hid hoe
                  have HGX := Lib.hid hgx
                  have HRX := Lib.hid hrx
                  have HDX := Lib.hid hdx
                  have HLO := Lib.hid hlo
                  have HOO := Lib.hid hoo
                  have HOF := Lib.hid hoff
                  clear hoe hoe2 hgx hrx hdx hlo hoo hoff ha hll hal
                  by_cases hx : x < 24
                  · have HS2 : Hid (L ++ at24 f (lo24 ((E2).take (k + 1))) = M ++ [24 * (f : Int) + x]) := Lib.hid (by rw [HS.out, if_pos hx, at24_app, hM, List.append_assoc])
                    clear HS hM
                    have hoa := ownD_keep HOO.out ((Below.refl wr.heap.size wr).alloc (Nat.le_refl _) (.cells #[.int .i64 (24 * (f : Int) + x)] 3))
                    have HA := Lib.hid ((Below.refl wr.heap.size wr).alloc (Nat.le_refl _) (.cells #[.int .i64 (24 * (f : Int) + x)] 3))
                    have hbas : gb + 1 ≤ (wr.alloc (.cells #[.int .i64 (24 * (f : Int) + x)] 3)).heap.size := by simp; omega
                    go_wp2_with (at_builtin; refine wpList_ap1 rfl _ _ rfl Try.underlying24 Try.infoInt9 rfl hoa rfl (g := wr.heap.size) (y := .int .i64 (24 * (f : Int) + x)) rfl (by simp) rfl (by unfold maxLen; omega) (by omega) hbas ?_; intro v7 w7 hown7 hgr7 hno7)
                    have hb7 := (Below.refl (gb + 1) (wr.alloc (.cells #[.int .i64 (24 * (f : Int) + x)] 3))).grown hgr7 hbas (fun q hq => by have := ownD_block hoa q hq; omega)
                    have hlo7 := (HLO.out.call HA.out).keep hb7
                    have hoe7 := own_off (ownD_keep HOE.out HA.out) hgr7 (fun q hq h => HOF.out q h (by
                      have e2 := Ha.out
                      rw [e2] at hq ⊢
                      simpa [Value.ownBlock] using hq))
                    have hgx7 := bx_off (HGX.out.call HA.out) hgr7 (block9 hoa (HGX.out.call HA.out) (by decide))
                    have hrx7 := row_off (HRX.out.below HA.out) hgr7 (row9 hoa (HRX.out.below HA.out) (by decide))
                    have hdx7 := own_off (ownD_keep HDX.out HA.out) hgr7 (fun q hq h => apart9 (ownD_keep HDX.out HA.out) hoa (by decide) q hq h)
                    have hf7 := HOF.out.step hno7 (fun q hq h => by
                      simp only [World.size_alloc] at hq
                      rw [Ha.out] at h
                      simp only [Option.some.injEq, Addr.mk.injEq, and_true] at h
                      omega)
                    clear hoa hgr7 hno7 HA HOE HGX HLO HOO HOF HRX HDX hb7
                    go_roundw
                    case rel => exact ⟨k + 1, by omega, by go_num, by rw [HS2.out, is_append, List.length_append]; exact hown7, hf7, hoe7, hgx7, hrx7, hdx7, hlo7⟩
                    case measure => simp [intOf]; omega
                  · have HS2 : Hid (L ++ at24 f (lo24 ((E2).take (k + 1))) = M) := Lib.hid (by rw [HS.out, if_neg hx, hM])
                    clear HS hM
                    go_wp2_with fail
                    go_roundw
                    case rel => exact ⟨k + 1, by omega, by go_num, by rw [HS2.out]; exact HOO.out, HOF.out, HOE.out, HGX.out, HRX.out, HDX.out, HLO.out⟩
                    case measure => simp [intOf]; omega
                · obtain rfl : k = E2.length := by omega
                  rw [show (E2).take E2.length = E2 from by simp] at hoo
                  rw [← HLS2.out] at hoo
                  obtain ⟨a9, c9, rfl⟩ := ownD_form hoo
                  have hgc := hgx.cell (i := 0) rfl
                  have hwl9 := HWL.out
                  have hrd := hrx.rd (by omega)
                  obtain ⟨vs, hrs, _, _, hcut⟩ := run_cut (P := Try.prog) Try.underlying59 (by kernel_rfl : (Try.prog.info? 5).map (·.size) = some 1) hrd 0 24 (by omega) (by omega)
                  have hcut2 := fun W => hcut rfl 24 W rfl
                  rw [hwl9] at hcut2
                  rw [List.drop_zero] at hrs
                  have hl24 : ((Z2).take 24).length = 24 := by rw [List.length_take, hwl9]; rfl
                  have HL24 := Lib.hid hl24
                  have HDX := Lib.hid hdx
                  have HOO := Lib.hid hoo
                  have HLO := Lib.hid hlo
                  clear hrd hrx hgx hoe hoff hoo hlo hcut hwl9 hl24
                  go_wp2_with (at_builtin; refine wpList_appB rfl _ _ rfl Try.underlying59 Try.infoU9 HDX.out rfl hrs rfl (by have := HL24.out; omega) hwsz ?_; intro v8 w8 hown8 hgr8 hno8)
                  have hb8 := (Below.refl (gb + 1) wr).grown hgr8 hwsz (fun q hq => by have := ownD_block HDX.out q hq; omega)
                  have hen8 := HLO.out.keep hb8
                  have ho8 := own_off HOO.out hgr8 (fun q hq h => apart9 HOO.out HDX.out (by decide) q hq h)
                  rw [HL24.out, ← HDS2.out] at hown8
                  clear hgr8 hno8 hb8 HLO HOO HDX hgc hrs hcut2
                  go_roundw
                  case rel => exact ⟨f + 1, by omega, by go_num, by rw [show 24 * (f + 1) = 24 * f + 24 from by omega]; exact hown8, ho8, hen8⟩
                  case measure => simp [intOf]; omega
          · have h4' : ¬ (E.length : Int) ≤ 4 := by omega
            have hout := HOD.out h4
            simp only [Prod.mk.injEq] at hout
            obtain ⟨ho1, ho2⟩ := hout
            subst ho1 ho2
            have hrow := row_bx hgw hwl
            have HEB := HEB0
            have hEl := hel
            have hoff : Off (.slice ao L.length co) (fun k => ae = some ⟨k, 0, none⟩) := fun q hq h => by have h1 := HLB.out q hq; have h2 := (hve.lt q (by rw [h]; rfl)).1; omega
            have HWL := Lib.hid hwl
            have HLS2 : Hid (lstD F (f + 1) = L ++ at24 f (lo24 E)) := HLS
            have HDS2 : Hid (datD F (f + 1) = Dt ++ Wd.take 24) := HDS
            have hq1 := hc1
            have hdX := HD6.out
            have hoX := HO6.out
            have henX := HEN6.out
            clear HDE HOC HOB HOD HDL HLS HDS hgw hwl hb6 hc2 hc1 HD6 HO6 HEN6
            go_wp2_with fail
            go_loopw [13, 90] (fun vo vk wr => ∃ k : Nat, k ≤ E.length ∧ vk = .int .i64 k ∧ wr.ownsRow (gb + 1) 3 1 vo (L ++ at24 f (lo24 ((E).take k))).length (is (L ++ at24 f (lo24 ((E).take k)))) ∧ Off vo (fun k => ae = some ⟨k, 0, none⟩) ∧ wr.ownsRow (eb + 1) 3 1 (.slice ae E.length ce) E.length (is E) ∧ Bx wr gwb 59 [.slice (some ⟨gw, 0, none⟩) 28 28] ∧ Row wr 5 gw 28 Wd ∧ wr.ownsRow (gb + 1) 5 1 (.slice ad (24 * f) cd) (24 * f) (bs Dt) ∧ DeW w g gr gb (rwA F g) wr) (fun _ vk _ => E.length - (intOf vk).toNat)
            case atStart => exact ⟨0, by omega, rfl, by rw [List.take_zero, show at24 f (lo24 []) = [] from rfl, List.append_nil]; exact hoX, hoff, hve, hgwb, hrow, hdX, henX⟩
            case round =>
              clear hoX hve hgwb hrow hdX henX heb hoff hq1
              obtain ⟨k, hk, rfl, hoo, hoff, hoe, hgx, hrx, hdx, hlo⟩ := hrel
              have hwsz := hlo.size
              by_cases hkt : k < E.length
              · have hkt' : (k : Int) < (E.length : Int) := by omega
                obtain ⟨ge, ce', he, hge, hge2⟩ := ownD_addr hoe (by omega)
                simp only [Value.slice.injEq] at he
                have ha := he.1
                clear he
                obtain ⟨hx1, hx2⟩ := HEB.out _ (ixI_mem hkt)
                have HS := Lib.hid (lo24_take E k (ixI E k) (ixI_some hkt))
                have hoe2 := hoe
                rw [ha] at hoe2
                have hcl : wr.cell? ⟨ge, k, none⟩ = some (.int .i64 (ixI E k)) := by rw [hoe2.cellAt k (by omega), is_get hkt]
                have hix := fun w' => run_idxS Try.underlying24 Try.sizeInt9 (a := ae) (cap := ce) ha hkt (k : Int) rfl w'
                simp only [Nat.mul_one, Nat.zero_add] at hix
                have Ha := Lib.hid ha
                generalize ixI E k = x at *
                have hll := lo24_len E k hEl
                have hal := at24_len f (lo24 ((E).take k))
                obtain ⟨M, hM⟩ : ∃ M, M = L ++ at24 f (lo24 ((E).take k)) := ⟨_, rfl⟩
                have hMl : M.length ≤ 28 * f + 28 := by rw [hM, List.length_append]; omega
                rw [← hM] at hoo
                have HOE := Lib.hid hoe
                have HGX := Lib.hid hgx
                have HRX := Lib.hid hrx
                have HDX := Lib.hid hdx
                have HLO := Lib.hid hlo
                have HOO := Lib.hid hoo
                have HOF := Lib.hid hoff
                clear hoe hoe2 hgx hrx hdx hlo hoo hoff ha hll hal
                by_cases hx : x < 24
                · have HS2 : Hid (L ++ at24 f (lo24 ((E).take (k + 1))) = M ++ [24 * (f : Int) + x]) := Lib.hid (by rw [HS.out, if_pos hx, at24_app, hM, List.append_assoc])
                  clear HS hM
                  have hoa := ownD_keep HOO.out ((Below.refl wr.heap.size wr).alloc (Nat.le_refl _) (.cells #[.int .i64 (24 * (f : Int) + x)] 3))
                  have HA := Lib.hid ((Below.refl wr.heap.size wr).alloc (Nat.le_refl _) (.cells #[.int .i64 (24 * (f : Int) + x)] 3))
                  have hbas : gb + 1 ≤ (wr.alloc (.cells #[.int .i64 (24 * (f : Int) + x)] 3)).heap.size := by simp; omega
                  go_wp2_with (at_builtin; refine wpList_ap1 rfl _ _ rfl Try.underlying24 Try.infoInt9 rfl hoa rfl (g := wr.heap.size) (y := .int .i64 (24 * (f : Int) + x)) rfl (by simp) rfl (by unfold maxLen; omega) (by omega) hbas ?_; intro v7 w7 hown7 hgr7 hno7)
                  have hb7 := (Below.refl (gb + 1) (wr.alloc (.cells #[.int .i64 (24 * (f : Int) + x)] 3))).grown hgr7 hbas (fun q hq => by have := ownD_block hoa q hq; omega)
                  have hlo7 := (HLO.out.call HA.out).keep hb7
                  have hoe7 := own_off (ownD_keep HOE.out HA.out) hgr7 (fun q hq h => HOF.out q h (by
                    have e2 := Ha.out
                    rw [e2] at hq ⊢
                    simpa [Value.ownBlock] using hq))
                  have hgx7 := bx_off (HGX.out.call HA.out) hgr7 (block9 hoa (HGX.out.call HA.out) (by decide))
                  have hrx7 := row_off (HRX.out.below HA.out) hgr7 (row9 hoa (HRX.out.below HA.out) (by decide))
                  have hdx7 := own_off (ownD_keep HDX.out HA.out) hgr7 (fun q hq h => apart9 (ownD_keep HDX.out HA.out) hoa (by decide) q hq h)
                  have hf7 := HOF.out.step hno7 (fun q hq h => by
                    simp only [World.size_alloc] at hq
                    rw [Ha.out] at h
                    simp only [Option.some.injEq, Addr.mk.injEq, and_true] at h
                    omega)
                  clear hoa hgr7 hno7 HA HOE HGX HLO HOO HOF HRX HDX hb7
                  go_roundw
                  case rel => exact ⟨k + 1, by omega, by go_num, by rw [HS2.out, is_append, List.length_append]; exact hown7, hf7, hoe7, hgx7, hrx7, hdx7, hlo7⟩
                  case measure => simp [intOf]; omega
                · have HS2 : Hid (L ++ at24 f (lo24 ((E).take (k + 1))) = M) := Lib.hid (by rw [HS.out, if_neg hx, hM])
                  clear HS hM
                  go_wp2_with fail
                  go_roundw
                  case rel => exact ⟨k + 1, by omega, by go_num, by rw [HS2.out]; exact HOO.out, HOF.out, HOE.out, HGX.out, HRX.out, HDX.out, HLO.out⟩
                  case measure => simp [intOf]; omega
              · obtain rfl : k = E.length := by omega
                rw [show (E).take E.length = E from by simp] at hoo
                rw [← HLS2.out] at hoo
                obtain ⟨a9, c9, rfl⟩ := ownD_form hoo
                have hgc := hgx.cell (i := 0) rfl
                have hwl9 := HWL.out
                have hrd := hrx.rd (by omega)
                obtain ⟨vs, hrs, _, _, hcut⟩ := run_cut (P := Try.prog) Try.underlying59 (by kernel_rfl : (Try.prog.info? 5).map (·.size) = some 1) hrd 0 24 (by omega) (by omega)
                have hcut2 := fun W => hcut rfl 24 W rfl
                rw [hwl9] at hcut2
                rw [List.drop_zero] at hrs
                have hl24 : ((Wd).take 24).length = 24 := by rw [List.length_take, hwl9]; rfl
                have HL24 := Lib.hid hl24
                have HDX := Lib.hid hdx
                have HOO := Lib.hid hoo
                have HLO := Lib.hid hlo
                clear hrd hrx hgx hoe hoff hoo hlo hcut hwl9 hl24
                go_wp2_with (at_builtin; refine wpList_appB rfl _ _ rfl Try.underlying59 Try.infoU9 HDX.out rfl hrs rfl (by have := HL24.out; omega) hwsz ?_; intro v8 w8 hown8 hgr8 hno8)
                have hb8 := (Below.refl (gb + 1) wr).grown hgr8 hwsz (fun q hq => by have := ownD_block HDX.out q hq; omega)
                have hen8 := HLO.out.keep hb8
                have ho8 := own_off HOO.out hgr8 (fun q hq h => apart9 HOO.out HDX.out (by decide) q hq h)
                rw [HL24.out, ← HDS2.out] at hown8
                clear hgr8 hno8 hb8 HLO HOO HDX hgc hrs hcut2
                go_roundw
                case rel => exact ⟨f + 1, by omega, by go_num, by rw [show 24 * (f + 1) = 24 * f + 24 from by omega]; exact hown8, ho8, hen8⟩
                case measure => simp [intOf]; omega
        · obtain rfl : f = n := by omega
          obtain ⟨ad, cd, rfl⟩ := ownD_form hd
          obtain ⟨ao, co, rfl⟩ := ownD_form ho
          have hrd := Rd.ofOwn' hd (by omega)
          have hconv := run_str (P := Try.prog) Try.underlying59 Try.underlying5 Try.underlying9 hrd
          have HO := Lib.hid ho
          have HLE := Lib.hid hen.le
          clear hd ho hen hrd
          go_wp2_with fail
          go_ret3
          exact ⟨_, rfl, own_mono HO.out (by omega), HLE.out⟩
end Go.Proofs.Ytkebnmmcogkldaa.C9
/- Walks of Positions and Differ of the reference of chapter 4, and of Xor of chapter 2. -/
namespace Go.Proofs.Ytkebnmmcogkldaa
open Go.RowKit
set_option linter.unusedVariables false

set_option maxRecDepth 100000 in
set_option maxHeartbeats 2000000 in
theorem differ_any (p q : List UInt8) (w : World) (hpq : q.length = p.length) (hp : p.length ≤ 9223372036854775807) :
    Calls Try.prog 69 #[.string (str p), .string (str q)] w fun e w' => e = .returned (.int .i64 (G.allN p q p.length)) ∧ Below w.heap.size w w' := by
  have hs := str_size p
  have hs2 := str_size q
  rw [hpq] at hs2
  obtain ⟨n, hn⟩ : ∃ n, n = p.length := ⟨_, rfl⟩
  rw [← hn] at hpq hp hs hs2 ⊢
  have HN := Lib.hid hn; clear hn
  have HQ := Lib.hid hpq; clear hpq
  go_enter Try.func69, Try.ntmps69
  go_wp2_with fail
  go_loopw [5, 6] (fun va vk wr => ∃ k : Nat, k ≤ n ∧ vk = .int .i64 k ∧ va = .int .i64 (G.allN p q k) ∧ Below w.heap.size w wr) (fun _ vk _ => n - (intOf vk).toNat)
  case atStart => exact ⟨0, by omega, rfl, rfl, Below.refl _ _⟩
  case round =>
    obtain ⟨k, hk, rfl, rfl, hb⟩ := hrel
    by_cases hlt : k < n
    · have hi1 := fun wx => run_sidx (P := Try.prog) Try.underlying9 p k (by rw [← HN.out]; exact hlt) _ rfl wx
      have hi2 := fun wx => run_sidx (P := Try.prog) Try.underlying9 q k (by rw [HQ.out]; exact hlt) _ rfl wx
      have h1 := G.allN_le p q k
      obtain ⟨A1, hA⟩ : ∃ A1, A1 = G.allN p q k := ⟨_, rfl⟩
      rw [← hA] at h1 ⊢
      have HA := Lib.hid hA; clear hA
      by_cases hc : G.ix p k = G.ix q k
      · have hcb : (((G.ix p k).toNat : Int) == ((G.ix q k).toNat : Int)) = true := by rw [hc]; simp
        have hcb' : (((G.ix p k).toNat : Int) != ((G.ix q k).toNat : Int)) = false := by unfold bne; rw [hcb]; rfl
        have Hc := Lib.hid hc; clear hc
        go_wp2_with fail
        go_quiet (fail)
        go_wp2_with fail
        go_roundw
        case rel => exact ⟨k + 1, by omega, by go_num, by rw [G.allN, if_pos Hc.out, HA.out]; simp, Below.drewN hb _⟩
        case measure => simp [intOf]; omega
      · have hcb : (((G.ix p k).toNat : Int) == ((G.ix q k).toNat : Int)) = false := by
          rw [beq_eq_false_iff_ne]; intro h; apply hc; apply UInt8.toNat_inj.1; omega
        have hcb' : (((G.ix p k).toNat : Int) != ((G.ix q k).toNat : Int)) = true := by unfold bne; rw [hcb]; rfl
        have Hc := Lib.hid hc; clear hc
        go_wp2_with fail
        go_quiet (fail)
        go_wp2_with fail
        go_roundw
        case rel => exact ⟨k + 1, by omega, by go_num, by rw [G.allN, if_neg Hc.out, HA.out]; go_num, Below.drewN hb _⟩
        case measure => simp [intOf]; omega
    · obtain rfl : k = n := by omega
      go_wp2_with fail
      go_ret
      exact ⟨rfl, hb⟩

/-- 'append(v, s...)' at bytes, as a step of a region that draws its order -/
theorem step_appB {P : Program} {ops : Array Oper} {o : Oper} {a : Act} {w : World} {K : Act → World → Prop} {Q : Exit → Act → World → Prop} {E : Prop} (hg : o.guard = none) (s x : Operand) {t : TypeId}
    (hop : o.op = .call { callee := .builtin .append, args := #[s, x], argTypes := #[t, t] }) {e : TypeId} {base : Nat}
    (ht : P.underlying t = some (.slice e)) (h2 : (P.info? e).map (fun i => (i.zero, i.size, i.bytes)) = some (some (.int .u8 0), 1, 1))
    {v : Value} {n : Nat} {l : List UInt8} (hown : w.ownsRow base e 1 v n (bs l)) (hv : a.eval s = v) {vs : Value} {m : List UInt8} (hs : Rd w vs m) (hx : a.eval x = vs)
    (h63 : n + m.length ≤ 140737488355328) (hbase : base ≤ w.heap.size)
    (hK : ∀ v' w', w'.ownsRow base e 1 v' (n + m.length) (bs (l ++ m)) → w.grownBy w' v.ownBlock → K (a.put o.dst v') w') :
    if Region.wanted o (yielded ops a.tmps) = true then Oper.wp P o a w K Q else E := by
  have hw : Region.wanted o (yielded ops a.tmps) = true := by simp [Region.wanted, hg]
  rw [if_pos hw]
  obtain ⟨i0, hi, hz0, hz1, hz2⟩ := info_parts h2
  obtain ⟨v', w', hrun, r1, r2, r3⟩ := run_app (ty := o.type) ht hi hz0 hz1 hz2 rfl (by omega) hown hs.reads (bs_one m) (by unfold maxLen; omega) (by omega) hbase
  unfold Oper.wp
  simp [execOp, hop, resolve, invoke, builtin, hv, hx, hrun, Result.andThen]
  rw [← bs_append] at r1
  exact hK v' w' r1 r2

theorem xorL_take_succ (a b : List UInt8) (k : Nat) (ha : k < a.length) (hb : k < b.length) : (G.xorL a b).take (k + 1) = (G.xorL a b).take k ++ [G.ix a k ^^^ G.ix b k] := by
  have hk : k < (G.xorL a b).length := by simp [G.xorL]; omega
  rw [G.take_succ_ix _ _ hk]
  congr 2
  simp [G.ix, G.xorL, ha, hb, List.getElem?_zipWith]

set_option maxRecDepth 100000 in
set_option maxHeartbeats 4000000 in
theorem positions_any (s : ByteArray) (n : Nat) (ve : Value) (l : List Int) (w : World) (hs : s.size = n) (hn : n ≤ 9223372036854775807) (hv : RdI w ve l) :
    Calls Try.prog 67 #[.string s, ve] w fun e w' => e = .returned (.bool (G.posB n l)) ∧ Below w.heap.size w w' := by
  obtain ⟨h0, ⟨a, cap, b, off, rfl, hcap, hcell⟩, hrng⟩ := hv
  have HC := Lib.hid hcell; clear hcell
  have HR := Lib.hid hrng; clear hrng
  go_enter Try.func67, Try.ntmps67
  go_wp2_with fail
  go_loopw [5] (fun vk wr => ∃ k : Nat, k ≤ l.length ∧ vk = .int .i64 k ∧ Hid (G.posN n l k = true) ∧ Below w.heap.size w wr) (fun vk _ => l.length - (intOf vk).toNat)
  case atStart => exact ⟨0, by omega, rfl, Lib.hid rfl, Below.refl _ _⟩
  case round =>
    obtain ⟨k, hk, rfl, HP, hb⟩ := hrel
    by_cases hlt : k < l.length
    · obtain ⟨ha, hcp⟩ := HC.out k hlt
      have hcw : wr.cell? ⟨b, off + k, none⟩ = some (.int .i64 (ixI l k)) := (hb.cell (p := ⟨b, off + k, none⟩) (World.block_lt_of_cell? w _ hcp)).trans hcp
      have hix := fun wx => run_idx (P := Try.prog) Try.underlying24 Try.sizeInt (cap := cap) ha hlt _ rfl wx
      have Ha := Lib.hid ha; clear ha hcp
      obtain ⟨x, hx⟩ : ∃ x, x = ixI l k := ⟨_, rfl⟩
      rw [← hx] at hcw
      have Hx := Lib.hid hx; clear hx
      have hxr := HR.out k hlt
      rw [← Hx.out] at hxr
      by_cases c1 : x < 0
      · have hd1 : decide (x < 0) = true := decide_eq_true c1
        have HF : Hid (G.posB n l = false) := Lib.hid (by
          rw [Bool.eq_false_iff]; intro h
          have := (G.posN_at n l hlt h).1
          rw [← Hx.out] at this; omega)
        clear c1
        go_wp2_with fail
        go_quiet (fail)
        go_wp2_with fail
        go_ret
        exact ⟨retB HF.out.symm, Below.drewN hb _⟩
      by_cases c2 : (n : Int) ≤ x
      · have hd1 : decide (x < 0) = false := decide_eq_false c1
        have hd2 : decide ((n : Int) ≤ x) = true := decide_eq_true c2
        have HF : Hid (G.posB n l = false) := Lib.hid (by
          rw [Bool.eq_false_iff]; intro h
          have := (G.posN_at n l hlt h).2.1
          rw [← Hx.out] at this; omega)
        clear c1 c2
        go_wp2_with fail
        go_quiet (fail)
        go_wp2_with fail
        go_ret
        exact ⟨retB HF.out.symm, Below.drewN hb _⟩
      by_cases c0 : k = 0
      · subst c0
        have hd1 : decide (x < 0) = false := decide_eq_false c1
        have hd2 : decide ((n : Int) ≤ x) = false := decide_eq_false c2
        have hcw0 : wr.cell? ⟨b, off, none⟩ = some (.int .i64 x) := by simpa using hcw
        clear hcw
        have hix0 := fun wx => run_idx (P := Try.prog) Try.underlying24 Try.sizeInt (cap := cap) Ha.out hlt 0 rfl wx
        have HT : Hid (G.posN n l (0 + 1) = true) := Lib.hid (by
          rw [G.posN, HP.out, ← Hx.out, hd1, hd2]; rfl)
        go_wp2_with fail
        go_quiet (fail)
        go_wp2_with fail
        go_roundw
        case rel => exact ⟨0 + 1, by omega, by go_num, HT, Below.drewN hb _⟩
        case measure => simp [intOf]; omega
      obtain ⟨j, rfl⟩ : ∃ j, k = j + 1 := ⟨k - 1, by omega⟩
      have hjl : j < l.length := by omega
      obtain ⟨ha, hcp⟩ := HC.out j hjl
      have hcy : wr.cell? ⟨b, off + j, none⟩ = some (.int .i64 (ixI l j)) := (hb.cell (p := ⟨b, off + j, none⟩) (World.block_lt_of_cell? w _ hcp)).trans hcp
      have hiy := fun wx => run_idx (P := Try.prog) Try.underlying24 Try.sizeInt (cap := cap) ha hjl _ rfl wx
      clear ha hcp
      obtain ⟨y, hy⟩ : ∃ y, y = ixI l j := ⟨_, rfl⟩
      rw [← hy] at hcy
      have Hy := Lib.hid hy; clear hy
      have hj0 : decide (0 < ((j : Int) + 1)) = true := by rw [decide_eq_true_eq]; omega
      have hix1 := fun wx => run_idx (P := Try.prog) Try.underlying24 Try.sizeInt (cap := cap) Ha.out hlt ((j : Int) + 1) (by omega) wx
      by_cases c3 : x ≤ y
      · have hd1 : decide (x < 0) = false := decide_eq_false c1
        have hd2 : decide ((n : Int) ≤ x) = false := decide_eq_false c2
        have hd3 : decide (x ≤ y) = true := decide_eq_true c3
        have HF : Hid (G.posB n l = false) := Lib.hid (by
          rw [Bool.eq_false_iff]; intro h
          have := (G.posN_at n l hlt h).2.2 (by omega)
          rw [← Hx.out, show j + 1 - 1 = j by omega, ← Hy.out] at this; omega)
        have e1 : IntKind.i64.wrap ((j : Int) + 1 - 1) = j := by rw [show (j : Int) + 1 - 1 = j by omega]; exact IntWalk.i64_in _ (by omega)
        clear c1 c2 c3
        go_wp2_with fail
        go_quiet (fail)
        go_wp2_with fail
        go_ret
        exact ⟨retB HF.out.symm, Below.drewN hb _⟩
      · have hd1 : decide (x < 0) = false := decide_eq_false c1
        have hd2 : decide ((n : Int) ≤ x) = false := decide_eq_false c2
        have hd3 : decide (x ≤ y) = false := decide_eq_false c3
        have HT : Hid (G.posN n l (j + 1 + 1) = true) := Lib.hid (by
          rw [G.posN, HP.out, ← Hx.out, show j + 1 - 1 = j by omega, ← Hy.out, hd1, hd2, hd3]; simp)
        go_wp2_with fail
        go_quiet (fail)
        go_wp2_with fail
        go_roundw
        case rel => exact ⟨j + 1 + 1, by omega, by go_num, HT, Below.drewN hb _⟩
        case measure => simp [intOf]; omega
    · obtain rfl : k = l.length := by omega
      have HP' : Hid (G.posB n l = true) := HP
      go_wp2_with fail
      go_ret
      exact ⟨retB HP'.out.symm, hb⟩
end Go.Proofs.Ytkebnmmcogkldaa
/- Walks of scaled, added, contains, merged of the reference of chapter 4; rows of bytes in memory. -/
namespace Go.Proofs.Ytkebnmmcogkldaa
open Go.RowKit
set_option linter.unusedVariables false

theorem Try.infoRow : (Try.prog.info? 59).map (fun i => (i.zero, i.size, i.bytes)) = some (some (.slice none 0 0), 1, 24) := by kernel_rfl
theorem Try.infoI64 : (Try.prog.info? 3).map (fun i => (i.zero, i.size, i.bytes)) = some (some (.int .i64 0), 1, 8) := by kernel_rfl
theorem rgmul_B (a b : UInt8) (w : World) :
    Calls Try.prog 90 #[B a, B b] w fun e w' => e = .returned (B (G.mul a b)) ∧ w = w' := rgmul_at _ _ a b w rfl rfl

theorem map_take_succ (l : List UInt8) (f : UInt8 → UInt8) (k : Nat) (h : k < l.length) : (l.take (k + 1)).map f = (l.take k).map f ++ [f (G.ix l k)] := by
  rw [G.take_succ_ix l k h, List.map_append]; rfl

set_option maxRecDepth 100000 in
set_option maxHeartbeats 2000000 in
theorem scaled_any (v : Value) (x : Int) (l : List UInt8) (c : UInt8) (w : World) (hv : Rd w v l) (hx : x = c.toNat) (hl : l.length ≤ 1000) :
    Calls Try.prog 109 #[v, .int .u8 x] w fun e w' => ∃ v', e = .returned v' ∧ w'.ownsRow w.heap.size 5 1 v' l.length (bs (G.scale c l)) ∧ Below w.heap.size w w' := by
  subst hx
  have hv0 := hv
  obtain ⟨h0, a, cap, b, off, rfl, hcap, hcell⟩ := hv
  have HC := Lib.hid hcell; clear hcell
  go_enter Try.func109, Try.ntmps109
  go_wp2_with fail
  have ho0 : (w.alloc (.cells #[] 5)).ownsRow w.heap.size 5 1 (.slice (some ⟨w.heap.size, 0, none⟩) 0 0) 0 (bs []) := World.ownsRow_lit w #[] 0 (Nat.le_refl _) (by simp) (by simp)
  have hb0 : Below w.heap.size w (w.alloc (.cells #[] 5)) := (Below.refl _ _).alloc (Nat.le_refl _) _
  go_loopw [5, 6] (fun vo vk wr => ∃ k : Nat, k ≤ l.length ∧ vk = .int .i64 k ∧ wr.ownsRow w.heap.size 5 1 vo k (bs (G.scale c (l.take k))) ∧ Below w.heap.size w wr) (fun _ vk _ => l.length - (intOf vk).toNat)
  case atStart => exact ⟨0, by omega, rfl, ho0, hb0⟩
  case round =>
    clear ho0 hb0
    obtain ⟨k, hk, rfl, ho, hb⟩ := hrel
    by_cases hlt : k < l.length
    · obtain ⟨ha, hcp⟩ := HC.out k hlt
      have hcw : wr.cell? ⟨b, off + k, none⟩ = some (B (G.ix l k)) := (hb.cell (p := ⟨b, off + k, none⟩) (World.block_lt_of_cell? w _ hcp)).trans hcp
      have hix := run_idx (P := Try.prog) Try.underlying59 Try.sizeU8 (cap := cap) ha hlt _ rfl wr
      have Ha := Lib.hid ha; clear ha hcp
      have hbs := hb.size
      obtain ⟨d, hd⟩ : ∃ d, d = G.mul (G.ix l k) c := ⟨_, rfl⟩
      have HD := Lib.hid hd; clear hd
      have HT : Hid (G.scale c (l.take (k + 1)) = G.scale c (l.take k) ++ [d]) := Lib.hid (by unfold G.scale; rw [map_take_succ l _ k hlt, HD.out, G.mul_comm])
      have hrd1 : Rd (wr.alloc (.cells #[B d] 5)) (.slice (some ⟨wr.heap.size, 0, none⟩) 1 1) [d] := Rd.ofOwn' (World.ownsRow_lit wr #[B d] 1 (Nat.le_refl _) (by simp [maxLen]) (by simp)) (by simp)
      have ho6 := own_keep ho ((Below.refl wr.heap.size wr).alloc (Nat.le_refl _) (.cells #[B d] 5))
      have hb6 := hb.alloc hbs (.cells #[B d] 5)
      have hb6s := hb6.size
      clear ho hb
      go_wp2_with (first | (go_at_call 90; (with_reducible refine (rgmul_B _ _ _).mono ?_); rintro e w' ⟨rfl, rfl⟩; rw [← HD.out]) | (refine wpList_appB rfl _ _ rfl Try.underlying59 Try.infoU8 ho6 rfl hrd1 rfl (by simp; omega) hb6s ?_; intro v7 w7 hown7 hgr7 _))
      have hb7 := hb6.grown hgr7 hb6s (ownBlock_ge ho6)
      rw [List.length_singleton, ← HT.out] at hown7
      clear hb6 ho6 hrd1 hgr7
      go_roundw
      case rel => exact ⟨k + 1, by omega, by go_num, hown7, hb7⟩
      case measure => simp [intOf]; omega
    · obtain rfl : k = l.length := by omega
      rw [List.take_length] at ho
      go_wp2_with fail
      go_ret
      exact ⟨_, rfl, ho, hb⟩

set_option maxRecDepth 100000 in
set_option maxHeartbeats 2000000 in
theorem added_any (va vb : Value) (p q : List UInt8) (w : World) (hp : Rd w va p) (hq : Rd w vb q) (hpq : q.length = p.length) (hl : p.length ≤ 1000) :
    Calls Try.prog 110 #[va, vb] w fun e w' => ∃ v', e = .returned v' ∧ w'.ownsRow w.heap.size 5 1 v' p.length (bs (G.xorL p q)) ∧ Below w.heap.size w w' := by
  obtain ⟨h0, a, cap, b, off, rfl, hcap, hcell⟩ := hp
  have HC := Lib.hid hcell; clear hcell
  obtain ⟨h02, a2, cap2, b2, off2, rfl, hcap2, hcell2⟩ := hq
  have HC2 := Lib.hid hcell2; clear hcell2
  have hxl : (G.xorL p q).length = p.length := G.xorL_length hpq.symm
  obtain ⟨n, hn⟩ : ∃ n, n = p.length := ⟨_, rfl⟩
  rw [← hn] at hpq hl hxl hcap ⊢
  rw [hpq] at hcap2 ⊢
  have HN := Lib.hid hn; clear hn
  have HQ := Lib.hid hpq; clear hpq
  have HX := Lib.hid hxl; clear hxl
  go_enter Try.func110, Try.ntmps110
  go_wp2_with fail
  have ho0 : (w.alloc (.cells #[] 5)).ownsRow w.heap.size 5 1 (.slice (some ⟨w.heap.size, 0, none⟩) 0 0) 0 (bs []) := World.ownsRow_lit w #[] 0 (Nat.le_refl _) (by simp) (by simp)
  have hb0 : Below w.heap.size w (w.alloc (.cells #[] 5)) := (Below.refl _ _).alloc (Nat.le_refl _) _
  go_loopw [5, 6] (fun vo vk wr => ∃ k : Nat, k ≤ n ∧ vk = .int .i64 k ∧ wr.ownsRow w.heap.size 5 1 vo k (bs ((G.xorL p q).take k)) ∧ Below w.heap.size w wr) (fun _ vk _ => n - (intOf vk).toNat)
  case atStart => exact ⟨0, by omega, rfl, ho0, hb0⟩
  case round =>
    clear ho0 hb0
    obtain ⟨k, hk, rfl, ho, hb⟩ := hrel
    by_cases hlt : k < n
    · obtain ⟨ha, hcp⟩ := HC.out k (by rw [← HN.out]; exact hlt)
      obtain ⟨ha2, hcp2⟩ := HC2.out k (by rw [HQ.out]; exact hlt)
      have hcw : wr.cell? ⟨b, off + k, none⟩ = some (B (G.ix p k)) := (hb.cell (p := ⟨b, off + k, none⟩) (World.block_lt_of_cell? w _ hcp)).trans hcp
      have hcw2 : wr.cell? ⟨b2, off2 + k, none⟩ = some (B (G.ix q k)) := (hb.cell (p := ⟨b2, off2 + k, none⟩) (World.block_lt_of_cell? w _ hcp2)).trans hcp2
      have hbs := hb.size
      have HT : Hid ((G.xorL p q).take (k + 1) = (G.xorL p q).take k ++ [G.ix p k ^^^ G.ix q k]) := Lib.hid (xorL_take_succ p q k (by rw [← HN.out]; exact hlt) (by rw [HQ.out]; exact hlt))
      have hxb := xorB (G.ix p k) (G.ix q k)
      obtain ⟨c, hc⟩ : ∃ c, c = G.ix p k ^^^ G.ix q k := ⟨_, rfl⟩
      rw [← hc] at hxb HT
      have HCc := Lib.hid hc; clear hc
      have hix := fun wx => run_idx (P := Try.prog) Try.underlying59 Try.sizeU8 (cap := cap) ha hlt _ rfl wx
      have hix2 := fun wx => run_idx (P := Try.prog) Try.underlying59 Try.sizeU8 (cap := cap2) ha2 hlt _ rfl wx
      have hbb := World.block_lt_of_cell? w _ hcp
      have hbb2 := World.block_lt_of_cell? w _ hcp2
      have Ha := Lib.hid ha; clear ha
      have Ha2 := Lib.hid ha2; clear ha2
      have Hcp := Lib.hid hcp; clear hcp
      have Hcp2 := Lib.hid hcp2; clear hcp2
      have hod := own_keep ho (show Below wr.heap.size wr wr.drew from ⟨rfl, rfl, rfl, Nat.le_refl _, fun _ _ => rfl⟩)
      have hbd := hb.drew
      have hbds := hbd.size
      have hrd1 : Rd (wr.drew.alloc (.cells #[B c] 5)) (.slice (some ⟨wr.heap.size, 0, none⟩) 1 1) [c] := Rd.ofOwn' (World.ownsRow_lit wr.drew #[B c] 1 (Nat.le_refl _) (by simp [maxLen]) (by simp)) (by simp)
      have ho6 := own_keep hod ((Below.refl wr.drew.heap.size wr.drew).alloc (Nat.le_refl _) (.cells #[B c] 5))
      have hb6 := hbd.alloc hbds (.cells #[B c] 5)
      have hb6s := hb6.size
      clear hod hbd ho hb
      go_wp2_with fail
      go_region_held3 (fun W => W.cell? ⟨b, off + k, none⟩ = some (B (G.ix p k)) ∧ W.cell? ⟨b2, off2 + k, none⟩ = some (B (G.ix q k))) (first | go_keep | exact ⟨he1, he2⟩) ((refine step_appB (by rfl) _ _ (by rfl) Try.underlying59 Try.infoU8 ho6 (by rfl) hrd1 (by rfl) (by simp; omega) hb6s ?_; intro v7 w7 hown7 hgr7; have he1 := ((hb6.grown hgr7 hb6s (ownBlock_ge ho6)).cell (p := ⟨b, off + k, none⟩) hbb).trans Hcp.out; have he2 := ((hb6.grown hgr7 hb6s (ownBlock_ge ho6)).cell (p := ⟨b2, off2 + k, none⟩) hbb2).trans Hcp2.out))
      all_goals
        go_wp2_with fail
        have hb7 := hb6.grown hgr7 hb6s (ownBlock_ge ho6)
        rw [List.length_singleton, ← HT.out] at hown7
        clear hb6 ho6 hrd1 hgr7
        go_roundw
        case rel => exact ⟨k + 1, by omega, by go_num, hown7, hb7⟩
        case measure => simp [intOf]; omega
    · obtain rfl : k = n := by omega
      rw [List.take_of_length_le (Nat.le_of_eq HX.out)] at ho
      go_wp2_with fail
      go_ret
      exact ⟨_, rfl, ho, hb⟩

set_option maxRecDepth 100000 in
set_option maxHeartbeats 1000000 in
theorem rcontains_any (v : Value) (l : List Int) (x : Int) (w : World) (hv : RdI w v l) :
    Calls Try.prog 96 #[v, .int .i64 x] w fun e w' => e = .returned (.bool (G.cont l x)) ∧ w = w' := by
  obtain ⟨h0, ⟨a, cap, b, off, rfl, hcap, hcell⟩, hrng⟩ := hv
  have HC := Lib.hid hcell; clear hcell
  clear hrng
  go_enter Try.func96, Try.ntmps96
  go_wp2_with fail
  go_loop [5] (fun vk => ∃ k : Nat, k ≤ l.length ∧ vk = .int .i64 k ∧ Hid (∀ i, i < k → ixI l i ≠ x)) (fun vk => l.length - (intOf vk).toNat)
  case atStart => exact ⟨0, by omega, rfl, Lib.hid (fun i h => by omega)⟩
  case round =>
    obtain ⟨k, hk, rfl, hz⟩ := hrel
    by_cases hlt : k < l.length
    · obtain ⟨ha, hcp⟩ := HC.out k hlt
      have hix := run_idx (P := Try.prog) Try.underlying24 Try.sizeInt (cap := cap) ha hlt _ rfl w
      have Ha := Lib.hid ha; clear ha
      obtain ⟨y, hy⟩ : ∃ y, y = ixI l k := ⟨_, rfl⟩
      rw [← hy] at hcp
      have Hy := Lib.hid hy; clear hy
      by_cases hc : y = x
      · have hb : (y == x) = true := by simpa using hc
        have HF : Hid (G.cont l x = true) := Lib.hid (by rw [G.cont_iff, ← hc, Hy.out]; exact ixI_mem hlt)
        clear hc
        go_wp2_with fail
        go_ret
        exact ⟨retB HF.out.symm, rfl⟩
      · have hb : (y == x) = false := by simpa using hc
        have Hc := Lib.hid hc; clear hc
        go_wp2_with fail
        go_round
        case rel =>
          refine ⟨k + 1, by omega, by go_num, Lib.hid fun i hi => ?_⟩
          by_cases e : i = k
          · rw [e, ← Hy.out]; exact Hc.out
          · exact hz.out i (by omega)
        case measure => simp [intOf]; omega
    · have HF : Hid (G.cont l x = false) := Lib.hid (by
        rw [Bool.eq_false_iff]; intro h
        rw [G.cont_iff] at h
        obtain ⟨i, hi, e⟩ := List.getElem_of_mem h
        exact hz.out i (by omega) (by rw [G.ixI_get hi]; exact e))
      go_wp2_with fail
      go_ret
      exact ⟨retB HF.out.symm, rfl⟩

/-- ints as cells -/
def is (l : List Int) : List Value := l.map (Value.int .i64)
theorem is_append (l m : List Int) : is (l ++ m) = is l ++ is m := by simp [is]
theorem is_length (l : List Int) : (is l).length = l.length := by simp [is]
theorem is_one (l : List Int) : ∀ u ∈ is l, u.oneCell' = true := by
  intro u hu
  simp only [is, List.mem_map] at hu
  obtain ⟨c, _, rfl⟩ := hu
  rfl
theorem is_get {l : List Int} {i : Nat} (h : i < l.length) : (is l)[i]? = some (.int .i64 (ixI l i)) := by
  simp [is, ixI, h]
/-- an owned row of ints can be read -/
theorem RdI.ofOwn {w : World} {base e : Nat} {v : Value} {l : List Int} (h : w.ownsRow base e 1 v l.length (is l)) (hl : l.length ≤ 17592186044416) (hr : ∀ x ∈ l, -9223372036854775808 ≤ x ∧ x ≤ 9223372036854775807) : RdI w v l := by
  refine ⟨hl, ?_, fun i hi => hr _ (ixI_mem hi)⟩
  rcases h.2 with ⟨rfl, h0⟩ | ⟨g, cap, cur, rfl, hg, hh, hn, hm, hcs, ht⟩
  · rw [h0]; exact ⟨none, 0, 0, 0, rfl, by omega, fun i hi => by omega⟩
  · refine ⟨_, cap, g, 0, rfl, hn, fun i hi => ⟨rfl, ?_⟩⟩
    rw [Nat.zero_add, h.cellAt i (by omega), is_get hi]
/-- 'append(v, x)' at ints: the new one lies in a literal -/
theorem wpList_appI {P : Program} {ops : Array Oper} {rest : List Oper} {o : Oper} {a : Act} {Q : Exit → Act → World → Prop} {w : World} (hg : o.guard = none) (s x : Operand) {t : TypeId}
    (hop : o.op = .call { callee := .builtin .append, args := #[s, x], argTypes := #[t, t] }) {e : TypeId} {base : Nat}
    (ht : P.underlying t = some (.slice e)) (h2 : (P.info? e).map (fun i => (i.zero, i.size, i.bytes)) = some (some (.int .i64 0), 1, 8))
    {v : Value} {n : Nat} {l : List Int} (hown : w.ownsRow base e 1 v n (is l)) (hv : a.eval s = v) {g : Nat} {y : Int} (hc : w.cell? ⟨g, 0, none⟩ = some (.int .i64 y)) (hx : a.eval x = .slice (some ⟨g, 0, none⟩) 1 1)
    (h63 : n ≤ 1073741824) (hbase : base ≤ w.heap.size)
    (hK : ∀ v' w', w'.ownsRow base e 1 v' (n + 1) (is (l ++ [y])) → w.grownBy w' v.ownBlock → wpList P ops Q rest (a.put o.dst v') w') : wpList P ops Q (o :: rest) a w := by
  obtain ⟨i0, hi, hz0, hz1, hz2⟩ := info_parts h2
  refine wpList_app hg s x hop ht hi hz0 hz1 hz2 rfl (by omega) hown hv (m := 1) (news := is [y]) ⟨by simp [is], _, 1, g, 0, rfl, Nat.le_refl _, fun i u hu => ?_⟩ hx (is_one _) (by unfold maxLen; omega) (by omega) hbase fun v' w' g1 g2 g3 => ?_
  · have hi0 : i = 0 := by
      by_cases h : i = 0
      · exact h
      · simp [is, h] at hu
    subst hi0
    simp only [is, List.map_cons, List.map_nil, List.getElem?_cons_zero, Option.some.injEq] at hu
    subst hu
    exact ⟨rfl, hc⟩
  · rw [← is_append] at g1
    exact hK v' w' g1 g2
end Go.Proofs.Ytkebnmmcogkldaa
/- Walk of merged of the reference of chapter 4. -/
namespace Go.Proofs.Ytkebnmmcogkldaa
open Go.RowKit
set_option linter.unusedVariables false

set_option maxRecDepth 100000 in
set_option maxHeartbeats 4000000 in
theorem merged_any (v : Value) (l : List Int) (x : Int) (w : World) (hv : RdI w v l) (hl : l.length ≤ 1000) (hx1 : -9223372036854775808 ≤ x) (hx2 : x ≤ 9223372036854775807) :
    Calls Try.prog 97 #[v, .int .i64 x] w fun e w' => ∃ v', e = .returned v' ∧ RdI w' v' (G.mg l x) ∧ Below w.heap.size w w' := by
  have hmem : ∀ y ∈ G.mg l x, -9223372036854775808 ≤ y ∧ y ≤ 9223372036854775807 := fun y hy => by
    rcases (G.mem_mg l x y).1 hy with h | rfl
    · obtain ⟨k, hk, rfl⟩ := List.getElem_of_mem h
      have := hv.2.2 k hk
      rwa [G.ixI_get hk] at this
    · exact ⟨hx1, hx2⟩
  have HM := Lib.hid hmem; clear hmem
  have hml := G.mg_length l x
  have HML := Lib.hid hml; clear hml
  obtain ⟨h0, ⟨a, cap, b, off, rfl, hcap, hcell⟩, hrng⟩ := hv
  have HC := Lib.hid hcell; clear hcell
  have HR := Lib.hid hrng; clear hrng
  go_enter Try.func97, Try.ntmps97
  go_wp2_with fail
  have ho0 : (w.alloc (.cells #[] 3)).ownsRow w.heap.size 3 1 (.slice (some ⟨w.heap.size, 0, none⟩) 0 0) 0 (is []) := World.ownsRow_lit w #[] 0 (Nat.le_refl _) (by simp) (by simp)
  have hb0 : Below w.heap.size w (w.alloc (.cells #[] 3)) := (Below.refl _ _).alloc (Nat.le_refl _) _
  go_loopw [5, 6, 7] (fun vo vd vk wr => ∃ k : Nat, k ≤ l.length ∧ vk = .int .i64 k ∧ vd = .bool (G.mgS l x k).2 ∧ wr.ownsRow w.heap.size 3 1 vo (G.mgS l x k).1.length (is (G.mgS l x k).1) ∧ Below w.heap.size w wr) (fun _ _ vk _ => l.length - (intOf vk).toNat)
  case atStart => exact ⟨0, by omega, rfl, rfl, ho0, hb0⟩
  case round =>
    clear ho0 hb0
    obtain ⟨k, hk, rfl, rfl, ho, hb⟩ := hrel
    have hsl := G.mgS_length l x k
    obtain ⟨⟨S, d⟩, hS⟩ : ∃ s, s = G.mgS l x k := ⟨_, rfl⟩
    rw [← hS] at ho hsl ⊢
    dsimp only at ho hsl ⊢
    have hsl2 : S.length ≤ k + 1 := by rw [hsl]; split <;> omega
    clear hsl
    by_cases hlt : k < l.length
    · obtain ⟨ha, hcp⟩ := HC.out k hlt
      have hcw : wr.cell? ⟨b, off + k, none⟩ = some (.int .i64 (ixI l k)) := (hb.cell (p := ⟨b, off + k, none⟩) (World.block_lt_of_cell? w _ hcp)).trans hcp
      have hix := fun wx => run_idx (P := Try.prog) Try.underlying24 Try.sizeInt (cap := cap) ha hlt _ rfl wx
      have hbb := World.block_lt_of_cell? w _ hcp
      have Ha := Lib.hid ha; clear ha
      obtain ⟨y, hy⟩ : ∃ y, y = ixI l k := ⟨_, rfl⟩
      rw [← hy] at hcw hcp
      have Hcp := Lib.hid hcp; clear hcp
      have hbs := hb.size
      by_cases hc : d = false ∧ x < y
      · obtain ⟨rfl, hxy⟩ := hc
        have hd1 : decide (x < y) = true := decide_eq_true hxy
        have HS : Hid (G.mgS l x (k + 1) = (S ++ [x] ++ [y], true)) := Lib.hid (by rw [G.mgS, ← hS, if_pos ⟨rfl, by rw [← hy]; exact hxy⟩, ← hy])
        have Hy := Lib.hid hy; clear hy
        have Hxy := Lib.hid hxy; clear hxy
        clear hS
        have ho6 := own_keep ho ((Below.refl wr.heap.size wr).alloc (Nat.le_refl _) (.cells #[.int .i64 x] 3))
        have hb6 := hb.alloc hbs (.cells #[.int .i64 x] 3)
        have hb6s := hb6.size
        clear ho hb
        go_wp2_with (first | (refine wpList_appI rfl _ _ rfl Try.underlying24 Try.infoI64 ho6 rfl (g := wr.heap.size) (y := x) (by simp) rfl (by omega) hb6s ?_; intro v7 w7 hown7 hgr7; have hb7 := hb6.grown hgr7 hb6s (ownBlock_ge ho6); have hcw7 := (hb7.cell (p := ⟨b, off + k, none⟩) hbb).trans Hcp.out; have hb7s := hb7.size; have ho8 := own_keep hown7 ((Below.refl w7.heap.size w7).alloc (Nat.le_refl _) (.cells #[.int .i64 y] 3)); have hb8 := hb7.alloc hb7s (.cells #[.int .i64 y] 3); have hb8s := hb8.size; clear hb6 ho6 hgr7 hown7 hb7 hcw) | (refine wpList_appI rfl _ _ rfl Try.underlying24 Try.infoI64 ho8 rfl (g := w7.heap.size) (y := y) (by simp) rfl (by omega) hb8s ?_; intro v9 w9 hown9 hgr9))
        have hb9 := hb8.grown hgr9 hb8s (ownBlock_ge ho8)
        clear hb8 ho8 hgr9
        go_roundw
        case rel =>
          refine ⟨k + 1, by omega, by go_num, by rw [HS.out], ?_, hb9⟩
          rw [HS.out]
          simpa using hown9
        case measure => simp [intOf]; omega
      · have HS : Hid (G.mgS l x (k + 1) = (S ++ [y], d)) := Lib.hid (by rw [G.mgS, ← hS, if_neg (by rw [← hy]; exact hc), ← hy])
        have Hy := Lib.hid hy; clear hy
        clear hS
        have hb6s := (hb.alloc hbs (.cells #[.int .i64 y] 3)).size
        have ho6 := own_keep ho ((Below.refl wr.heap.size wr).alloc (Nat.le_refl _) (.cells #[.int .i64 y] 3))
        have hb6 := hb.alloc hbs (.cells #[.int .i64 y] 3)
        have hdec : (d = true ∧ Hid True) ∨ (d = false ∧ Hid (decide (x < y) = false)) := by
          cases d with
          | true => exact .inl ⟨rfl, Lib.hid trivial⟩
          | false => exact .inr ⟨rfl, Lib.hid (decide_eq_false (fun h => hc ⟨rfl, h⟩))⟩
        clear hc ho hb
        rcases hdec with ⟨rfl, Hd⟩ | ⟨rfl, Hd⟩
        all_goals
          have hd1 := Hd.out
          go_wp2_with (refine wpList_appI rfl _ _ rfl Try.underlying24 Try.infoI64 ho6 rfl (g := wr.heap.size) (y := y) (by simp) rfl (by omega) hb6s ?_; intro v7 w7 hown7 hgr7)
          have hb7 := hb6.grown hgr7 hb6s (ownBlock_ge ho6)
          clear hb6 ho6 hgr7
          go_roundw
          case rel =>
            refine ⟨k + 1, by omega, by go_num, by rw [HS.out], ?_, hb7⟩
            rw [HS.out]
            simpa using hown7
          case measure => simp [intOf]; omega
    · obtain rfl : k = l.length := by omega
      have hbs := hb.size
      cases d with
      | true =>
        have HS : Hid (G.mg l x = S) := Lib.hid (by unfold G.mg; rw [← hS]; rfl)
        clear hS
        go_wp2_with fail
        go_ret
        rw [HS.out]
        exact ⟨_, rfl, RdI.ofOwn ho (by omega) (by rw [← HS.out]; exact HM.out), hb⟩
      | false =>
        have HS : Hid (G.mg l x = S ++ [x]) := Lib.hid (by unfold G.mg; rw [← hS]; rfl)
        clear hS
        have ho6 := own_keep ho ((Below.refl wr.heap.size wr).alloc (Nat.le_refl _) (.cells #[.int .i64 x] 3))
        have hb6 := hb.alloc hbs (.cells #[.int .i64 x] 3)
        have hb6s := hb6.size
        clear ho hb
        go_wp2_with (refine wpList_appI rfl _ _ rfl Try.underlying24 Try.infoI64 ho6 rfl (g := wr.heap.size) (y := x) (by simp) rfl (by omega) hb6s ?_; intro v7 w7 hown7 hgr7)
        have hb7 := hb6.grown hgr7 hb6s (ownBlock_ge ho6)
        go_ret
        rw [HS.out]
        refine ⟨_, rfl, RdI.ofOwn (by simpa using hown7) (by simp; omega) (by rw [← HS.out]; exact HM.out), hb7⟩
end Go.Proofs.Ytkebnmmcogkldaa
/- Rows of bytes in memory, and the walk of solve of the reference of chapter 4: the equations. -/
namespace Go.Proofs.Ytkebnmmcogkldaa
open Go.RowKit
set_option linter.unusedVariables false

theorem Try.sizeRow : (Try.prog.info? 59).map (·.size) = some 1 := by kernel_rfl

/-- a row of bytes that is not empty, at the head of a block of bytes -/
def RdT (w : World) (v : Value) (l : List UInt8) : Prop :=
  l.length ≤ 1000 ∧ ∃ cap bb cur fz, v = .slice (some ⟨bb, 0, none⟩) l.length cap ∧ l.length ≤ cap ∧ w.heap[bb]? = some (.cells cur 5 fz) ∧ ∀ i, i < l.length → w.cell? ⟨bb, i, none⟩ = some (B (G.ix l i))
theorem RdT.rd {w : World} {v : Value} {l : List UInt8} (h : RdT w v l) : Rd w v l := by
  obtain ⟨h0, cap, bb, cur, fz, rfl, hc, hg, h⟩ := h
  exact ⟨by omega, _, cap, bb, 0, rfl, hc, fun i hi => ⟨rfl, by rw [Nat.zero_add]; exact h i hi⟩⟩
theorem RdT.keepW {w w' : World} {v : Value} {l : List UInt8} (h : RdT w v l) (hk : ∀ (k : Nat) (cur : Array Value) (fz : Nat × Nat), w.heap[k]? = some (Obj.cells cur 5 fz) → w'.heap[k]? = w.heap[k]?) : RdT w' v l := by
  obtain ⟨h0, cap, bb, cur, fz, rfl, hc, hg, h⟩ := h
  have e := hk bb cur fz hg
  exact ⟨h0, cap, bb, cur, fz, rfl, hc, e.trans hg, fun i hi => by rw [← h i hi]; exact World.cell?_of_block e⟩
theorem RdT.below {w w' : World} {v : Value} {l : List UInt8} (h : RdT w v l) (hb : Below w.heap.size w w') : RdT w' v l := h.keepW fun k cur fz hk => hb.block k (Array.getElem?_eq_some_iff.1 hk).1
theorem RdT.ofOwn {w : World} {base n : Nat} {v : Value} {l : List UInt8} (h : w.ownsRow base 5 1 v n (bs l)) (hn : l.length = n) (h0 : 0 < n) (hl : n ≤ 1000) : RdT w v l := by
  subst hn
  rcases h.2 with ⟨rfl, h1⟩ | ⟨g, cap, cur, rfl, hg, hh, hn, hm, hcs, ht⟩
  · omega
  · refine ⟨hl, cap, g, cur, _, rfl, hn, hh, fun i hi => ?_⟩
    rw [h.cellAt i (by omega), bs_get hi]
theorem RdT.form {w : World} {v : Value} {l : List UInt8} (h : RdT w v l) {k : Nat} (hk : l.length = k) : ∃ cap bb, v = .slice (some ⟨bb, 0, none⟩) k cap := by
  obtain ⟨h0, cap, bb, cur, fz, rfl, _⟩ := h
  exact ⟨cap, bb, by rw [hk]⟩
theorem RdT.byte {w : World} {v : Value} {l : List UInt8} (h : RdT w v l) {m : Nat} (hl : l.length = m) (k : Nat) (hk : k < m) : ∃ cap bb, v = .slice (some ⟨bb, 0, none⟩) m cap ∧ w.cell? ⟨bb, k, none⟩ = some (B (G.ix l k)) ∧ m ≤ cap := by
  obtain ⟨h0, cap, bb, cur, fz, rfl, hc, _, h⟩ := h
  exact ⟨cap, bb, by rw [hl], h k (by omega), by omega⟩
theorem RdT.one {w : World} {v : Value} {l : List UInt8} (h : RdT w v l) : v.oneCell' = true := by
  obtain ⟨h0, cap, bb, cur, fz, rfl, _⟩ := h; rfl

/-- block 'g' holds rows -/
def RowsM (w : World) (g : Nat) (R : List (List UInt8)) : Prop :=
  ∃ cur, w.heap[g]? = some (.cells cur 59 (0, 0)) ∧ R.length ≤ cur.size ∧ ∀ i, i < R.length → ∃ v, cur[i]? = some v ∧ RdT w v (G.rw_ R i)
theorem RowsM.lt {w : World} {g : Nat} {R : List (List UInt8)} (h : RowsM w g R) : g < w.heap.size := by
  obtain ⟨cur, hg, _⟩ := h; exact (Array.getElem?_eq_some_iff.1 hg).1
theorem RowsM.cell {w : World} {g : Nat} {R : List (List UInt8)} (h : RowsM w g R) (i : Nat) (hi : i < R.length) : ∃ v, w.cell? ⟨g, i, none⟩ = some v ∧ RdT w v (G.rw_ R i) := by
  obtain ⟨cur, hg, hs, h⟩ := h
  obtain ⟨v, hv, hr⟩ := h i hi
  exact ⟨v, by rw [cell_of_row w g i cur _ _ hg]; exact hv, hr⟩
theorem RowsM.frozen {w : World} {g : Nat} {R : List (List UInt8)} (h : RowsM w g R) (i : Nat) : w.frozen? ⟨g, i, none⟩ = false := by
  obtain ⟨cur, hg, hs, h⟩ := h
  simp [World.frozen?, hg]
theorem RowsM.below {w w' : World} {g : Nat} {R : List (List UInt8)} (h : RowsM w g R) (hb : Below w.heap.size w w') : RowsM w' g R := by
  have hlt := h.lt
  obtain ⟨cur, hg, hs, h⟩ := h
  exact ⟨cur, (hb.block g hlt).trans hg, hs, fun i hi => by obtain ⟨v, hv, hr⟩ := h i hi; exact ⟨v, hv, hr.below hb⟩⟩
theorem RowsM.drew {w : World} {g : Nat} {R : List (List UInt8)} (h : RowsM w g R) : RowsM w.drew g R := h.below ⟨rfl, rfl, rfl, Nat.le_refl _, fun _ _ => rfl⟩
theorem RowsM.store {w : World} {g : Nat} {R : List (List UInt8)} (h : RowsM w g R) (i : Nat) (hi : i < R.length) {v : Value} {l : List UInt8} (hv : RdT w v l) : RowsM (w.setCell ⟨g, i, none⟩ v) g (R.set i l) := by
  obtain ⟨cur, hg, hs, h⟩ := h
  have hkeep : ∀ (k : Nat) (c : Array Value) (fz : Nat × Nat), w.heap[k]? = some (Obj.cells c 5 fz) → (w.setCell ⟨g, i, none⟩ v).heap[k]? = w.heap[k]? := fun k c fz hk => by
    by_cases e : k = g
    · subst e
      rw [hg] at hk
      simp at hk
    · exact Below.heap_setCell _ _ _ _ e
  refine ⟨cur.setIfInBounds i v, ?_, by simpa using hs, fun j hj => ?_⟩
  · rw [setCell_eq_setRow w g i cur _ _ v hg]
    exact setRow_heap w g cur _ _ _ hg
  · rw [List.length_set] at hj
    by_cases e : j = i
    · subst e
      refine ⟨v, by simp [(by omega : j < cur.size)], ?_⟩
      rw [G.rw_set_self _ _ _ hj]
      exact hv.keepW hkeep
    · obtain ⟨u, hu, hr⟩ := h j hj
      refine ⟨u, by rw [Array.getElem?_setIfInBounds_ne (by omega)]; exact hu, ?_⟩
      rw [G.rw_set_ne _ _ e]
      exact hr.keepW hkeep

theorem RowsM.setRdT {w : World} {g : Nat} {R : List (List UInt8)} (h : RowsM w g R) (i : Nat) (u : Value) {v : Value} {l : List UInt8} (hv : RdT w v l) : RdT (w.setCell ⟨g, i, none⟩ u) v l := by
  obtain ⟨cur, hg, hs, h⟩ := h
  refine hv.keepW fun k c fz hk => ?_
  by_cases e : k = g
  · subst e
    rw [hg] at hk
    simp at hk
  · exact Below.heap_setCell _ _ _ _ e

theorem RowsM.ne {w : World} {g : Nat} {R : List (List UInt8)} (h : RowsM w g R) {bb m c : Nat} {l : List UInt8} (hv : RdT w (.slice (some ⟨bb, 0, none⟩) m c) l) : bb ≠ g := by
  obtain ⟨cur, hg, _⟩ := h
  obtain ⟨_, _, bb', cur', _, hse, _, hh, _⟩ := hv
  simp only [Value.slice.injEq, Option.some.injEq, Addr.mk.injEq, and_true] at hse
  obtain ⟨rfl, _⟩ := hse
  rintro rfl
  rw [hg] at hh
  simp at hh

/-- a slice of the call's own that grows by rows -/
def Bld (w : World) (base : Nat) (v : Value) (R : List (List UInt8)) : Prop :=
  ∃ vs, w.ownsRow base 59 1 v R.length vs ∧ vs.length = R.length ∧ ∀ i, i < R.length → ∃ u, vs[i]? = some u ∧ RdT w u (G.rw_ R i)
theorem Bld.below {w w' : World} {base : Nat} {v : Value} {R : List (List UInt8)} (h : Bld w base v R) (hb : Below w.heap.size w w') : Bld w' base v R := by
  obtain ⟨vs, h1, h2, h3⟩ := h
  exact ⟨vs, own_keep h1 hb, h2, fun i hi => by obtain ⟨u, hu, hr⟩ := h3 i hi; exact ⟨u, hu, hr.below hb⟩⟩
theorem Bld.ge {w : World} {base : Nat} {v : Value} {R : List (List UInt8)} (h : Bld w base v R) : ∀ k, v.ownBlock = some k → base ≤ k := by
  obtain ⟨vs, h1, _⟩ := h; exact ownBlock_ge h1
theorem Bld.toM {w : World} {base : Nat} {v : Value} {R : List (List UInt8)} (h : Bld w base v R) (h0 : 0 < R.length) : ∃ g cap, v = .slice (some ⟨g, 0, none⟩) R.length cap ∧ base ≤ g ∧ R.length ≤ cap ∧ RowsM w g R := by
  obtain ⟨vs, h1, h2, h3⟩ := h
  rcases h1.2 with ⟨rfl, h4⟩ | ⟨g, cap, cur, rfl, hg, hh, hn, hm, hcs, ht⟩
  · omega
  · refine ⟨g, cap, rfl, hg, hn, cur, hh, ?_, fun i hi => ?_⟩
    · rw [hcs]; omega
    · obtain ⟨u, hu, hr⟩ := h3 i hi
      refine ⟨u, ?_, hr⟩
      have : (cur.toList.take (R.length * 1))[i]? = some u := by rw [ht]; exact hu
      rw [List.getElem?_take] at this
      split at this
      · simpa using this
      · cases this
/-- 'append(rows, row)' -/
theorem wpList_appR {P : Program} {ops : Array Oper} {rest : List Oper} {o : Oper} {a : Act} {Q : Exit → Act → World → Prop} {w : World} (hg : o.guard = none) (s x : Operand) {t : TypeId}
    (hop : o.op = .call { callee := .builtin .append, args := #[s, x], argTypes := #[t, t] }) {base : Nat}
    (ht : P.underlying t = some (.slice 59)) (h2 : (P.info? 59).map (fun i => (i.zero, i.size, i.bytes)) = some (some (.slice none 0 0), 1, 24))
    {v : Value} {R : List (List UInt8)} (hown : Bld w base v R) (hv : a.eval s = v) {g : Nat} {nv : Value} {row : List UInt8} (hrow : RdT w nv row) (hc : w.cell? ⟨g, 0, none⟩ = some nv) (hx : a.eval x = .slice (some ⟨g, 0, none⟩) 1 1)
    (h63 : R.length ≤ 1000) (hbase : base ≤ w.heap.size)
    (hK : ∀ v' w', Bld w' base v' (R ++ [row]) → w.grownBy w' v.ownBlock → wpList P ops Q rest (a.put o.dst v') w') : wpList P ops Q (o :: rest) a w := by
  obtain ⟨i0, hi, hz0, hz1, hz2⟩ := info_parts h2
  obtain ⟨vs, h3, h4, h5⟩ := hown
  refine wpList_app hg s x hop ht hi hz0 hz1 hz2 rfl (by omega) h3 hv (m := 1) (news := [nv]) ⟨by simp, _, 1, g, 0, rfl, Nat.le_refl _, fun i u hu => ?_⟩ hx (by simp [hrow.one]) (by unfold maxLen; omega) (by omega) hbase fun v' w' g1 g2 g3 => ?_
  · have hi0 : i = 0 := by
      by_cases h : i = 0
      · exact h
      · simp [h] at hu
    subst hi0
    simp only [List.getElem?_cons_zero, Option.some.injEq] at hu
    subst hu
    exact ⟨rfl, hc⟩
  · have hkeep : ∀ (k : Nat) (c : Array Value) (fz : Nat × Nat), w.heap[k]? = some (Obj.cells c 5 fz) → w'.heap[k]? = w.heap[k]? := fun k c fz hk => by
      refine g2.block k (Array.getElem?_eq_some_iff.1 hk).1 (fun e => ?_)
      rcases h3.2 with ⟨rfl, _⟩ | ⟨gg, cap, cur, rfl, _, hh, _⟩
      · simp [Value.ownBlock] at e
      · simp only [Value.ownBlock, Option.some.injEq] at e
        subst e
        rw [hh] at hk
        simp at hk
    refine hK v' w' ⟨vs ++ [nv], by simpa using g1, by simp [h4], fun i hi => ?_⟩ g2
    rw [List.length_append, List.length_singleton] at hi
    by_cases e : i < R.length
    · obtain ⟨u, hu, hr⟩ := h5 i e
      refine ⟨u, by rw [List.getElem?_append_left (by omega)]; exact hu, ?_⟩
      have : G.rw_ (R ++ [row]) i = G.rw_ R i := by simp [G.rw_, List.getElem?_append_left e]
      rw [this]
      exact hr.keepW hkeep
    · obtain rfl : i = R.length := by omega
      refine ⟨nv, by rw [List.getElem?_append_right (by omega)]; simp [h4], ?_⟩
      have : G.rw_ (R ++ [row]) R.length = row := by simp [G.rw_]
      rw [this]
      exact hrow.keepW hkeep

theorem Bld.t26 {w : World} {base : Nat} {v : Value} {R : List (List UInt8)} (h : Bld w base v R) : ∀ k, v.ownBlock = some k → ∃ cur fz, w.heap[k]? = some (Obj.cells cur 59 fz) := by
  obtain ⟨vs, h1, h2, h3⟩ := h
  intro k hk
  rcases h1.2 with ⟨rfl, _⟩ | ⟨g, cap, cur, rfl, hg, hh, hn, hm, hcs, ht⟩
  · simp [Value.ownBlock] at hk
  · simp only [Value.ownBlock, Option.some.injEq] at hk
    subst hk
    exact ⟨cur, _, hh⟩
theorem RdT.keepG {w w' : World} {v : Value} {l : List UInt8} {row : Option Nat} (h : RdT w v l) (hg : w.grownBy w' row) (h26 : ∀ k, row = some k → ∃ cur fz, w.heap[k]? = some (Obj.cells cur 59 fz)) : RdT w' v l :=
  h.keepW fun k cur fz hk => hg.block k (Array.getElem?_eq_some_iff.1 hk).1 fun e => by
    obtain ⟨cur', fz', h2⟩ := h26 k e.symm
    rw [hk] at h2
    simp at h2
end Go.Proofs.Ytkebnmmcogkldaa
/- The walk of solve of the reference of chapter 4. -/
namespace Go.Proofs.Ytkebnmmcogkldaa
open Go.RowKit
set_option linter.unusedVariables false

/-- the powers in equation 'i' -/
def exps (N i : Nat) (A : List Nat) : List UInt8 := A.map fun t => G.exp (i * (N - 1 - t))
theorem eqs_take (p : List UInt8) (n : Nat) (A : List Nat) (i : Nat) (hi : i < n) : (G.eqs p n A).take (i + 1) = (G.eqs p n A).take i ++ [exps p.length i A ++ [G.eval p (G.exp i)]] := by
  have h : i < (G.eqs p n A).length := by rw [G.eqs_length]; exact hi
  rw [List.take_succ_eq_append_getElem h]
  simp [G.eqs, exps]
theorem exps_take (N i : Nat) (A : List Nat) (k : Nat) (hk : k < A.length) : (exps N i A).take (k + 1) = (exps N i A).take k ++ [G.exp (i * (N - 1 - A[k]))] := by
  have h : k < (exps N i A).length := by simpa [exps] using hk
  rw [List.take_succ_eq_append_getElem h]
  simp [exps]

theorem rexp_nat (x : Int) (q : Nat) (w : World) (hx : x = q) (hq : q ≤ 1000000) :
    Calls Try.prog 87 #[.int .i64 x] w fun e w' => e = .returned (B (G.exp q)) ∧ w = w' := by
  subst hx
  refine (rexp_any (q : Int) w (by omega) (by omega)).mono ?_
  rintro e w' ⟨rfl, rfl⟩
  refine ⟨?_, rfl⟩
  rw [B, G.toNat_exp]
  have : Gf.exp (ex (q : Int)) = Gf.exp q := by
    have e : ex (q : Int) = q % 255 := by unfold ex; omega
    rw [e, Gf.exp_mod]
  rw [this]

/-- a pivot in column 'k' -/
def PivQ (R : List (List UInt8)) (k n : Nat) (v : Value) : Prop := ∃ q : Nat, v = .int .i64 q ∧ k ≤ q ∧ q < n ∧ G.ix (G.rw_ R q) k ≠ 0
/-- the rows as they lie in memory -/
def MemQ (w : World) (g : Nat) (R : List (List UInt8)) (wx : World) : Prop := RowsM wx g R ∧ Below w.heap.size w wx

/-- the rows below 't' are cleared in column 'k' -/
def StepQ (w : World) (g : Nat) (R0 : List (List UInt8)) (n m k t : Nat) (wx : World) : Prop :=
  ∃ R, RowsM wx g R ∧ G.Elim n m R0 R k ∧ G.ix (G.rw_ R k) k = 1 ∧ (∀ s, s < t → s ≠ k → G.ix (G.rw_ R s) k = 0) ∧ Below w.heap.size w wx

/-- the word with the first changes -/
def chgT (N : Nat) (A : List Nat) (y : Nat → UInt8) (t i : Nat) : UInt8 := G.sumN (fun k => if A.getD k N = i then y k else 0) t
/-- nothing is near, if a further row is not 0 -/
theorem none_near {p : List UInt8} {n : Nat} {l : List Int} {R : List (List UInt8)} {t : Nat} (hE : G.Elim n l.length (G.eqs p n (G.posL l)) R l.length) (hp : G.posB p.length l = true) (hl : l.length ≤ n) (h1 : l.length ≤ t) (h2 : t < n) (h3 : G.ix (G.rw_ R t) l.length ≠ 0) : ∀ c, ¬ G.Near p c n l := by
  rintro c ⟨g1, g2, g3⟩
  rw [← G.posL_length l] at hE h1 h3 hl
  exact h3 ((G.solved hE hl (G.posL_nodup hp) (G.posL_lt hp) c g1 (fun i hi => (G.mem_posL hp i).2 (g3 i hi)) ((G.validB_iff c n).1 g2).2).1 t h1 h2)
theorem is_near {p O : List UInt8} {n : Nat} {l : List Int} {R : List (List UInt8)} (hs : G.shapedB p n = true) (hE : G.Elim n l.length (G.eqs p n (G.posL l)) R l.length) (hp : G.posB p.length l = true) (hl : l.length ≤ n)
    (hz : ∀ s, l.length ≤ s → s < n → G.ix (G.rw_ R s) l.length = 0) (hO : O.length = p.length) (hix : ∀ j, j < p.length → G.ix O j = G.ix p j ^^^ chgT p.length (G.posL l) (fun k => G.ix (G.rw_ R k) l.length) l.length j) : G.Near p O n l := by
  have hO2 : O = G.fixL p (G.posL l) (fun k => G.ix (G.rw_ R k) (G.posL l).length) := by
    apply G.ext_ix (by rw [G.fixL_length, hO])
    intro j hj
    rw [hO] at hj
    unfold G.fixL
    rw [hix j hj, G.ix_xorL (by rw [G.chgL_length]), G.ix_chgL _ _ _ _ hj, G.posL_length]
    unfold chgT G.chg
    rw [G.posL_length]
  rw [← G.posL_length l] at hE hl hz
  obtain ⟨k1, k2⟩ := G.solved_ok hE hl (G.posL_lt hp) hz
  rw [← hO2] at k1 k2
  exact ⟨hO, (G.validB_iff O n).2 ⟨by rw [G.shapedB_len _ hO]; exact hs, k1⟩, fun i hi => (G.mem_posL hp i).1 (k2 i hi)⟩

def SolveOut (p : List UInt8) (n : Nat) (l : List Int) (w : World) (e : Ending) (w' : World) : Prop :=
  ((∃ c, e = .returned (.tuple #[.string (str c), .bool true]) ∧ G.Near p c n l) ∨ (e = .returned (.tuple #[.string (str []), .bool false]) ∧ ∀ c, ¬ G.Near p c n l)) ∧ Below w.heap.size w w'

set_option maxRecDepth 100000 in
set_option maxHeartbeats 8000000 in
theorem solve_any (p : List UInt8) (n : Nat) (ve : Value) (l : List Int) (w : World) (h : G.shapedB p n = true) (hv : RdI w ve l) (hp : G.posB p.length l = true) (hl : l.length ≤ n) :
    Calls Try.prog 95 #[.string (str p), .int .i64 n, ve] w (SolveOut p n l w) := by
  obtain ⟨h1, h2, h3, h4, h5⟩ := (G.shapedB_iff p n).1 h
  have hs := str_size p
  have hn16 : n ≤ 16 := by omega
  have hn1 : 1 ≤ n := by omega
  have HSh := Lib.hid h; clear h
  have hpat := fun k (hk : k < l.length) => G.posN_at p.length l hk hp
  have HPa := Lib.hid hpat; clear hpat
  have HP := Lib.hid hp; clear hp
  obtain ⟨_, ⟨va, vc, b, off, rfl, hcap, hcell⟩, hrng⟩ := id hv
  have HC := Lib.hid hcell; clear hcell hrng
  obtain ⟨N, hN⟩ : ∃ N, N = p.length := ⟨_, rfl⟩
  rw [← hN] at hs h1 h2 h5
  have HN := Lib.hid hN; clear hN
  have hAl := G.posL_length l
  obtain ⟨A, hA⟩ : ∃ A, A = G.posL l := ⟨_, rfl⟩
  rw [← hA] at hAl
  have HA := Lib.hid hA; clear hA
  have HAl := Lib.hid hAl; clear hAl
  obtain ⟨m, hm⟩ : ∃ m, m = l.length := ⟨_, rfl⟩
  go_enter Try.func95, Try.ntmps95
  go_wp2_with fail
  have hbld0 : Bld (w.alloc (.cells #[] 59)) w.heap.size (.slice (some ⟨w.heap.size, 0, none⟩) 0 0) ((G.eqs p n A).take 0) := ⟨[], World.ownsRow_lit w #[] 0 (Nat.le_refl _) (by simp) (by simp), rfl, fun i hi => by simp at hi⟩
  have hb0 := (Below.refl w.heap.size w).alloc (Nat.le_refl _) (.cells #[] 59)
  refine (rsyndromes_own p n _ HSh.out).mono ?_
  rintro e w1 ⟨vs, rfl, hsyo, hb1⟩
  have hsy : RdT w1 vs (G.synd p n) := RdT.ofOwn hsyo (G.synd_length p n) (by omega) (by omega)
  clear hsyo
  have hbld1 := hbld0.below hb1
  have hB1 := hb0.trans (hb1.mono (by simp))
  clear hbld0 hb0 hb1
  obtain ⟨sa, sc, rfl⟩ := hsy.rd.form
  have hsl : (G.synd p n).length = n := G.synd_length p n
  rw [hsl] at hsy ⊢
  obtain ⟨S, hS⟩ : ∃ S, S = G.synd p n := ⟨_, rfl⟩
  rw [← hS] at hsy hsl
  have HS := Lib.hid hS; clear hS
  have HSl := Lib.hid hsl; clear hsl
  go_wp2_with fail
  go_loopw [8, 11] (fun v8 vi wr => ∃ i : Nat, i ≤ n ∧ vi = .int .i64 i ∧ Bld wr w.heap.size v8 ((G.eqs p n A).take i) ∧ RdT wr (.slice sa n sc) S ∧ Below w.heap.size w wr) (fun _ vi _ => n - (intOf vi).toNat)
  case atStart => exact ⟨0, by omega, rfl, hbld1, hsy, hB1⟩
  case round =>
    clear hbld1 hsy hB1
    obtain ⟨i, hi, rfl, hbld, hsy, hb⟩ := hrel
    obtain ⟨wo, rfl⟩ : ∃ wo : World, wo = wr := ⟨_, rfl⟩
    by_cases hlt : i < n
    · have ho0 : (wo.alloc (.cells #[] 5)).ownsRow wo.heap.size 5 1 (.slice (some ⟨wo.heap.size, 0, none⟩) 0 0) 0 (bs ((exps N i A).take 0)) := World.ownsRow_lit wo #[] 0 (Nat.le_refl _) (by simp) (by simp)
      have hb0 : Below wo.heap.size wo (wo.alloc (.cells #[] 5)) := (Below.refl _ _).alloc (Nat.le_refl _) _
      have hbs := hb.size
      go_wp2_with fail
      go_loopw [12, 13] (fun vr vk wr => ∃ k : Nat, k ≤ l.length ∧ vk = .int .i64 k ∧ wr.ownsRow wo.heap.size 5 1 vr k (bs ((exps N i A).take k)) ∧ Below wo.heap.size wo wr) (fun _ vk _ => l.length - (intOf vk).toNat)
      case atStart => exact ⟨0, by omega, rfl, ho0, hb0⟩
      case round =>
        clear ho0 hb0
        obtain ⟨k, hk, rfl, ho, hbi⟩ := hrel
        have hbw := hb.trans (hbi.mono hbs)
        by_cases hlk : k < l.length
        · obtain ⟨hax, hcp⟩ := HC.out k hlk
          have hcw : wr.cell? ⟨b, off + k, none⟩ = some (.int .i64 (ixI l k)) := (hbw.cell (p := ⟨b, off + k, none⟩) (World.block_lt_of_cell? w _ hcp)).trans hcp
          have hix := run_idx (P := Try.prog) Try.underlying24 Try.sizeInt (cap := vc) hax hlk _ rfl wr
          have Ha := Lib.hid hax; clear hax hcp
          obtain ⟨g5, g6, _⟩ := HPa.out k hlk
          rw [← HN.out] at g6
          obtain ⟨t, ht⟩ : ∃ t : Nat, ixI l k = t := ⟨(ixI l k).toNat, by omega⟩
          have HT : Hid ((exps N i A).take (k + 1) = (exps N i A).take k ++ [G.exp (i * (N - 1 - t))]) := Lib.hid (by
            rw [exps_take N i A k (by rw [HAl.out]; exact hlk)]
            congr 4
            simp only [HA.out, G.posL, List.getElem_map]
            rw [← G.ixI_get hlk, ht]; simp)
          rw [ht] at hcw g5 g6
          have Ht := Lib.hid ht; clear ht
          obtain ⟨r, hr⟩ : ∃ r : Nat, r = N - 1 - t := ⟨_, rfl⟩
          have hr1 : (N : Int) - 1 - (t : Int) = (r : Int) := by omega
          have hr2 : r ≤ 255 := by omega
          rw [← hr] at HT
          have hir : i * r ≤ 16 * 255 := Nat.mul_le_mul (by omega) hr2
          have hirw : IntKind.i64.wrap ((i : Int) * (r : Int)) = ((i * r : Nat) : Int) := by rw [show (i : Int) * (r : Int) = ((i * r : Nat) : Int) by simp]; exact IntWalk.i64_in _ (by omega)
          clear hr
          go_wp2_with fail
          refine (rexp_nat _ (i * r) _ (by first | rfl | exact hirw | simp) (by omega)).mono ?_
          rintro e w' ⟨rfl, rfl⟩
          obtain ⟨cx, hcx⟩ : ∃ cx, cx = G.exp (i * r) := ⟨_, rfl⟩
          rw [← hcx] at HT ⊢
          clear hcx hir hirw hr1 hr2
          have hbis := hbi.size
          have hrd1 : Rd (wr.alloc (.cells #[B cx] 5)) (.slice (some ⟨wr.heap.size, 0, none⟩) 1 1) [cx] := Rd.ofOwn' (World.ownsRow_lit wr #[B cx] 1 (Nat.le_refl _) (by simp [maxLen]) (by simp)) (by simp)
          have ho6 := own_keep ho ((Below.refl wr.heap.size wr).alloc (Nat.le_refl _) (.cells #[B cx] 5))
          have hb6 := hbi.alloc hbis (.cells #[B cx] 5)
          have hb6s := hb6.size
          clear ho hbi hbw hcw hix
          go_wp2_with (refine wpList_appB rfl _ _ rfl Try.underlying59 Try.infoU8 ho6 rfl hrd1 rfl (by simp; omega) hb6s ?_; intro v7 w7 hown7 hgr7 _)
          have hb7 := hb6.grown hgr7 hb6s (ownBlock_ge ho6)
          rw [List.length_singleton, ← HT.out] at hown7
          clear hb6 ho6 hrd1 hgr7
          go_roundw
          case rel => exact ⟨k + 1, by omega, by go_num, hown7, hb7⟩
          case measure => simp [intOf]; omega
        · obtain rfl : k = l.length := by omega
          have hel : (exps N i A).length = l.length := by simp [exps, HAl.out]
          rw [List.take_of_length_le (by omega)] at ho
          have hsyr := (hsy.below hbi).rd
          obtain ⟨_, sa', scap, sb, soff, hse, _, hscell⟩ := hsyr
          simp only [Value.slice.injEq] at hse
          obtain ⟨rfl, hnS, rfl⟩ := hse
          clear hnS
          obtain ⟨hsae, hscw⟩ := hscell i (by rw [HSl.out]; exact hlt)
          have hsix := run_idx (P := Try.prog) Try.underlying59 Try.sizeU8 (cap := sc) hsae hlt _ rfl wr
          clear hscell hsae
          have hSi : G.ix S i = G.eval p (G.exp i) := by rw [HS.out, G.ix_synd p n i hlt]
          obtain ⟨cs, hcs⟩ : ∃ cs, cs = G.ix S i := ⟨_, rfl⟩
          rw [← hcs] at hscw hSi
          clear hcs
          have HT : Hid ((G.eqs p n A).take (i + 1) = (G.eqs p n A).take i ++ [exps N i A ++ [cs]]) := Lib.hid (by rw [hSi, HN.out]; exact eqs_take p n A i hlt)
          clear hSi
          have hbis := hbi.size
          have hrd1 : Rd (wr.alloc (.cells #[B cs] 5)) (.slice (some ⟨wr.heap.size, 0, none⟩) 1 1) [cs] := Rd.ofOwn' (World.ownsRow_lit wr #[B cs] 1 (Nat.le_refl _) (by simp [maxLen]) (by simp)) (by simp)
          have ho6 := own_keep ho ((Below.refl wr.heap.size wr).alloc (Nat.le_refl _) (.cells #[B cs] 5))
          have hb6 := hbi.alloc hbis (.cells #[B cs] 5)
          have hb6s := hb6.size
          have htl : ((G.eqs p n A).take i).length ≤ 1000 := by rw [List.length_take]; omega
          clear ho hbi hbw
          go_wp2_with (first | (refine wpList_appB rfl _ _ rfl Try.underlying59 Try.infoU8 ho6 rfl hrd1 rfl (by simp; omega) hb6s ?_; intro v7 w7 hown7 hgr7 _; have hb7 := hb6.grown hgr7 hb6s (ownBlock_ge ho6); have hb7s := hb7.size; have hrow7 : RdT w7 v7 (exps N i A ++ [cs]) := RdT.ofOwn hown7 (by simp [hel]) (by simp) (by simp; omega); obtain ⟨ca7, bb7, rfl⟩ := hrow7.form (show _ = l.length + 1 by simp [hel]); have hbld8 := (hbld.below hb7).below ((Below.refl w7.heap.size w7).alloc (Nat.le_refl _) (.cells #[.slice (some ⟨bb7, 0, none⟩) (l.length + 1) ca7] 59)); have hrow8 := hrow7.below ((Below.refl w7.heap.size w7).alloc (Nat.le_refl _) (.cells #[.slice (some ⟨bb7, 0, none⟩) (l.length + 1) ca7] 59)); have hB8 := (hb.trans (hb7.mono hbs)).alloc (Nat.le_trans hbs hb7s) (.cells #[.slice (some ⟨bb7, 0, none⟩) (l.length + 1) ca7] 59); have hB8s := hB8.size; have hsy8 := (hsy.below hb7).below ((Below.refl w7.heap.size w7).alloc (Nat.le_refl _) (.cells #[.slice (some ⟨bb7, 0, none⟩) (l.length + 1) ca7] 59)); clear hb6 ho6 hrd1 hgr7 hown7) | (at_builtin; go_must (refine wpList_appR rfl _ _ rfl Try.underlying146 Try.infoRow hbld8 rfl hrow8 (g := w7.heap.size) (by simp) rfl htl hB8s ?_; intro v9 w9 hbld9 hgr9)))
          have hB9 := hB8.grown hgr9 hB8s (hbld8.ge)
          have hsy9 := hsy8.keepG hgr9 hbld8.t26
          rw [← HT.out] at hbld9
          clear hbld8 hrow8 hB8 hgr9 hsy8 hbld hsy hb hrow7 hb7
          go_roundw
          case rel => exact ⟨i + 1, by omega, by go_num, hbld9, hsy9, hB9⟩
          case measure => simp [intOf]; omega
    · obtain rfl : i = n := by omega
      rw [List.take_of_length_le (by rw [G.eqs_length]; exact Nat.le_refl _)] at hbld
      obtain ⟨g, cap8, rfl, hgw, hcap8, hM⟩ := hbld.toM (by rw [G.eqs_length]; omega)
      rw [G.eqs_length] at hcap8 ⊢
      have hE0 : G.Elim i l.length (G.eqs p i A) (G.eqs p i A) 0 := ⟨G.eqs_length _ _ _, fun t ht => by rw [G.rw_eqs _ _ _ _ ht]; simp [HAl.out], fun y => Iff.rfl, fun j hj => by omega⟩
      obtain ⟨R0, hR0⟩ : ∃ R0, R0 = G.eqs p i A := ⟨_, rfl⟩
      rw [← hR0] at hM hE0
      have HR0 := Lib.hid hR0; clear hR0
      have HE0 := Lib.hid hE0; clear hE0
      clear hbld hsy
      go_wp2_with fail
      go_loopw [14] (fun vk wr => ∃ (k : Nat) (R : List (List UInt8)), k ≤ l.length ∧ vk = .int .i64 k ∧ RowsM wr g R ∧ Hid (G.Elim i l.length R0 R k) ∧ Below w.heap.size w wr) (fun vk _ => l.length - (intOf vk).toNat)
      case atStart => exact ⟨0, R0, by omega, rfl, hM, HE0, hb⟩
      case round =>
        clear hM hb
        obtain ⟨k, R, hk, rfl, hM, HE, hb⟩ := hrel
        obtain ⟨wk, rfl⟩ : ∃ wk : World, wk = wr := ⟨_, rfl⟩
        have hRl := HE.out.len
        have HRl := Lib.hid hRl; clear hRl
        by_cases hkl : k < l.length
        · go_upto_block 6 with fail
          go_cut [15] (fun s15 wx => wx = wk ∧ PivQ R k i s15)
          case first =>
            go_wp2_with fail
            go_loop [15, 16] (fun v15 v16 => ∃ (t : Nat) (pv : Int), k ≤ t ∧ t ≤ i ∧ v16 = .int .i64 t ∧ v15 = .int .i64 pv ∧ -1 ≤ pv ∧ pv < i ∧ Hid ((pv = -1 ∧ ∀ s, k ≤ s → s < t → G.ix (G.rw_ R s) k = 0) ∨ (∃ q : Nat, pv = q ∧ k ≤ q ∧ q < i ∧ G.ix (G.rw_ R q) k ≠ 0))) (fun _ v16 => i - (intOf v16).toNat)
            case atStart => exact ⟨k, -1, by omega, by omega, rfl, rfl, by omega, by omega, Lib.hid (.inl ⟨rfl, fun s h1 h2 => by omega⟩)⟩
            case round =>
              obtain ⟨t, pv, hkt, hti, rfl, rfl, hpv1, hpv2, HPv⟩ := hrel
              by_cases hgo : t < i ∧ pv < 0
              · obtain ⟨hti', hpv⟩ := hgo
                obtain rfl : pv = -1 := by omega
                obtain ⟨v, hcv, hrv⟩ := hM.cell t (by rw [HRl.out]; exact hti')
                obtain ⟨cv, bv, rfl, hcbk, _⟩ := hrv.byte (HE.out.row t hti') k (by omega)
                have hti2 : t < i := hti'
                have hkl2 : k < l.length + 1 := by omega
                clear hrv
                by_cases hc : G.ix (G.rw_ R t) k = 0
                · have hbz : (((G.ix (G.rw_ R t) k).toNat : Int) == 0) = true := by rw [hc]; rfl
                  have hbz' : (((G.ix (G.rw_ R t) k).toNat : Int) != 0) = false := by rw [hc]; rfl
                  have Hc := Lib.hid hc; clear hc
                  go_wp2_with fail
                  go_round
                  case rel =>
                    refine ⟨t + 1, -1, by omega, by omega, by go_num, rfl, by omega, by omega, Lib.hid (.inl ⟨rfl, fun s h1 h2 => ?_⟩)⟩
                    by_cases e : s = t
                    · rw [e]; exact Hc.out
                    · rcases HPv.out with ⟨_, h⟩ | ⟨q, h, _⟩
                      · exact h s h1 (by omega)
                      · omega
                  case measure => simp [intOf]; omega
                · have hbz : (((G.ix (G.rw_ R t) k).toNat : Int) == 0) = false := by rw [byte_beq0]; simpa using hc
                  have hbz' : (((G.ix (G.rw_ R t) k).toNat : Int) != 0) = true := by unfold bne; rw [hbz]; rfl
                  have Hc := Lib.hid hc; clear hc
                  go_wp2_with fail
                  go_round
                  case rel => exact ⟨t + 1, t, by omega, by omega, by go_num, rfl, by omega, by omega, Lib.hid (.inr ⟨t, rfl, by omega, hti2, Hc.out⟩)⟩
                  case measure => simp [intOf]; omega
              · have hq : ∃ q : Nat, pv = q ∧ k ≤ q ∧ q < i ∧ G.ix (G.rw_ R q) k ≠ 0 := by
                  rcases HPv.out with ⟨h6, h7⟩ | h6
                  · exfalso
                    have hti3 : t = i := by omega
                    subst hti3
                    have hE := HE.out
                    rw [← HAl.out, HR0.out] at hE
                    have hAp : ∀ s ∈ A, s < p.length := by rw [HA.out]; exact G.posL_lt HP.out
                    exact G.pivot hE (by rw [HAl.out]; exact hkl) (by rw [← HN.out]; exact h2) (by rw [HAl.out]; exact hl) (by rw [HA.out]; exact G.posL_nodup HP.out) hAp (fun s h8 h9 => h7 s h8 h9)
                  · exact h6
                rcases Nat.lt_or_ge t i with hti3 | hti3
                all_goals
                  obtain ⟨q, rfl, hkq, hqi, hne⟩ := hq
                  have Hne := Lib.hid hne; clear hne HPv
                  have hqn : ¬ ((q : Int) < 0) := by omega
                  go_wp2_with fail
                  go_meet
                  exact ⟨rfl, q, rfl, hkq, hqi, Hne.out⟩
          case rest =>
            obtain ⟨rfl, q, rfl, hkq, hqi, hne⟩ := hcut
            have Hne := Lib.hid hne; clear hne
            have hqn : ¬ ((q : Int) < 0) := by omega
            have hki : k < i := by omega
            obtain ⟨vk, hvk, hrk⟩ := hM.cell k (by rw [HRl.out]; exact hki)
            obtain ⟨vq, hvq, hrq⟩ := hM.cell q (by rw [HRl.out]; exact hqi)
            have hfk := hM.frozen k
            have hfq := hM.frozen q
            obtain ⟨ck, bk, rfl⟩ := hrk.form (HE.out.row k hki)
            obtain ⟨cq, bq, rfl⟩ := hrq.form (HE.out.row q hqi)
            have hM1 := hM.store k (by rw [HRl.out]; exact hki) hrq
            have hM2 := hM1.store q (by rw [List.length_set, HRl.out]; exact hqi) (hM.setRdT k _ hrk)
            have hEs := HE.out.swap hki hkq hqi
            have HE2 : Hid (G.Elim i l.length R0 ((R.set k (G.rw_ R q)).set q (G.rw_ R k)) k) := Lib.hid hEs
            have HNz : Hid (G.ix (G.rw_ ((R.set k (G.rw_ R q)).set q (G.rw_ R k)) k) k ≠ 0) := Lib.hid (by
              have e := G.rw_swp R (k := k) (p := q) (by rw [HRl.out]; exact hki) (by rw [HRl.out]; exact hqi) k
              unfold G.swp at e
              rw [e]
              split
              · next h8 => rw [h8]; have := Hne.out; rwa [← h8] at this ⊢
              · rw [if_pos rfl]; exact Hne.out)
            clear hEs
            obtain ⟨v', hv', _⟩ := hM1.cell q (by rw [List.length_set, HRl.out]; exact hqi)
            have hf' := hM1.frozen q
            have hgw2 := hgw
            have hB2 := ((hb.setCell (p := ⟨g, k, none⟩) hgw (.slice (some ⟨bq, 0, none⟩) (l.length + 1) cq)).setCell (p := ⟨g, q, none⟩) hgw (.slice (some ⟨bk, 0, none⟩) (l.length + 1) ck)).drew
            have hM3 := hM2.drew
            clear hM1 hM2 hM
            obtain ⟨R2, hR2⟩ : ∃ R2, R2 = (R.set k (G.rw_ R q)).set q (G.rw_ R k) := ⟨_, rfl⟩
            rw [← hR2] at hM3 HE2 HNz
            clear hR2 HE Hne HRl
            have hki' : (k : Int) < i := by omega
            have hqi' : (q : Int) < i := by omega
            go_upto_region 23 with fail
            go_cut [] (fun wx => MemQ w g R2 wx)
            case first =>
              go_region
              all_goals
                go_wp2_with fail
                go_meet
                exact ⟨hM3, hB2⟩
            case rest =>
              obtain ⟨hM3, hB2⟩ := hcut
              obtain ⟨w4, rfl⟩ : ∃ w4 : World, w4 = wc := ⟨_, rfl⟩
              have hRl2 := HE2.out.len
              obtain ⟨v5, hcv5, hrv5⟩ := hM3.cell k (by rw [hRl2]; exact hki)
              obtain ⟨c5, b5, rfl, hcb5, _⟩ := hrv5.byte (HE2.out.row k hki) k (by omega)
              have hkl2 : (k : Int) < (l.length : Int) + 1 := by omega
              have HR2l := Lib.hid hRl2; clear hRl2
              obtain ⟨x5, hx5⟩ : ∃ x5, x5 = G.ix (G.rw_ R2 k) k := ⟨_, rfl⟩
              rw [← hx5] at hcb5
              have HX5 := Lib.hid hx5; clear hx5
              go_wp2_with fail
              refine (rginv_at _ x5 _ rfl (by rw [HX5.out]; exact HNz.out)).mono ?_
              rintro e w' ⟨rfl, rfl⟩
              obtain ⟨iv, hiv⟩ : ∃ iv, iv = G.inv x5 := ⟨_, rfl⟩
              rw [← hiv]
              have HIv := Lib.hid hiv; clear hiv
              have hfr5 := hM3.frozen k
              go_wp2_with fail
              refine (scaled_any _ _ (G.rw_ R2 k) iv _ hrv5.rd rfl (by rw [HE2.out.row k hki]; omega)).mono ?_
              rintro e w6 ⟨v6, rfl, ho6, hb6⟩
              rw [HE2.out.row k hki] at ho6
              have hrv6 : RdT w6 v6 (G.scale iv (G.rw_ R2 k)) := RdT.ofOwn ho6 (by rw [G.scale_length]; exact HE2.out.row k hki) (by omega) (by omega)
              have hM6 := hM3.below hb6
              have hB6 := hB2.trans (hb6.mono hB2.size)
              obtain ⟨v6', hcv6, _⟩ := hM6.cell k (by rw [HR2l.out]; exact hki)
              have hfr6 := hM6.frozen k
              obtain ⟨c6, b6, rfl⟩ := hrv6.form (show _ = l.length + 1 by rw [G.scale_length]; exact HE2.out.row k hki)
              have hM7 := hM6.store k (by rw [HR2l.out]; exact hki) hrv6
              have hB7 := hB6.setCell (p := ⟨g, k, none⟩) hgw (.slice (some ⟨b6, 0, none⟩) (l.length + 1) c6)
              have HE7 : Hid (G.Elim i l.length R0 (R2.set k (G.scale iv (G.rw_ R2 k))) k) := Lib.hid (HE2.out.scale hki iv (by rw [HIv.out, HX5.out]; exact G.inv_ne HNz.out))
              have HK7 : Hid (G.ix (G.rw_ (R2.set k (G.scale iv (G.rw_ R2 k))) k) k = 1) := Lib.hid (by
                rw [G.rw_set_self _ _ _ (by rw [HR2l.out]; exact hki), G.ix_scale, HIv.out, HX5.out]
                exact G.inv_mul HNz.out)
              obtain ⟨R7, hR7⟩ : ∃ R7, R7 = R2.set k (G.scale iv (G.rw_ R2 k)) := ⟨_, rfl⟩
              rw [← hR7] at hM7 HE7 HK7
              clear hR7 hM6 hM3 hrv5 hrv6 ho6 hb6 hB6 hB2 HE2 HNz HIv HX5 hcv5 hcb5 hfr5
              go_wp2_with fail
              generalize w6.setCell ⟨g, k, none⟩ (.slice (some ⟨b6, 0, none⟩) (l.length + 1) c6) = w7 at hM7 hB7 ⊢
              clear hcv6 hfr6 hfk hfq hvk hvq hf' hv'
              go_loopw [19] (fun v19 wr => ∃ (t : Nat) (R : List (List UInt8)), t ≤ i ∧ v19 = .int .i64 t ∧ RowsM wr g R ∧ Hid (G.Elim i l.length R0 R k) ∧ Hid (G.ix (G.rw_ R k) k = 1) ∧ Hid (∀ s, s < t → s ≠ k → G.ix (G.rw_ R s) k = 0) ∧ Below w.heap.size w wr) (fun v19 _ => i - (intOf v19).toNat)
              case atStart => exact ⟨0, R7, by omega, rfl, hM7, HE7, HK7, Lib.hid (fun s h8 => by omega), hB7⟩
              case round =>
                clear hM7 hB7 HE7 HK7
                obtain ⟨t5, R5, ht5, rfl, hM, HE5, HK5, HZ5, hb5⟩ := hrel
                have hRl5 := HE5.out.len
                by_cases ht5i : t5 < i
                · go_upto_block 9 with fail
                  go_cut [] (fun wx => StepQ w g R0 i l.length k (t5 + 1) wx)
                  case first =>
                    by_cases htk : t5 = k
                    · have htb : ((t5 : Int) == (k : Int)) = true := by rw [htk]; simp
                      have htb' : ((t5 : Int) != (k : Int)) = false := by rw [htk]; simp
                      have Htk := Lib.hid htk; clear htk
                      clear hRl5
                      go_wp2_with fail
                      go_meet
                      exact ⟨R5, hM, HE5.out, HK5.out, fun s h8 h9 => HZ5.out s (by have := Htk.out; omega) h9, hb5⟩
                    · have htb : ((t5 : Int) == (k : Int)) = false := by rw [beq_eq_false_iff_ne]; omega
                      have htb' : ((t5 : Int) != (k : Int)) = true := by unfold bne; rw [htb]; rfl
                      have hMd := hM.drew
                      have hbd5 := hb5.drew
                      obtain ⟨vt, hct, hrt⟩ := hMd.cell t5 (by rw [hRl5]; exact ht5i)
                      obtain ⟨vkk, hck, hrk5⟩ := hMd.cell k (by rw [hRl5]; exact hki)
                      obtain ⟨ct, bt, rfl, hcbt, _⟩ := hrt.byte (HE5.out.row t5 ht5i) k (by omega)
                      obtain ⟨ckk, bkk, rfl⟩ := hrk5.form (HE5.out.row k hki)
                      obtain ⟨f, hf⟩ : ∃ f, f = G.ix (G.rw_ R5 t5) k := ⟨_, rfl⟩
                      rw [← hf] at hcbt
                      have Hf := Lib.hid hf; clear hf
                      have HR5l := Lib.hid hRl5; clear hRl5
                      have hbd5s := hbd5.size
                      have ht5i' : (t5 : Int) < i := by omega
                      have HC1 : Hid (Calls Try.prog 109 #[.slice (some ⟨bkk, 0, none⟩) (l.length + 1) ckk, B f] wr.drew fun e w' => ∃ bs' cs', e = .returned (.slice (some ⟨bs', 0, none⟩) (l.length + 1) cs') ∧ w'.cell? ⟨g, t5, none⟩ = some (.slice (some ⟨bt, 0, none⟩) (l.length + 1) ct) ∧ w'.cell? ⟨g, k, none⟩ = some (.slice (some ⟨bkk, 0, none⟩) (l.length + 1) ckk) ∧ w'.cell? ⟨bt, k, none⟩ = some (B f) ∧ bt < w'.heap.size ∧ RdT w' (.slice (some ⟨bs', 0, none⟩) (l.length + 1) cs') (G.scale f (G.rw_ R5 k)) ∧ RdT w' (.slice (some ⟨bt, 0, none⟩) (l.length + 1) ct) (G.rw_ R5 t5) ∧ RowsM w' g R5 ∧ Below w.heap.size w w') := Lib.hid (by
                        refine (scaled_any _ _ (G.rw_ R5 k) f _ hrk5.rd rfl (by rw [HE5.out.row k hki]; omega)).mono ?_
                        rintro e w8 ⟨v8, rfl, ho8, hb8⟩
                        rw [HE5.out.row k hki] at ho8
                        have hr8 : RdT w8 v8 (G.scale f (G.rw_ R5 k)) := RdT.ofOwn ho8 (by rw [G.scale_length]; exact HE5.out.row k hki) (by omega) (by omega)
                        obtain ⟨c8, b8, rfl⟩ := hr8.form (show _ = l.length + 1 by rw [G.scale_length]; exact HE5.out.row k hki)
                        exact ⟨_, _, rfl, (hb8.cell (p := ⟨g, t5, none⟩) hMd.lt).trans hct, (hb8.cell (p := ⟨g, k, none⟩) hMd.lt).trans hck, (hb8.cell (p := ⟨bt, k, none⟩) (World.block_lt_of_cell? wr.drew _ hcbt)).trans hcbt, Nat.lt_of_lt_of_le (World.block_lt_of_cell? wr.drew _ hcbt) hb8.size, hr8, hrt.below hb8, hMd.below hb8, hbd5.trans (hb8.mono hbd5s)⟩)
                      have HNew : Hid (G.Elim i l.length R0 (R5.set t5 (G.xorL (G.rw_ R5 t5) (G.scale f (G.rw_ R5 k)))) k) := Lib.hid (HE5.out.add hki ht5i htk f)
                      have hxl : (G.rw_ R5 t5).length = (G.scale f (G.rw_ R5 k)).length := by rw [G.scale_length, HE5.out.row k hki, HE5.out.row t5 ht5i]
                      have HK6 : Hid (G.ix (G.rw_ (R5.set t5 (G.xorL (G.rw_ R5 t5) (G.scale f (G.rw_ R5 k)))) k) k = 1) := Lib.hid (by rw [G.rw_set_ne _ _ (fun e => htk e.symm)]; exact HK5.out)
                      have HZ6 : Hid (∀ s, s < t5 + 1 → s ≠ k → G.ix (G.rw_ (R5.set t5 (G.xorL (G.rw_ R5 t5) (G.scale f (G.rw_ R5 k)))) s) k = 0) := Lib.hid (fun s h8 h9 => by
                        by_cases e : s = t5
                        · rw [e, G.rw_set_self _ _ _ (by rw [HR5l.out]; exact ht5i), G.ix_xorL hxl, G.ix_scale, HK5.out, G.mul_one, ← Hf.out, G.xor_self]
                        · rw [G.rw_set_ne _ _ e]; exact HZ5.out s (by omega) h9)
                      have hxr : (G.xorL (G.rw_ R5 t5) (G.scale f (G.rw_ R5 k))).length = l.length + 1 := by rw [G.xorL_length hxl]; exact HE5.out.row t5 ht5i
                      have Hxr := Lib.hid hxr; clear hxr
                      have Hxl := Lib.hid hxl; clear hxl
                      have Hrow := Lib.hid (HE5.out.row t5 ht5i)
                      obtain ⟨R6, hR6⟩ : ∃ R6, R6 = R5.set t5 (G.xorL (G.rw_ R5 t5) (G.scale f (G.rw_ R5 k))) := ⟨_, rfl⟩
                      rw [← hR6] at HNew HK6 HZ6
                      have HR6 := Lib.hid hR6; clear hR6
                      have hbg : bt ≠ g := hMd.ne hrt
                      clear hM hb5 HE5 HK5 HZ5 hrt hrk5 hMd
                      clear HPa HP HC hcap hs HSl HS HN HA HAl HR0 hv HSh
                      go_wp2_with fail
                      go_region_with (first | (go_at_call 109; refine HC1.out.mono ?_; rintro e w8 ⟨bs8, cs8, rfl, hct8, hk8, hff8, hbt8, hrs8, hrt8, hM8, hB8⟩) | (go_at_call 110; refine (added_any _ _ _ _ _ hrt8.rd hrs8.rd (by rw [← Hxl.out]) (by rw [Hrow.out]; omega)).mono ?_; rintro e w9 ⟨v9, rfl, ho9, hb9⟩; rw [Hrow.out] at ho9; have hr9 : RdT w9 v9 _ := RdT.ofOwn ho9 Hxr.out (by omega) (by omega); obtain ⟨c9, b9, rfl⟩ := hr9.form Hxr.out; have hct9 := (hb9.cell (p := ⟨g, t5, none⟩) hM8.lt).trans hct8; have hk9 := (hb9.cell (p := ⟨g, k, none⟩) hM8.lt).trans hk8; have hff9 := (hb9.cell (p := ⟨bt, k, none⟩) hbt8).trans hff8; have hM9 := hM8.below hb9; have hB9 := hB8.trans (hb9.mono hB8.size); have hf9 := hM9.frozen t5; have hM10 := hM9.store t5 (by rw [HR5l.out]; exact ht5i) hr9; rw [← HR6.out] at hM10; have hB10 := hB9.setCell (p := ⟨g, t5, none⟩) hgw (.slice (some ⟨b9, 0, none⟩) (l.length + 1) c9); have hk10 := (World.cell?_setCell_other w9 ⟨g, t5, none⟩ ⟨g, k, none⟩ (.slice (some ⟨b9, 0, none⟩) (l.length + 1) c9) (by first | (simp; done) | (simpa using htk))).trans hk9; have hf10 := (World.cell?_setCell_other w9 ⟨g, t5, none⟩ ⟨bt, k, none⟩ (.slice (some ⟨b9, 0, none⟩) (l.length + 1) c9) (by first | (simp; done) | (simpa using fun e => absurd e.symm hbg))).trans hff9))
                      all_goals
                        go_wp2_with fail
                        go_meet
                        exact ⟨R6, hM10, HNew.out, HK6.out, HZ6.out, hB10⟩
                  case rest =>
                    obtain ⟨R6, h6a, h6b, h6c, h6d, h6e⟩ := hcut
                    clear hRl5
                    go_wp2_with fail
                    go_roundw
                    case rel => exact ⟨t5 + 1, R6, by omega, by go_num, h6a, Lib.hid h6b, Lib.hid h6c, Lib.hid h6d, h6e⟩
                    case measure => simp [intOf]; omega
                · have hk1 : k + 1 ≤ l.length := by omega
                  have HNx : Hid (G.Elim i l.length R0 R5 (k + 1)) := Lib.hid (HE5.out.next fun s hs => by
                    by_cases e : s = k
                    · rw [if_pos e, e]; exact HK5.out
                    · rw [if_neg e]; exact HZ5.out s (by omega) e)
                  clear hRl5
                  go_wp2_with fail
                  go_roundw
                  case rel => exact ⟨k + 1, R5, hk1, by go_num, hM, HNx, hb5⟩
                  case measure => simp [intOf]; omega
        · obtain rfl : k = l.length := by omega
          have hEf : Hid (G.Elim i l.length (G.eqs p i (G.posL l)) R l.length) := Lib.hid (by rw [← HA.out, ← HR0.out]; exact HE.out)
          have hbs := hb.size
          have hpz : (str p).data.toList = p := rfl
          have HPz := Lib.hid hpz; clear hpz
          obtain ⟨y, hy⟩ : ∃ y : Nat → UInt8, y = fun k => G.ix (G.rw_ R k) l.length := ⟨_, rfl⟩
          have HYv : Hid (∀ k, y k = G.ix (G.rw_ R k) l.length) := Lib.hid (fun k => by rw [hy])
          have HYf := Lib.hid hy; clear hy
          have hlt' := hM.lt
          go_wp2_with (refine wpList_bytes rfl _ rfl Try.underlying9 Try.underlying59 Try.underlying5 rfl ?_; intro w4 cap hr4 hb4 hcap4)
          rw [HPz.out] at hr4
          go_loopw [21] (fun v21 wr => ∃ (t : Nat) (O : List UInt8), t ≤ i ∧ v21 = .int .i64 t ∧ Row wr 5 wk.heap.size cap O ∧ Hid (O.length = N) ∧ Hid (∀ j, j < N → G.ix O j = G.ix p j ^^^ chgT N A y (min t l.length) j) ∧ Hid (∀ s, l.length ≤ s → s < t → y s = 0) ∧ Below wk.heap.size wk wr) (fun v21 _ => i - (intOf v21).toNat)
          case atStart => exact ⟨0, p, by omega, rfl, hr4, Lib.hid HN.out.symm, Lib.hid (fun j hj => by rw [Nat.zero_min]; unfold chgT G.sumN; rw [G.xor_zero]), Lib.hid (fun s h8 h9 => by omega), hb4⟩
          case round =>
            clear hr4 hb4
            obtain ⟨t, O, hti, rfl, hr, HO, HI, HZ, hbk⟩ := hrel
            have hbw := hb.trans (hbk.mono hbs)
            by_cases ht : t < i
            · obtain ⟨v5, hcv5, hrv5⟩ := hM.cell t (by rw [HRl.out]; exact ht)
              obtain ⟨c5, b5, rfl, hcb5, _⟩ := hrv5.byte (HE.out.row t ht) l.length (by omega)
              have hb5l := World.block_lt_of_cell? wk _ hcb5
              have hc1 := (hbk.cell (p := ⟨g, t, none⟩) hlt').trans hcv5
              have hc2 := (hbk.cell (p := ⟨b5, l.length, none⟩) hb5l).trans hcb5
              rw [← HYv.out t] at hc2
              clear hcv5 hcb5 hrv5
              have ht' : (t : Int) < i := by omega
              have hll : (l.length : Int) < (l.length : Int) + 1 := by omega
              by_cases htm : t < l.length
              · obtain ⟨hax, hcp⟩ := HC.out t htm
                have hcw : wr.cell? ⟨b, off + t, none⟩ = some (.int .i64 (ixI l t)) := (hbw.cell (p := ⟨b, off + t, none⟩) (World.block_lt_of_cell? w _ hcp)).trans hcp
                have hix := fun wx => run_idx (P := Try.prog) Try.underlying24 Try.sizeInt (cap := vc) hax htm _ rfl wx
                have Ha := Lib.hid hax; clear hax hcp
                obtain ⟨g5, g6, _⟩ := HPa.out t htm
                rw [← HN.out] at g6
                obtain ⟨a, hat⟩ : ∃ a : Nat, ixI l t = a := ⟨(ixI l t).toNat, by omega⟩
                have HAt : Hid (A.getD t N = a) := Lib.hid (by
                  rw [List.getD_eq_getElem?_getD, List.getElem?_eq_getElem (by rw [HAl.out]; exact htm)]
                  simp only [HA.out, G.posL, List.getElem_map, Option.getD_some]
                  rw [← G.ixI_get htm, hat]; simp)
                rw [hat] at hcw g5 g6
                have Hat := Lib.hid hat; clear hat
                have haN : a < N := by omega
                have hxb := xorB (G.ix O a) (y t)
                have hcO := hr.cell a (by rw [HO.out]; exact haN)
                have hfO := hr.frozen a (by have := hr.le; have := HO.out; omega)
                have hst := (hr.drew).store a (G.ix O a ^^^ y t) (by rw [HO.out]; exact haN)
                have hbst := (hbk.drew).setCell (p := ⟨wk.heap.size, a, none⟩) (Nat.le_refl _) (B (G.ix O a ^^^ y t))
                have HO2 : Hid ((O.set a (G.ix O a ^^^ y t)).length = N) := Lib.hid (by rw [List.length_set, HO.out])
                have HI2 : Hid (∀ j, j < N → G.ix (O.set a (G.ix O a ^^^ y t)) j = G.ix p j ^^^ chgT N A y (min (t + 1) l.length) j) := Lib.hid (fun j hj => by
                  have h8 := HI.out j hj
                  rw [Nat.min_eq_left (by omega)] at h8
                  rw [Nat.min_eq_left (by omega), chgT, G.sumN, ← chgT, HAt.out]
                  by_cases e : j = a
                  · subst e
                    rw [ix_set_self _ _ (by rw [HO.out]; exact hj), h8, if_pos rfl, G.xor_assoc]
                  · rw [ix_set_ne _ _ e, h8, if_neg (fun e2 => e e2.symm), G.xor_zero])
                clear hr
                go_wp2_with fail
                go_still_tail 15, (by kernel_rfl)
                change wpList _ _ _ _ _ wr.drew
                go_wp2_with fail
                go_roundw
                case rel => exact ⟨t + 1, _, by omega, by go_num, hst, HO2, HI2, Lib.hid (fun s h8 h9 => by omega), hbst⟩
                case measure => simp [intOf]; omega
              · have htd : decide ((t : Int) < l.length) = false := by rw [decide_eq_false_iff_not]; omega
                by_cases hy0 : y t = 0
                · have hyb : (((y t).toNat : Int) == 0) = true := by rw [hy0]; rfl
                  have hyb' : (((y t).toNat : Int) != 0) = false := by rw [hy0]; rfl
                  have Hy0 := Lib.hid hy0; clear hy0
                  go_wp2_with fail
                  go_roundw
                  case rel =>
                    refine ⟨t + 1, O, by omega, by go_num, hr, HO, Lib.hid (fun j hj => ?_), Lib.hid (fun s h8 h9 => ?_), hbk⟩
                    · have h8 := HI.out j hj
                      rwa [Nat.min_eq_right (by omega)] at h8 ⊢
                    · by_cases e : s = t
                      · rw [e]; exact Hy0.out
                      · exact HZ.out s h8 (by omega)
                  case measure => simp [intOf]; omega
                · have hyb : (((y t).toNat : Int) == 0) = false := by rw [byte_beq0]; simpa using hy0
                  have hyb' : (((y t).toNat : Int) != 0) = true := by unfold bne; rw [hyb]; rfl
                  have HNo : Hid (∀ c, ¬ G.Near p c i l) := Lib.hid (none_near hEf.out HP.out hl (by omega) ht (by rw [← HYv.out]; exact hy0))
                  have Hy0 := Lib.hid hy0; clear hy0
                  go_wp2_with fail
                  go_ret2
                  exact ⟨.inr ⟨rfl, HNo.out⟩, hbw⟩
            · obtain rfl : t = i := by omega
              have hrd : Rd wr (.slice (some ⟨wk.heap.size, 0, none⟩) N cap) O := by
                have := hr.rd (by rw [HO.out]; omega)
                rwa [HO.out] at this
              have hcx := run_str (P := Try.prog) Try.underlying59 Try.underlying5 Try.underlying9 hrd
              have HNr : Hid (G.Near p O t l) := Lib.hid (is_near HSh.out hEf.out HP.out hl (fun s h8 h9 => by rw [← HYv.out]; exact HZ.out s h8 h9) (by rw [HO.out, HN.out]) (fun j hj => by
                rw [← HN.out] at hj ⊢
                have h8 := HI.out j hj
                rw [Nat.min_eq_right hl] at h8
                rw [h8, HA.out, HYf.out]))
              go_wp2_with fail
              go_ret2
              exact ⟨.inl ⟨O, rfl, HNr.out⟩, hbw⟩
end Go.Proofs.Ytkebnmmcogkldaa
/- The examples of chapter 4: 'awake' returns true. -/
namespace Go.Proofs.Ytkebnmmcogkldaa
open Go.RowKit
set_option linter.unusedVariables false

theorem enc_ex (w : World) : Calls Try.prog 36 #[.string ⟨#[1]⟩, .int .i64 2] w fun e w' => e = .returned (.tuple #[.string ⟨#[1, 3, 2]⟩, .int .i64 0]) ∧ Below w.heap.size w w' := by
  have h := encode_ok [1] 2 w (by simp) (by omega) (by omega) (by simp)
  rw [show G.enc [1] 2 = [1, 3, 2] by decide +kernel] at h
  exact h
theorem dec_ex1 (w : World) : Calls Try.prog 41 #[.string ⟨#[1, 7, 2]⟩, .int .i64 2, .slice none 0 0] w fun e w' => e = .returned (.tuple #[.string ⟨#[1, 3, 2]⟩, .int .i64 1, .int .i64 0]) ∧ Below w.heap.size w w' := by
  have h := decode_any [1, 7, 2] 2 (.slice none 0 0) [] w (by simp) ⟨by simp, ⟨none, 0, 0, 0, rfl, by simp, fun i hi => by simp at hi⟩, fun i hi => by simp at hi⟩ (by simp)
  rw [show G.decode [1, 7, 2] 2 [] = ([1, 3, 2], 1, 0) by decide +kernel] at h
  exact h
theorem dec_ex2 (v : Value) (w : World) (hv : RdI w v [0]) : Calls Try.prog 41 #[.string ⟨#[9, 3, 2]⟩, .int .i64 2, v] w fun e w' => e = .returned (.tuple #[.string ⟨#[1, 3, 2]⟩, .int .i64 1, .int .i64 0]) ∧ Below w.heap.size w w' := by
  have h := decode_any [9, 3, 2] 2 v [0] w (by simp) hv (by simp)
  rw [show G.decode [9, 3, 2] 2 [0] = ([1, 3, 2], 1, 0) by decide +kernel] at h
  exact h
theorem val_ex (w : World) : Calls Try.prog 28 #[.string ⟨#[1, 3, 2]⟩, .int .i64 2] w fun e w' => e = .returned (.bool true) ∧ Below w.heap.size w w' := by
  have h := valid_any [1, 3, 2] 2 w (by simp)
  rw [show G.validB [1, 3, 2] 2 = true by decide +kernel] at h
  exact h

end Go.Proofs.Ytkebnmmcogkldaa
/- Slices of ints and of uint16 that come in: opened. -/
namespace Go.Proofs.Ytkebnmmcogkldaa
open Go.ChangeShapes Go.WideShapes Go.ChangeAt Go.RowKit
set_option linter.unusedVariables false

/-- a slice of ints that came in -/
def CameI (w : World) (v : Value) (l : List Int) : Prop :=
  (l.length ≤ 17592186044416 → RdI w v l) ∧ l.length ≤ 9223372036854775807 ∧ ∃ a c, v = .slice a l.length c
theorem RdI.nil (w : World) : RdI w (.slice none 0 0) [] := ⟨by simp, ⟨none, 0, 0, 0, rfl, by simp, fun i hi => by simp at hi⟩, fun i hi => by simp at hi⟩

section
variable {H : Type} {enc : TypeId × Value → H} {w : World} {base b0 : Nat} {held : Bool}
set_option maxRecDepth 100000 in
theorem open_cints {v : Value} {d : DataW H} {ps : List MemPlace} {r : Reach}
    (hval : Value.okWide Try.prog w r b0 24 v) (hd : DataW.Trod enc Try.prog w base (fun _ => true) held 24 v d ps) : ∃ l : List Int, CameI w v l := by
  obtain ⟨a, len, cap, rfl⟩ := okWide_slice Try.underlying24 hval
  obtain ⟨fuel, hf⟩ := hd
  rcases open_ints Try.underlying24 Try.underlying3 (by kernel_rfl) hf with ⟨hcs, _⟩ | ⟨x, l, c, zs, hcs, _, hl, hm, hz, _, hcell, hwz⟩
  · simp [Value.cells] at hcs
    obtain ⟨rfl, rfl, rfl⟩ := hcs
    exact ⟨[], fun _ => RdI.nil w, by simp, none, 0, rfl⟩
  · simp [Value.cells] at hcs
    obtain ⟨rfl, rfl, rfl⟩ := hcs
    have hz' : zs.length = cap := by simpa using hz
    have hL : (zs.take len).length = len := by simp; omega
    unfold maxLen at hm
    have hr : ∀ i, i < len → ixI (zs.take len) i = zs.getD i 0 := fun i hi => by unfold ixI; simp [hi]
    refine ⟨zs.take len, fun hb => ?_, by rw [hL]; omega, some x, cap, by rw [hL]⟩
    refine ⟨hb, ?_, fun i hi => ?_⟩
    · rw [hL]
      by_cases h0 : len = 0
      · subst h0
        exact ⟨_, cap, 0, 0, rfl, hl, fun i hi => by omega⟩
      · obtain ⟨b, off, rfl, hcc⟩ := ints_at hcell (by omega)
        refine ⟨_, cap, b, off, rfl, hl, fun i hi => ⟨rfl, ?_⟩⟩
        rw [hcc i (by omega), hr i hi]
    · rw [hL] at hi
      have hi' : i < zs.length := by omega
      have hw := hwz (zs[i]) (List.getElem_mem hi')
      rw [hr i hi]
      have e1 : zs.getD i 0 = zs[i] := by simp [hi']
      rw [e1]
      simpa [Lit.wf, IntKind.min, IntKind.max, IntKind.signed, IntKind.bits] using hw
end

theorem Try.sizeU16 : (Try.prog.info? 31).map (·.size) = some 1 := by kernel_rfl
/-- a slice of uint16 that is only read -/
def RdU (w : World) (v : Value) (l : List Int) : Prop :=
  l.length ≤ 17592186044416 ∧ (∃ a cap b off, v = .slice a l.length cap ∧ l.length ≤ cap ∧ ∀ i, i < l.length → a = some ⟨b, off, none⟩ ∧ w.cell? ⟨b, off + i, none⟩ = some (.int .u16 (ixI l i))) ∧ ∀ i, i < l.length → 0 ≤ ixI l i ∧ ixI l i ≤ 65535
def CameU (w : World) (v : Value) (l : List Int) : Prop :=
  (l.length ≤ 17592186044416 → RdU w v l) ∧ l.length ≤ 9223372036854775807 ∧ ∃ a c, v = .slice a l.length c
theorem RdU.nil (w : World) : RdU w (.slice none 0 0) [] := ⟨by simp, ⟨none, 0, 0, 0, rfl, by simp, fun i hi => by simp at hi⟩, fun i hi => by simp at hi⟩
section
variable {H : Type} {enc : TypeId × Value → H} {w : World} {base b0 : Nat} {held : Bool}
set_option maxRecDepth 100000 in
theorem open_cu16 {v : Value} {d : DataW H} {ps : List MemPlace} {r : Reach}
    (hval : Value.okWide Try.prog w r b0 32 v) (hd : DataW.Trod enc Try.prog w base (fun _ => true) held 32 v d ps) : ∃ l : List Int, CameU w v l := by
  obtain ⟨a, len, cap, rfl⟩ := okWide_slice Try.underlying32 hval
  obtain ⟨fuel, hf⟩ := hd
  rcases open_ints Try.underlying32 Try.underlying31 (by kernel_rfl) hf with ⟨hcs, _⟩ | ⟨x, l, c, zs, hcs, _, hl, hm, hz, _, hcell, hwz⟩
  · simp [Value.cells] at hcs
    obtain ⟨rfl, rfl, rfl⟩ := hcs
    exact ⟨[], fun _ => RdU.nil w, by simp, none, 0, rfl⟩
  · simp [Value.cells] at hcs
    obtain ⟨rfl, rfl, rfl⟩ := hcs
    have hz' : zs.length = cap := by simpa using hz
    have hL : (zs.take len).length = len := by simp; omega
    unfold maxLen at hm
    have hr : ∀ i, i < len → ixI (zs.take len) i = zs.getD i 0 := fun i hi => by unfold ixI; simp [hi]
    refine ⟨zs.take len, fun hb => ?_, by rw [hL]; omega, some x, cap, by rw [hL]⟩
    refine ⟨hb, ?_, fun i hi => ?_⟩
    · rw [hL]
      by_cases h0 : len = 0
      · subst h0
        exact ⟨_, cap, 0, 0, rfl, hl, fun i hi => by omega⟩
      · obtain ⟨b, off, rfl, hcc⟩ := ints_at hcell (by omega)
        refine ⟨_, cap, b, off, rfl, hl, fun i hi => ⟨rfl, ?_⟩⟩
        rw [hcc i (by omega), hr i hi]
    · rw [hL] at hi
      have hi' : i < zs.length := by omega
      have hw := hwz (zs[i]) (List.getElem_mem hi')
      rw [hr i hi]
      have e1 : zs.getD i 0 = zs[i] := by simp [hi']
      rw [e1]
      simpa [Lit.wf, IntKind.min, IntKind.max, IntKind.signed, IntKind.bits] using hw
end
end Go.Proofs.Ytkebnmmcogkldaa
/- Walks of search, Fill, Decode, Few of the reference of chapter 4, and of the law ReedsolomonDecodes. -/
namespace Go.Proofs.Ytkebnmmcogkldaa
open Go.RowKit
set_option linter.unusedVariables false

def SearchOut (p : List UInt8) (n : Nat) (l : List Int) (fr : Nat) (k : Nat) (w : World) (e : Ending) (w' : World) : Prop :=
  ((∃ c, e = .returned (.tuple #[.string (str c), .bool true]) ∧ G.Found p c n l k fr) ∨ (e = .returned (.tuple #[.string (str []), .bool false]) ∧ ∀ c, ¬ G.Found p c n l k fr)) ∧ Below w.heap.size w w'

set_option maxRecDepth 100000 in
set_option maxHeartbeats 4000000 in
theorem search_any (p : List UInt8) (n : Nat) (h : G.shapedB p n = true) : ∀ (k : Nat) (ve : Value) (l : List Int) (fr : Nat) (w : World), RdI w ve l → G.posB p.length l = true → l.length + k ≤ n → fr ≤ p.length →
    Calls Try.prog 68 #[.string (str p), .int .i64 n, ve, .int .i64 fr, .int .i64 k] w (SearchOut p n l fr k w)
  | 0, ve, l, fr, w, hv, hp, hl, hfr => by
    obtain ⟨_, ⟨va, vc, b, off, rfl, hcap, hcell⟩, hrng⟩ := id hv
    clear hcell hrng
    have HP := Lib.hid hp; clear hp
    have HSh := Lib.hid h; clear h
    go_enter Try.func68, Try.ntmps68
    go_wp2_with fail
    refine (solve_any p n _ l _ HSh.out hv HP.out (by omega)).mono ?_
    rintro e w1 ⟨⟨c, rfl, hc⟩ | ⟨rfl, hc⟩, hb⟩
    · have HC := Lib.hid (G.Found.zero (fr := fr) |>.2 hc); clear hc
      go_wp2_with fail
      go_ret2
      exact ⟨.inl ⟨c, rfl, HC.out⟩, hb⟩
    · have HC : Hid (∀ c, ¬ G.Found p c n l 0 fr) := Lib.hid (fun c hf => hc c (G.Found.zero.1 hf)); clear hc
      go_wp2_with fail
      go_ret2
      exact ⟨.inr ⟨rfl, HC.out⟩, hb⟩
  | k + 1, ve, l, fr, w, hv, hp, hl, hfr => by
    obtain ⟨h1, h2, h3, h4, h5⟩ := (G.shapedB_iff p n).1 h
    have hs := str_size p
    obtain ⟨_, ⟨va, vc, b, off, rfl, hcap, hcell⟩, hrng⟩ := id hv
    clear hcell hrng
    have HP := Lib.hid hp; clear hp
    have IH := Lib.hid (search_any p n h k)
    have HSh := Lib.hid h; clear h
    obtain ⟨N, hN⟩ : ∃ N, N = p.length := ⟨_, rfl⟩
    rw [← hN] at hs h1 h2 h5 hfr
    have HN := Lib.hid hN; clear hN
    have hk0 : (((k : Int) + 1) == 0) = false := by rw [beq_eq_false_iff_ne]; omega
    have hk1 : (k : Int) + 1 - 1 = k := by omega
    go_enter Try.func68, Try.ntmps68
    go_wp2_with fail
    go_loopw [12, 13, 14] (fun vi _ _ wr => ∃ i : Nat, fr ≤ i ∧ i ≤ N ∧ vi = .int .i64 i ∧ Hid (∀ j, fr ≤ j → j < i → (j : Int) ∉ l → ∀ c, ¬ G.Found p c n (G.mg l j) k (j + 1)) ∧ Below w.heap.size w wr) (fun vi _ _ _ => N - (intOf vi).toNat)
    case atStart => exact ⟨fr, by omega, hfr, rfl, Lib.hid (fun j h8 h9 => by omega), Below.refl _ _⟩
    case round =>
      obtain ⟨i, hfi, hiN, rfl, HI, hb⟩ := hrel
      by_cases hlt : i < N
      · have hv' := hv.keep hb
        have hbs := hb.size
        go_wp2_with fail
        refine (rcontains_any _ l _ _ hv').mono ?_
        rintro e w' ⟨rfl, rfl⟩
        cases hct : G.cont l (i : Int) with
        | true =>
          have Hct : Hid ((i : Int) ∈ l) := Lib.hid ((G.cont_iff _ _).1 hct); clear hct
          go_wp2_with fail
          refine ⟨?_, ?measure⟩
          (repeat apply Exists.intro)
          refine ⟨?rel, rfl⟩
          case rel =>
            refine ⟨i + 1, by omega, by omega, by go_num, Lib.hid (fun j h8 h9 h10 => ?_), hb⟩
            by_cases e : j = i
            · exact absurd (by rw [e]; exact Hct.out) h10
            · exact HI.out j h8 (by omega) h10
          case measure => simp [intOf]; omega
        | false =>
          have hni : (i : Int) ∉ l := fun h8 => by rw [(G.cont_iff _ _).2 h8] at hct; cases hct
          clear hct
          have HMp : Hid (G.posB p.length (G.mg l i) = true) := Lib.hid (G.mg_pos HP.out hni (by omega) (by rw [← HN.out]; omega))
          have hml := G.mg_length l i
          have HNi := Lib.hid hni; clear hni
          go_wp2_with fail
          refine (merged_any _ l (i : Int) _ hv' (by omega) (by omega) (by omega)).mono ?_
          rintro e w2 ⟨v2, rfl, hv2, hb2⟩
          have hB2 := hb.trans (hb2.mono hbs)
          clear hv' hb hb2
          obtain ⟨_, ⟨a2, c2, _, _, rfl, _, _⟩, _⟩ := id hv2
          rw [hml] at hv2 ⊢
          have HMl := Lib.hid hml; clear hml
          have hc2 := IH.out _ (G.mg l i) (i + 1) w2 hv2 HMp.out (by rw [HMl.out]; omega) (by rw [← HN.out]; omega)
          have HC2 := Lib.hid hc2; clear hc2
          go_wp2_with fail
          refine (show Calls Try.prog 68 _ w2 _ from HC2.out).mono ?_
          rintro e w3 ⟨⟨c, rfl, hc⟩ | ⟨rfl, hc⟩, hb3⟩
          · have HCf : Hid (G.Found p c n l (k + 1) fr) := Lib.hid (G.Found.step hfi (by rw [← HN.out]; exact hlt) HNi.out hc)
            clear hc
            have hB3 := hB2.trans (hb3.mono hB2.size)
            go_wp2_with fail
            go_ret2
            exact ⟨.inl ⟨c, rfl, HCf.out⟩, hB3⟩
          · have HCn := Lib.hid hc; clear hc
            have hB3 := hB2.trans (hb3.mono hB2.size)
            go_wp2_with fail
            refine ⟨?_, ?measure⟩
            (repeat apply Exists.intro)
            refine ⟨?rel, rfl⟩
            case rel =>
              refine ⟨i + 1, by omega, by omega, by go_num, Lib.hid (fun j h8 h9 h10 => ?_), hB3⟩
              by_cases e : j = i
              · rw [e]; exact HCn.out
              · exact HI.out j h8 (by omega) h10
            case measure => simp [intOf]; omega
      · obtain rfl : i = N := by omega
        have HNo : Hid (∀ c, ¬ G.Found p c n l (k + 1) fr) := Lib.hid (fun c hf => by
          obtain ⟨j, g1, g2, g3, g4⟩ := hf.split
          exact HI.out j g1 (by rw [HN.out]; exact g2) g3 c g4)
        go_wp2_with fail
        go_ret2
        exact ⟨.inr ⟨rfl, HNo.out⟩, hb⟩

end Go.Proofs.Ytkebnmmcogkldaa
/- Walks of Few and of Decode of the reference of chapter 4. -/
namespace Go.Proofs.Ytkebnmmcogkldaa
open Go.RowKit
set_option linter.unusedVariables false

theorem allN_swap (a b : List UInt8) : ∀ k, G.allN a b k = G.allN b a k
  | 0 => rfl
  | k + 1 => by
    rw [G.allN, G.allN, allN_swap a b k]
    congr 1
    by_cases h : G.ix a k = G.ix b k
    · rw [if_pos h, if_pos h.symm]
    · rw [if_neg h, if_neg (fun e => h e.symm)]

def FewOut (m : Nat) (w : World) (e : Ending) (w' : World) : Prop := ∃ b, e = .returned (.bool b) ∧ (b = true → m ≤ 20) ∧ w = w'
set_option maxRecDepth 100000 in
set_option maxHeartbeats 4000000 in
theorem rdecode_any (p : List UInt8) (n : Int) (ve : Value) (l : List Int) (w : World) (hp : p.length ≤ 9223372036854775807) (hv : RdI w ve l) :
    Calls Try.prog 44 #[.string (str p), .int .i64 n, ve] w fun e w' => e = .returned (.tuple #[.string (str (G.decode p n l).1), .int .i64 (G.decode p n l).2.1, .int .i64 (G.decode p n l).2.2]) ∧ Below w.heap.size w w' := by
  have hs := str_size p
  have hll := hv.1
  obtain ⟨_, ⟨va, vc, b, off, rfl, hcap, hcell⟩, hrng⟩ := id hv
  clear hcell hrng
  cases h : G.shapedB p n with
  | false =>
    have HF : Hid (G.decode p n l = ([], 0, 1)) := Lib.hid (by unfold G.decode; rw [if_pos h])
    have H := Lib.hid h; clear h
    go_enter Try.func44, Try.ntmps44
    go_wp2_with fail
    refine (fits_any p n _ hp).mono ?_
    rintro e w' ⟨rfl, rfl⟩
    rw [H.out]
    go_wp2_with fail
    go_ret3
    rw [HF.out]
    exact ⟨rfl, Below.refl _ _⟩
  | true =>
    obtain ⟨h1, h2, h3, h4, h5⟩ := (G.shapedB_iff p n).1 h
    obtain ⟨m, rfl⟩ : ∃ m : Nat, n = m := ⟨n.toNat, by omega⟩
    cases hq : G.posB p.length l with
    | false =>
      have HF : Hid (G.decode p m l = ([], 0, 1)) := Lib.hid (by unfold G.decode; rw [if_neg (by simp [h]), if_pos hq])
      have H := Lib.hid h; clear h
      have HQ := Lib.hid hq; clear hq
      go_enter Try.func44, Try.ntmps44
      go_wp2_with fail
      refine (fits_any p m _ hp).mono ?_
      rintro e w' ⟨rfl, rfl⟩
      rw [H.out]
      go_wp2_with fail
      refine (positions_any (str p) p.length _ l _ hs hp hv).mono ?_
      rintro e w1 ⟨rfl, hb1⟩
      rw [HQ.out]
      go_wp2_with fail
      go_ret3
      rw [HF.out]
      exact ⟨rfl, hb1⟩
    | true =>
      have HFn : Hid (∀ (c : List UInt8) (e : Nat), 2 * e + l.length ≤ m → G.Found p c m l e 0 → G.decode p m l = (c, (G.allN p c p.length : Int), 0)) := Lib.hid (fun c e he hc => G.decode_found hq he hc)
      have HF0 : Hid ((∀ e : Nat, 2 * e + l.length ≤ m → ∀ c, ¬ G.Found p c m l e 0) → G.decode p m l = ([], 0, 11)) := Lib.hid (fun hc => G.decode_none h hq hc)
      have H := Lib.hid h; clear h
      have HQ := Lib.hid hq; clear hq
      obtain ⟨D, hD⟩ : ∃ D, D = G.decode p m l := ⟨_, rfl⟩
      rw [← hD]
      have HD := Lib.hid hD; clear hD
      go_enter Try.func44, Try.ntmps44
      go_wp2_with fail
      refine (fits_any p m _ hp).mono ?_
      rintro e w' ⟨rfl, rfl⟩
      rw [H.out]
      go_wp2_with fail
      refine (positions_any (str p) p.length _ l _ hs hp hv).mono ?_
      rintro e w1 ⟨rfl, hb1⟩
      rw [HQ.out]
      go_wp2_with fail
      go_loopw [9, 10, 11] (fun vi _ _ wr => ∃ i : Nat, i ≤ 257 ∧ vi = .int .i64 i ∧ Hid (∀ j : Nat, j < i → ∀ c, ¬ G.Found p c m l j 0) ∧ Below w.heap.size w wr) (fun vi _ _ _ => 257 - (intOf vi).toNat)
      case atStart => exact ⟨0, by omega, rfl, Lib.hid (fun j h8 => by omega), hb1⟩
      case round =>
        clear hb1
        obtain ⟨i, hi, rfl, HI, hb⟩ := hrel
        by_cases hlt : 2 * i + l.length ≤ m
        · have hd : decide ((2 : Int) * (i : Int) + (l.length : Int) ≤ (m : Int)) = true := by rw [decide_eq_true_eq]; omega
          have hv' := hv.keep hb
          have hbs := hb.size
          have hc := search_any p m H.out i _ l 0 _ hv' HQ.out (by omega) (by omega)
          have HC := Lib.hid hc; clear hc
          go_wp2_with fail
          refine (show Calls Try.prog 68 _ _ _ from HC.out).mono ?_
          rintro e w3 ⟨⟨c, rfl, hf⟩ | ⟨rfl, hf⟩, hb3⟩
          · have hB3 := hb.trans (hb3.mono hbs)
            have hcl : c.length = p.length := by obtain ⟨E, _, _, _, g1, _, _⟩ := hf; exact g1
            have HE : Hid (D = (c, (G.allN c p p.length : Int), 0)) := Lib.hid (by rw [HD.out, HFn.out c i hlt hf, allN_swap p c])
            clear hf
            have hs3 := str_size c
            have hB3s := hB3.size
            go_wp2_with fail
            refine (differ_any c p _ hcl.symm (by omega)).mono ?_
            rintro e w4 ⟨rfl, hb4⟩
            have hB4 := hB3.trans (hb4.mono hB3s)
            go_wp2_with fail
            go_ret3
            rw [HE.out]
            exact ⟨rfl, hB4⟩
          · have hB3 := hb.trans (hb3.mono hbs)
            have HN := Lib.hid hf; clear hf
            go_wp2_with fail
            refine ⟨?rel, ?measure⟩
            case rel =>
              refine ⟨i + 1, by omega, by go_num, Lib.hid (fun j h8 => ?_), hB3⟩
              by_cases e : j = i
              · rw [e]; exact HN.out
              · exact HI.out j (by omega)
            case measure => simp [intOf]; omega
        · have hd : decide ((2 : Int) * (i : Int) + (l.length : Int) ≤ (m : Int)) = false := by rw [decide_eq_false_iff_not]; omega
          have HE : Hid (D = ([], 0, 11)) := Lib.hid (by rw [HD.out]; exact HF0.out (fun e he c => HI.out e (by omega) c))
          go_wp2_with fail
          go_ret3
          rw [HE.out]
          exact ⟨rfl, hb⟩
end Go.Proofs.Ytkebnmmcogkldaa
/- Chapter 9: Decode of the reference walked. -/
namespace Go.Proofs.Ytkebnmmcogkldaa.C9
open Go.RowKit W8
set_option linter.unusedVariables false

/-- the inner words -/
def inK (F : List (List UInt8)) (k : Nat) : List (List UInt8) := (List.range k).map (got F)
theorem inK_length (F : List (List UInt8)) (k : Nat) : (inK F k).length = k := by simp [inK]
theorem inK_succ (F : List (List UInt8)) (k : Nat) : inK F (k + 1) = inK F k ++ [got F k] := by simp [inK, List.range_succ]
theorem inK_at (F : List (List UInt8)) {n k : Nat} (h : k < n) : atD [] (inK F n) k = got F k := by simp [atD, inK, h]
theorem lo24_up : lo24 (upI 24) = upI 24 := by
  unfold lo24
  rw [List.filter_eq_self]
  intro x hx
  simp only [upI, List.mem_map, List.mem_range] at hx
  obtain ⟨i, h1, rfl⟩ := hx
  show decide ((i : Int) < 24) = true
  exact decide_eq_true (by omega)
set_option maxRecDepth 100000 in
set_option maxHeartbeats 1000000 in
theorem rdecodeC_len (va : Value) (F : List (List UInt8)) (w : World) (hF : RdStr w va F) (hl : F.length ≤ 9223372036854775807) (h : F.length < 109 ∨ 892 < F.length) :
    Calls Try.prog 27 #[va] w (DecP ([], [], 1) w) := by
  obtain ⟨a, c, rfl, _⟩ := RdD.form hF
  clear hF
  generalize F.length = n at *
  rcases h with h | h
  · have h1 : (n : Int) < 109 := by omega
    go_enter Try.func27, Try.ntmps27
    go_wp2_with fail
    go_ret3
    exact DecP.bad rfl (Below.refl _ _)
  · have h1 : ¬ (n : Int) < 109 := by omega
    have h2 : (892 : Int) < (n : Int) := by omega
    go_enter Try.func27, Try.ntmps27
    go_wp2_with fail
    go_ret3
    exact DecP.bad rfl (Below.refl _ _)
set_option maxRecDepth 100000 in
set_option maxHeartbeats 16000000 in
theorem rdecodeC_ok (va : Value) (F : List (List UInt8)) (n : Nat) (w : World) (hF : RdStr w va F) (hn : F.length = n + 108) (h1 : 1 ≤ n) (h2 : n ≤ 784) :
    Calls Try.prog 27 #[va] w (DecP (if okF F = false then ([], [], 1) else (datD F n, lstD F n, 0)) w) := by
  obtain ⟨a, c, rfl, _⟩ := RdD.form hF
  obtain ⟨b0, off, hcell⟩ := RdD.at hF
  have HC := Lib.hid hcell
  have HNO : Hid (∀ k, k < F.length → ¬ ((frA F k).length = 0 ∨ (frA F k).length = 32) → (if okF F = false then (([] : List UInt8), ([] : List Int), (1 : Int)) else (datD F n, lstD F n, 0)) = ([], [], 1)) := Lib.hid fun k hk h => by rw [okK_false hk h, if_pos rfl]
  have HYES : Hid (okK F F.length → (if okF F = false then (([] : List UInt8), ([] : List Int), (1 : Int)) else (datD F n, lstD F n, 0)) = (datD F n, lstD F n, 0)) := Lib.hid fun h => by rw [okK_true h, if_neg (by decide)]
  generalize (if okF F = false then (([] : List UInt8), ([] : List Int), (1 : Int)) else (datD F n, lstD F n, 0)) = RES at *
  obtain ⟨N, hN⟩ : ∃ N, N = F.length := ⟨_, rfl⟩
  rw [← hN] at HNO HYES HC hn ⊢
  have HN := Lib.hid hn
  have hN1 : n + 108 ≤ N := by omega
  have hN2 : N ≤ n + 108 := by omega
  have q1 : ¬ (N : Int) < 109 := by omega
  have q2 : ¬ (892 : Int) < (N : Int) := by omega
  have HQ : Hid ((N : Int) - 108 = (n : Int)) := Lib.hid (by omega)
  clear hF hcell hn hN
  go_enter Try.func27, Try.ntmps27
  go_wp2_with fail
  have ho0 : (w.alloc (.cells #[] 9)).ownsRow w.heap.size 9 1 (.slice (some ⟨w.heap.size, 0, none⟩) 0 0) 0 (flD ssD (inK F 0)) := World.ownsRow_lit w #[] 0 (Nat.le_refl _) (by simp) (by simp)
  have hb0 : Below w.heap.size w (w.alloc (.cells #[] 9)) := (Below.refl _ _).alloc (Nat.le_refl _) _
  go_loopw [5, 6] (fun vo vg wr => ∃ g : Nat, g ≤ N ∧ vg = .int .i64 g ∧ Hid (okK F g) ∧ wr.ownsRow w.heap.size 9 1 vo g (flD ssD (inK F g)) ∧ Below w.heap.size w wr) (fun _ vg _ => N - (intOf vg).toNat)
  case atStart => exact ⟨0, by omega, rfl, Lib.hid fun m hm => by omega, ho0, hb0⟩
  case round =>
    clear ho0 hb0
    obtain ⟨g, hg, rfl, HO, ho, hb⟩ := hrel
    obtain ⟨wo, rfl⟩ : ∃ wo : World, wo = wr := ⟨_, rfl⟩
    have hbs := hb.size
    by_cases hlt : g < N
    · have hlt' : (g : Int) < (N : Int) := by omega
      obtain ⟨ha, hrange⟩ := HC.out g hlt
      change w.rangeAt b0 (off + g * 1) (ssD (frA F g)) at hrange
      have hcl : wo.cell? ⟨b0, off + g * 1, none⟩ = some (.string (str (frA F g))) := (hb.cell (p := ⟨b0, off + g * 1, none⟩) (World.block_lt_of_cell? w _ (hrange 0 _ rfl))).trans (hrange 0 _ rfl)
      have hix := fun w' => run_idxS Try.underlying36 (by kernel_rfl : (Try.prog.info? 9).map (·.size) = some 1) (cap := c) ha hlt (g : Int) rfl w'
      simp only [Nat.mul_one] at hix hcl
      have HS : Hid ((frA F g).length = 0 ∨ (frA F g).length = 32 → okK F (g + 1)) := Lib.hid fun h m hm => by
        by_cases e : m < g
        · exact HO.out m e
        · have : m = g := by omega
          rw [this]; exact h
      have HNOk := Lib.hid (HNO.out g hlt)
      have HR0 : Hid (∀ W, RdI W (.slice none 0 0) []) := Lib.hid fun W => ⟨by simp, ⟨none, 0, 0, 0, rfl, by simp, fun i hi => by simp at hi⟩, fun i hi => by simp at hi⟩
      have HIN := Lib.hid (inK_succ F g)
      have hil := inK_length F g
      obtain ⟨L, hL⟩ : ∃ L, L = inK F g := ⟨_, rfl⟩
      rw [← hL] at ho HIN hil
      have hsy := str_size (frA F g)
      obtain ⟨nx, hnx⟩ : ∃ nx, nx = (frA F g).length := ⟨_, rfl⟩
      rw [← hnx] at hsy HS HNOk
      have HNX := Lib.hid hnx
      have Ha := Lib.hid ha
      have HOO := Lib.hid ho
      clear hnx ha hrange ho hL
      by_cases hbad : nx = 0 ∨ nx = 32
      · have HS2 := Lib.hid (HS.out hbad)
        have HD := Lib.hid (fun W => rdecode_any (frA F g) 4 (.slice none 0 0) [] W (by have := HNX.out; omega) (HR0.out W))
        have HGE : Hid ((G.decode (frA F g) 4 []).1 = got F g) := Lib.hid rfl
        have HGB : Hid ((G.decode (frA F g) 4 []).2.2 ≠ 0 → got F g = []) := Lib.hid fun h => (G.decode_bad2 _ _ _ h).1
        generalize G.decode (frA F g) 4 [] = D at *
        obtain ⟨D1, D2, D3⟩ := D
        try simp only at HGE HGB
        have hD1 := HGE.out
        subst hD1
        generalize str (frA F g) = s at *
        have hg1 : ((nx : Int) != 0) = true ∧ ((nx : Int) != 32) = false ∨ ((nx : Int) != 0) = false := by
          rcases hbad with h | h
          · right; rw [bne_eq_false_iff_eq]; omega
          · left; exact ⟨by rw [bne_iff_ne]; omega, by rw [bne_eq_false_iff_eq]; omega⟩
        obtain ⟨y, hy⟩ : ∃ y, y = got F g := ⟨_, rfl⟩
        rw [← hy] at HIN HGB HD
        have HY := Lib.hid hy
        clear hbad HS HNOk HGE hy
        by_cases hcode : D3 = 0
        · have hc2 : (D3 != 0) = false := by rw [bne_eq_false_iff_eq]; exact hcode
          clear hcode HGB
          rcases hg1 with ⟨g1, g2⟩ | g1
          all_goals
            go_wp2_with fail
            refine (HD.out _).mono ?_
            rintro e w4 ⟨rfl, hb4⟩
            have hA := hb4
            clear hb4
            have hA2 := hA.alloc hA.size (.cells #[.string (str y)] 9)
            have hoa := ownD_keep HOO.out hA2
            have hba := hb.trans (hA2.mono hbs)
            have hbas := hba.size
            clear hA hA2
            go_wp2_with (at_builtin; refine wpList_ap1 rfl _ _ rfl Try.underlying36 Try.infoStr9 rfl hoa rfl (g := w4.heap.size) (y := .string (str y)) rfl (by simp) rfl (by unfold maxLen; omega) (by omega) hbas ?_; intro v8 w8 hown8 hgr8 hno8)
            have hb8 := hba.grown hgr8 hbas (ownD_block hoa)
            clear hoa hba hgr8
            go_roundw
            case rel => exact ⟨g + 1, by omega, by go_num, HS2, by rw [HIN.out, ss_append]; exact hown8, hb8⟩
            case measure => simp [intOf]; omega
        · have hc2 : (D3 != 0) = true := by rw [bne_iff_ne]; exact hcode
          have hy0 := HGB.out hcode
          subst hy0
          clear hcode HGB
          rcases hg1 with ⟨g1, g2⟩ | g1
          all_goals
            go_wp2_with fail
            refine (HD.out _).mono ?_
            rintro e w4 ⟨rfl, hb4⟩
            have hA := hb4
            clear hb4
            have hA2 := hA.alloc hA.size (.cells #[.string ⟨#[]⟩] 9)
            have hoa := ownD_keep HOO.out hA2
            have hba := hb.trans (hA2.mono hbs)
            have hbas := hba.size
            clear hA hA2
            go_wp2_with (at_builtin; refine wpList_ap1 rfl _ _ rfl Try.underlying36 Try.infoStr9 rfl hoa rfl (g := w4.heap.size) (y := .string ⟨#[]⟩) rfl (by simp) rfl (by unfold maxLen; omega) (by omega) hbas ?_; intro v8 w8 hown8 hgr8 hno8)
            have hb8 := hba.grown hgr8 hbas (ownD_block hoa)
            clear hoa hba hgr8
            go_roundw
            case rel => exact ⟨g + 1, by omega, by go_num, HS2, by rw [HIN.out, ss_append]; exact hown8, hb8⟩
            case measure => simp [intOf]; omega
      · have hR := HNOk.out hbad
        subst hR
        have g1 : ((nx : Int) != 0) = true := by rw [bne_iff_ne]; omega
        have g2 : ((nx : Int) != 32) = true := by rw [bne_iff_ne]; omega
        generalize str (frA F g) = s at *
        clear HNOk hbad HS HIN
        go_wp2_with fail
        go_ret3
        exact DecP.bad rfl hb
    · obtain rfl : g = N := by omega
      have hR := HYES.out HO.out
      subst hR
      have HOK := Lib.hid (fun (h : Nat) (hh : h < g) => got_ok HO.out hh)
      have ho' : wo.ownsRow w.heap.size 9 1 u5 (inK F g).length (flD ssD (inK F g)) := by rw [inK_length]; exact ho
      have hrd := RdD.ofOwn (d := []) ssD_len ho'
      obtain ⟨av, cv, rfl⟩ := ownD_form ho
      rw [inK_length] at ho'
      have hrd2 : RdD [] ssD 1 wo (.slice av g cv) (inK F g) := RdD.ofOwn (d := []) ssD_len (by rw [inK_length]; exact ho)
      obtain ⟨bv, ov, hcv⟩ := RdD.at hrd2
      have HCV := Lib.hid (fun (h : Nat) (hh : h < g) => (show av = some ⟨bv, ov, none⟩ ∧ wo.cell? ⟨bv, ov + h, none⟩ = some (.string (str (got F h))) from by
        obtain ⟨e1, e2⟩ := hcv h (by rw [inK_length]; exact hh)
        rw [inK_at F hh] at e2
        have := e2 0 _ rfl
        exact ⟨e1, by simpa using this⟩))
      clear hlt hg HC HNO HYES HO hcv hrd hrd2 ho ho' q1 q2
      have hdd : ((wo.alloc (.cells #[] 5)).alloc (.cells #[] 3)).ownsRow wo.heap.size 5 1 (.slice (some ⟨wo.heap.size, 0, none⟩) 0 0) (24 * 0) (bs (datD F 0)) := ownD_keep (World.ownsRow_lit wo #[] 0 (Nat.le_refl _) (by simp) (by simp)) ((Below.refl _ _).alloc (Nat.le_refl _) _)
      have hll : ((wo.alloc (.cells #[] 5)).alloc (.cells #[] 3)).ownsRow wo.heap.size 3 1 (.slice (some ⟨wo.heap.size + 1, 0, none⟩) 0 0) (lstD F 0).length (is (lstD F 0)) := by
        have := World.ownsRow_lit (wo.alloc (.cells #[] 5)) (base := wo.heap.size) (e := 3) (size := 1) #[] 0 (by simp) (by simp) (by simp)
        rw [World.size_alloc] at this
        exact this
      have hbb : Below wo.heap.size wo ((wo.alloc (.cells #[] 5)).alloc (.cells #[] 3)) := ((Below.refl _ _).alloc (Nat.le_refl _) _).alloc (by simp) _
      go_wp2_with fail
      go_loopw [10, 11, 12] (fun vd vo vf wr => ∃ f : Nat, f ≤ n ∧ vf = .int .i64 f ∧ wr.ownsRow wo.heap.size 5 1 vd (24 * f) (bs (datD F f)) ∧ wr.ownsRow wo.heap.size 3 1 vo (lstD F f).length (is (lstD F f)) ∧ Below wo.heap.size wo wr) (fun _ _ vf _ => n - (intOf vf).toNat)
      case atStart => exact ⟨0, by omega, rfl, hdd, hll, hbb⟩
      case round =>
        clear hdd hll hbb
        obtain ⟨f, hf, rfl, hd, ho, hbI⟩ := hrel
        obtain ⟨wq, rfl⟩ : ∃ wq : World, wq = wr := ⟨_, rfl⟩
        have hsz := hbI.size
        have hLl := lstD_length F f
        by_cases hlt : f < n
        · have hlt' : (f : Int) < (g : Int) - 108 := by omega
          have HDS : Hid (datD F (f + 1) = datD F f ++ (outD F f).1) := Lib.hid rfl
          have HLS : Hid (lstD F (f + 1) = lstD F f ++ at24 f (outD F f).2) := Lib.hid rfl
          obtain ⟨L, hL⟩ : ∃ L, L = lstD F f := ⟨_, rfl⟩
          obtain ⟨Dt, hDt⟩ : ∃ Dt, Dt = datD F f := ⟨_, rfl⟩
          rw [← hL] at ho HLS hLl
          rw [← hDt] at hd HDS
          clear hL hDt
          obtain ⟨ad, cd, rfl⟩ := ownD_form hd
          obtain ⟨ao, co, rfl⟩ := ownD_form ho
          have HLB := Lib.hid (show ∀ q, (Value.slice ao L.length co).ownBlock = some q → q < wq.heap.size from fun q hq => (ho.lt q hq).2)
          have HD := Lib.hid hd
          have HO := Lib.hid ho
          have hww : ((wq.alloc (.cells #[] 5)).alloc (.cells #[] 3)).ownsRow wq.heap.size 5 1 (.slice (some ⟨wq.heap.size, 0, none⟩) 0 0) 0 (bs (wdD F f 0)) := ownD_keep (World.ownsRow_lit wq #[] 0 (Nat.le_refl _) (by simp) (by simp)) ((Below.refl _ _).alloc (Nat.le_refl _) _)
          have hee : ((wq.alloc (.cells #[] 5)).alloc (.cells #[] 3)).ownsRow wq.heap.size 3 1 (.slice (some ⟨wq.heap.size + 1, 0, none⟩) 0 0) (erD F f 0).length (is (erD F f 0)) := by
            have := World.ownsRow_lit (wq.alloc (.cells #[] 5)) (base := wq.heap.size) (e := 3) (size := 1) #[] 0 (by simp) (by simp) (by simp)
            rw [World.size_alloc] at this
            exact this
          have hbq : Below wq.heap.size wq ((wq.alloc (.cells #[] 5)).alloc (.cells #[] 3)) := ((Below.refl _ _).alloc (Nat.le_refl _) _).alloc (by simp) _
          clear hd ho
          go_wp2_with fail
          go_loopw [13, 14, 15] (fun vw ve vi wr => ∃ i : Nat, i ≤ 28 ∧ vi = .int .i64 i ∧ wr.ownsRow wq.heap.size 5 1 vw i (bs (wdD F f i)) ∧ wr.ownsRow wq.heap.size 3 1 ve (erD F f i).length (is (erD F f i)) ∧ Below wq.heap.size wq wr) (fun _ _ vi _ => 28 - (intOf vi).toNat)
          case atStart => exact ⟨0, by omega, rfl, hww, hee, hbq⟩
          case round =>
            clear hww hee hbq
            obtain ⟨i, hi, rfl, hww, hee, hbq⟩ := hrel
            have hqs := hbq.size
            by_cases hit : i < 28
            · have hit' : (i : Int) < 28 := by omega
              obtain ⟨ha, hcx⟩ := HCV.out (f + 4 * i) (by omega)
              have hcl : wr.cell? ⟨bv, ov + (f + 4 * i), none⟩ = some (.string (str (got F (f + 4 * i)))) := ((hbI.trans (hbq.mono hsz)).cell (p := ⟨bv, ov + (f + 4 * i), none⟩) (World.block_lt_of_cell? wo _ hcx)).trans hcx
              have hix := fun w' => run_idxS Try.underlying36 (by kernel_rfl : (Try.prog.info? 9).map (·.size) = some 1) (cap := cv) ha (show f + 4 * i < g from by omega) ((f : Int) + 4 * (i : Int)) (by omega) w'
              simp only [Nat.mul_one] at hix
              have HES := Lib.hid (erD_succ F f i)
              have HWS := Lib.hid (wdD_succ F f i)
              have hel := erD_length F f i
              have hok := HOK.out (f + 4 * i) (by omega)
              generalize got F (f + 4 * i) = y at *
              generalize erD F f i = E at *
              generalize wdD F f i = Wd at *
              obtain ⟨aw, cw, rfl⟩ := ownD_form hww
              obtain ⟨ae, ce, rfl⟩ := ownD_form hee
              have Ha := Lib.hid ha
              clear ha hcx
              rcases hok with hy | hy
              · subst hy
                have hcl' : wr.cell? ⟨bv, ov + (f + 4 * i), none⟩ = some (.string ⟨#[]⟩) := hcl
                have HE2 : Hid (erD F f (i + 1) = E ++ [(i : Int)]) := Lib.hid (HES.out.trans (if_pos (by rfl)))
                have HW2 : Hid (wdD F f (i + 1) = Wd ++ [0]) := HWS
                clear hcl HES HWS
                have hA1 := (Below.refl wr.heap.size wr).alloc (Nat.le_refl _) (.cells #[.int .i64 i] 3)
                have hea := ownD_keep hee hA1
                have hwa := ownD_keep hww hA1
                have hba := hbq.trans (hA1.mono hqs)
                have hbas := hba.size
                clear hA1 hee hww hbq
                go_wp2_with (first | (at_builtin; refine wpList_ap1 rfl _ _ rfl Try.underlying24 Try.infoInt9 rfl hea rfl (g := wr.heap.size) (y := .int .i64 i) rfl (by simp) rfl (by unfold maxLen; omega) (by omega) hbas ?_; intro v7 w7 hown7 hgr7 hno7; have hb7 := hba.grown hgr7 hbas (ownD_block hea); have hw7 := own_off hwa hgr7 (fun q hq h => apart9 hwa hea (by decide) q hq h); obtain ⟨a7, c7, rfl⟩ := ownD_form hown7; clear hea hwa hba hbas hgr7 hno7; have hb7s := hb7.size; have hA7 := (Below.refl w7.heap.size w7).alloc (Nat.le_refl _) (.cells #[.int .u8 0] 5); have hwb := ownD_keep hw7 hA7; have heb := ownD_keep hown7 hA7; have hbb := hb7.trans (hA7.mono hb7s); have hbbs := hbb.size; clear hA7 hw7 hown7) | (at_builtin; refine wpList_ap1 rfl _ _ rfl Try.underlying59 Try.infoU9 rfl hwb rfl (g := w7.heap.size) (y := .int .u8 0) rfl (by simp) rfl (by unfold maxLen; omega) (by omega) hbbs ?_; intro v8 w8 hown8 hgr8 hno8))
                have hb8 := hbb.grown hgr8 hbbs (ownD_block hwb)
                have he8 := own_off heb hgr8 (fun q hq h => apart9 heb hwb (by decide) q hq h)
                clear hgr8 hno8 hwb heb
                go_roundw
                case rel => exact ⟨i + 1, by omega, by go_num, by rw [HW2.out, bs_append]; exact hown8, by rw [HE2.out, is_append, List.length_append]; exact he8, hb8⟩
                case measure => simp [intOf]; omega
              · have hne : y ≠ [] := by intro e; rw [e] at hy; simp at hy
                have HE2 : Hid (erD F f (i + 1) = E) := Lib.hid (HES.out.trans (if_neg (by cases y with | nil => exact absurd rfl hne | cons a b => simp)))
                obtain ⟨q, hq⟩ : ∃ q, q = G.ix y i := ⟨_, rfl⟩
                rw [← hq] at HWS
                have hstr : ∀ W, (Instr.index 9 (.string (str y)) (.int .i64 (i : Int))).run Try.prog W = .ok (B q) W := fun W => by rw [hq]; exact run_sidx Try.underlying9 y i (by omega) _ rfl W
                have hne1 : (str y).toList = y := str_toList y
                have hy2 : ¬ (str y).toList = [] := by rw [hne1]; exact hne
                have hy3 : (str y).toList.isEmpty = false := by rw [hne1]; cases y with | nil => exact absurd rfl hne | cons a b => rfl
                generalize str y = Y at *
                clear hne1 hne hq hy HES
                have hA1 := (Below.refl wr.heap.size wr).alloc (Nat.le_refl _) (.cells #[B q] 5)
                have hwa := ownD_keep hww hA1
                have hea := ownD_keep hee hA1
                have hba := hbq.trans (hA1.mono hqs)
                have hbas := hba.size
                clear hA1 hee hww hbq
                go_wp2_with (at_builtin; refine wpList_ap1 rfl _ _ rfl Try.underlying59 Try.infoU9 rfl hwa rfl (g := wr.heap.size) (y := B q) rfl (by simp) rfl (by unfold maxLen; omega) (by omega) hbas ?_; intro v8 w8 hown8 hgr8 hno8)
                have hb8 := hba.grown hgr8 hbas (ownD_block hwa)
                have he8 := own_off hea hgr8 (fun q hq h => apart9 hea hwa (by decide) q hq h)
                clear hgr8 hno8 hwa hea hba
                go_roundw
                case rel => exact ⟨i + 1, by omega, by go_num, by rw [HWS.out, bs_append]; exact hown8, by rw [HE2.out]; exact he8, hb8⟩
                case measure => simp [intOf]; omega
            · obtain rfl : i = 28 := by omega
              have hel := erD_length F f 28
              have hwl := wdD_length F f 28
              have hd6 := ownD_keep HD.out hbq
              have ho6 := ownD_keep HO.out hbq
              have hbI6 := hbI.trans (hbq.mono hsz)
              have HOB := Lib.hid (show (erD F f 28).length ≤ 4 → (G.decode (wdD F f 28) 4 (erD F f 28)).2.2 = 0 → outD F f = ((G.decode (wdD F f 28) 4 (erD F f 28)).1.take 24, []) from fun h1 h2 => by unfold outD; rw [if_pos h1, if_pos h2])
              have HOC := Lib.hid (show (erD F f 28).length ≤ 4 → ¬ (G.decode (wdD F f 28) 4 (erD F f 28)).2.2 = 0 → outD F f = (List.replicate 24 0, upI 24) from fun h1 h2 => by unfold outD; rw [if_pos h1, if_neg h2])
              have HOD := Lib.hid (show ¬ (erD F f 28).length ≤ 4 → outD F f = ((wdD F f 28).take 24, lo24 (erD F f 28)) from fun h1 => by unfold outD; rw [if_neg h1])
              have HDL := Lib.hid (show (G.decode (wdD F f 28) 4 (erD F f 28)).2.2 = 0 → (G.decode (wdD F f 28) 4 (erD F f 28)).1.length = 28 from fun h => by rw [(G.decode_sound _ _ _ h).choose_spec.2.1, wdD_length])
              have HEB0 := Lib.hid (fun (x : Int) (hx : x ∈ erD F f 28) => (show 0 ≤ x ∧ x < 28 from by
                obtain ⟨i, h1, _, rfl⟩ := (mem_erD F f 28 x).1 hx
                omega))
              obtain ⟨aw, cw, rfl⟩ := ownD_form hww
              obtain ⟨ae, ce, rfl⟩ := ownD_form hee
              have HDE := Lib.hid (fun W => rdecode_any (wdD F f 28) 4 (.slice ae (erD F f 28).length ce) (erD F f 28) W)
              generalize outD F f = OUT at *
              obtain ⟨out1, out2⟩ := OUT
              generalize G.decode (wdD F f 28) 4 (erD F f 28) = DD at *
              obtain ⟨D1, D2, D3⟩ := DD
              generalize erD F f 28 = E at *
              generalize wdD F f 28 = Wd at *
              simp only at HDS HLS HOB HOC HOD HDL HDE
              have hrdw := Rd.ofOwn' hww (by omega)
              by_cases h4 : E.length ≤ 4
              · have h4' : (E.length : Int) ≤ 4 := by omega
                have hrdI := rdI_own hee rfl (by omega) (fun x hx => by have := HEB0.out x hx; omega)
                have hconv := run_str (P := Try.prog) Try.underlying59 Try.underlying5 Try.underlying9 hrdw
                have HDE2 := Lib.hid (HDE.out wr (by omega) hrdI)
                have HD6 := Lib.hid hd6
                have HO6 := Lib.hid ho6
                have HI6 := Lib.hid hbI6
                clear hrdI hrdw hee hww HDE hbq hd6 ho6 hbI6
                go_wp2_with fail
                refine HDE2.out.mono ?_
                rintro e w7 ⟨rfl, hb7⟩
                have hd7 := ownD_keep HD6.out hb7
                have ho7 := ownD_keep HO6.out hb7
                have hI7 := HI6.out.trans (hb7.mono HI6.out.size)
                have hszD := str_size D1
                have hb7s := hb7.size
                clear hconv hb7 HD6 HO6 HI6 HDE2
                obtain ⟨wN, capN, hrunN, hrowN, hbN, hleN⟩ := run_bytes9 (P := Try.prog) w7 Try.underlying9 Try.underlying59 Try.underlying5 D1 D1.length rfl
                have hdN := ownD_keep hd7 hbN
                have hoN := ownD_keep ho7 hbN
                have hIN := hI7.trans (hbN.mono hI7.size)
                have hNs := hbN.size
                clear hd7 ho7 hI7 hbN
                by_cases hcode : D3 = 0
                · have hout := HOB.out h4 hcode
                  have hDl := HDL.out hcode
                  subst hcode
                  simp only [Prod.mk.injEq] at hout
                  obtain ⟨ho1, ho2⟩ := hout
                  subst ho1 ho2
                  have hown : wN.ownsRow wq.heap.size 3 1 (.slice none 0 0) 0 (is []) := ownsRow_nil _ _ _
                  have HEB := Lib.hid (show ∀ x ∈ ([] : List Int), 0 ≤ x ∧ x < 28 from by simp)
                  have hEl : 0 ≤ 28 := by omega
                  have HLS2 : Hid (lstD F (f + 1) = L ++ at24 f (lo24 [])) := HLS
                  have HDS2 : Hid (datD F (f + 1) = Dt ++ D1.take 24) := HDS
                  have hoff : Off (.slice ao L.length co) (fun k => (none : Option Addr) = some ⟨k, 0, none⟩) := fun q hq h => by cases h
                  have hrd := hrowN.rd (by omega)
                  rw [hDl] at hrd hrunN
                  have HWL := Lib.hid hDl
                  have hWg : 24 ≤ D1.length := by omega
                  clear hDl HOC HOB HOD HDL HLS HDS hleN hrowN
                  go_upto_region 29 with (fail)
                  clear hrunN
                  obtain ⟨vs, hrs, _, _, hcut⟩ := run_cut (P := Try.prog) Try.underlying59 (by kernel_rfl : (Try.prog.info? 5).map (·.size) = some 1) hrd 0 24 (by omega) hWg
                  have hcut2 := fun W => hcut rfl 24 W rfl
                  rw [List.drop_zero] at hrs
                  have hl24 : ((D1).take 24).length = 24 := by rw [List.length_take]; omega
                  have HL24 := Lib.hid hl24
                  have hsI := hIN.size
                  have HDX := Lib.hid hdN
                  have HOX := Lib.hid hoN
                  have HEX := Lib.hid hown
                  have HIX := Lib.hid hIN
                  clear hrd hdN hoN hown hIN hcut hl24 hWg
                  go_upto_region 36 with (at_builtin; refine wpList_appB rfl _ _ rfl Try.underlying59 Try.infoU9 HDX.out rfl hrs rfl (by have := HL24.out; omega) hsI ?_; intro v8 w8 hown8 hgr8 hno8)
                  have hI8 := HIX.out.grown hgr8 hsI (ownD_block HDX.out)
                  have ho8 := own_off HOX.out hgr8 (fun q hq h => apart9 HOX.out HDX.out (by decide) q hq h)
                  have he8 := own_off HEX.out hgr8 (fun q hq h => apart9 HEX.out HDX.out (by decide) q hq h)
                  rw [HL24.out, ← HDS2.out] at hown8
                  obtain ⟨a8, c8, rfl⟩ := ownD_form hown8
                  clear hgr8 hno8 HIX HOX HEX HDX hrs hcut2 hsI
                  obtain ⟨D8, hD8⟩ : ∃ D8, D8 = datD F (f + 1) := ⟨_, rfl⟩
                  rw [← hD8] at hown8
                  have HD8 := Lib.hid hD8
                  clear hD8
                  go_wp2_with fail
                  go_loopw [11, 20] (fun vo vk wr => ∃ k : Nat, k ≤ 0 ∧ vk = .int .i64 k ∧ wr.ownsRow wo.heap.size 3 1 vo (L ++ at24 f (lo24 ((([] : List Int)).take k))).length (is (L ++ at24 f (lo24 ((([] : List Int)).take k)))) ∧ Off vo (fun k => (none : Option Addr) = some ⟨k, 0, none⟩) ∧ wr.ownsRow wq.heap.size 3 1 (.slice none 0 0) 0 (is ([] : List Int)) ∧ wr.ownsRow wo.heap.size 5 1 (.slice a8 (24 * f + 24) c8) (24 * f + 24) (bs D8) ∧ Below wo.heap.size wo wr) (fun _ vk _ => 0 - (intOf vk).toNat)
                  case atStart => exact ⟨0, by omega, rfl, by rw [List.take_zero, show at24 f (lo24 []) = [] from rfl, List.append_nil]; exact ho8, hoff, he8, hown8, hI8⟩
                  case round =>
                    clear ho8 he8 hown8 hI8 hoff
                    obtain ⟨k, hk, rfl, hoo, hoff, hoe, hdx, hlo⟩ := hrel
                    have hwsz := hlo.size
                    by_cases hkt : k < 0
                    · exact absurd hkt (by omega)
                    · obtain rfl : k = 0 := by omega
                      rw [show (([] : List Int)).take 0 = ([] : List Int) from by simp] at hoo
                      rw [← HLS2.out] at hoo
                      obtain ⟨a9, c9, rfl⟩ := ownD_form hoo
                      have HDX := Lib.hid hdx
                      have HOO := Lib.hid hoo
                      have HLO := Lib.hid hlo
                      clear hoe hoff hoo hlo hdx
                      go_wp2_with fail
                      go_roundw
                      case rel => exact ⟨f + 1, by omega, by go_num, by rw [show 24 * (f + 1) = 24 * f + 24 from by omega, ← HD8.out]; exact HDX.out, HOO.out, HLO.out⟩
                      case measure => simp [intOf]; omega
                · have hout := HOC.out h4 hcode
                  have hcode' : (D3 != 0) = true := by rw [bne_iff_ne]; exact hcode
                  simp only [Prod.mk.injEq] at hout
                  obtain ⟨ho1, ho2⟩ := hout
                  subst ho1 ho2
                  clear hcode HOC HOB HOD HDL hleN hrowN
                  go_upto_region 31 with (refine wpList_mkB rfl _ _ rfl (base := wN.heap.size) Try.underlying59 Try.infoU9 24 rfl rfl rfl rfl (by omega) (Nat.le_refl _) ?_; intro wP hoP hgP)
                  have hbP := (Below.refl wN.heap.size wN).grown hgP (Nat.le_refl _) (fun k hk => by cases hk)
                  have hdP := ownD_keep hdN hbP
                  have hoP2 := ownD_keep hoN hbP
                  have hIP := hIN.trans (hbP.mono hIN.size)
                  have hPs := hbP.size
                  have hrdP := Rd.ofOwn' hoP (by omega)
                  have hnil : wP.ownsRow wq.heap.size 3 1 (.slice none 0 0) (upI 0).length (is (upI 0)) := ownsRow_nil _ _ _
                  have hqP : wq.heap.size ≤ wP.heap.size := by omega
                  clear hbP hdN hoN hIN hgP hoP hrunN
                  generalize (some ⟨wN.heap.size, 0, none⟩ : Option Addr) = aP at *
                  go_wp2_with fail
                  go_loopw [14, 19] (fun ve vi wr => ∃ i : Nat, i ≤ 24 ∧ vi = .int .i64 i ∧ wr.ownsRow wq.heap.size 3 1 ve (upI i).length (is (upI i)) ∧ Below wP.heap.size wP wr ∧ Off ve (fun k => k < wP.heap.size)) (fun _ vi _ => 24 - (intOf vi).toNat)
                  case atStart => exact ⟨0, by omega, rfl, hnil, Below.refl _ _, Off.nil _⟩
                  case round =>
                    clear hnil
                    obtain ⟨i, hi, rfl, hee, hbp, hof⟩ := hrel
                    have hps := hbp.size
                    by_cases hit : i < 24
                    · have hit' : (i : Int) < 24 := by omega
                      have HS := Lib.hid (upI_succ i)
                      have hul := upI_length i
                      generalize upI i = E2 at hee HS hul
                      obtain ⟨ae2, ce2, rfl⟩ := ownD_form hee
                      have hA1 := (Below.refl wr.heap.size wr).alloc (Nat.le_refl _) (.cells #[.int .i64 i] 3)
                      have hea := ownD_keep hee hA1
                      have hba := hbp.trans (hA1.mono hps)
                      have hbas : wq.heap.size ≤ (wr.alloc (.cells #[.int .i64 i] 3)).heap.size := by simp; omega
                      clear hA1 hee hbp
                      go_wp2_with (at_builtin; refine wpList_ap1 rfl _ _ rfl Try.underlying24 Try.infoInt9 rfl hea rfl (g := wr.heap.size) (y := .int .i64 i) rfl (by simp) rfl (by unfold maxLen; omega) (by omega) hbas ?_; intro v7 w7 hown7 hgr7 hno7)
                      have hb7 := hba.grown hgr7 hba.size (fun q hq => by have := hof q hq; omega)
                      have hf7 := hof.step hno7 (fun q hq h => by simp only [World.size_alloc] at hq; omega)
                      clear hgr7 hno7 hea hba hof
                      go_roundw
                      case rel => exact ⟨i + 1, by omega, by go_num, by rw [HS.out, is_append, List.length_append]; exact hown7, hb7, hf7⟩
                      case measure => simp [intOf]; omega
                    · obtain rfl : i = 24 := by omega
                      obtain ⟨aR, cR, rfl⟩ := ownD_form hee
                      have hdR := ownD_keep hdP hbp
                      have hoR := ownD_keep hoP2 hbp
                      have hIR := hIP.trans (hbp.mono hIP.size)
                      have hrd := hrdP.keep hbp
                      have hown := hee
                      have HEB := Lib.hid (show ∀ x ∈ upI 24, 0 ≤ x ∧ x < 28 from fun x hx => by
                        simp only [upI, List.mem_map, List.mem_range] at hx
                        obtain ⟨i, h1, rfl⟩ := hx
                        show (0 : Int) ≤ (i : Int) ∧ (i : Int) < 28
                        omega)
                      have hEl : (upI 24).length ≤ 28 := by rw [upI_length]; omega
                      have HLS2 : Hid (lstD F (f + 1) = L ++ at24 f (lo24 (upI 24))) := Lib.hid (by rw [lo24_up]; exact HLS.out)
                      have HDS2 : Hid (datD F (f + 1) = Dt ++ (List.replicate 24 (0 : UInt8)).take 24) := Lib.hid (by rw [List.take_of_length_le (by simp)]; exact HDS.out)
                      have hoff : Off (.slice ao L.length co) (fun k => aR = some ⟨k, 0, none⟩) := fun q hq h => by have h1 := HLB.out q hq; have h2 := (hown.lt q (by rw [h]; rfl)).1; omega
                      have HWL := Lib.hid (show (List.replicate 24 (0 : UInt8)).length = 24 from by simp)
                      have hWg : 24 ≤ (List.replicate 24 (0 : UInt8)).length := by simp
                      clear HLS HDS hee hbp hof hdP hoP2 hIP hrdP
                      generalize upI 24 = E2 at *
                      generalize List.replicate 24 (0 : UInt8) = Z2 at *
                      obtain ⟨vs, hrs, _, _, hcut⟩ := run_cut (P := Try.prog) Try.underlying59 (by kernel_rfl : (Try.prog.info? 5).map (·.size) = some 1) hrd 0 24 (by omega) hWg
                      have hcut2 := fun W => hcut rfl 24 W rfl
                      rw [List.drop_zero] at hrs
                      have hl24 : ((Z2).take 24).length = 24 := by rw [List.length_take]; omega
                      have HL24 := Lib.hid hl24
                      have hsI := hIR.size
                      have HDX := Lib.hid hdR
                      have HOX := Lib.hid hoR
                      have HEX := Lib.hid hown
                      have HIX := Lib.hid hIR
                      clear hrd hdR hoR hown hIR hcut hl24 hWg
                      go_upto_region 36 with (at_builtin; refine wpList_appB rfl _ _ rfl Try.underlying59 Try.infoU9 HDX.out rfl hrs rfl (by have := HL24.out; omega) hsI ?_; intro v8 w8 hown8 hgr8 hno8)
                      have hI8 := HIX.out.grown hgr8 hsI (ownD_block HDX.out)
                      have ho8 := own_off HOX.out hgr8 (fun q hq h => apart9 HOX.out HDX.out (by decide) q hq h)
                      have he8 := own_off HEX.out hgr8 (fun q hq h => apart9 HEX.out HDX.out (by decide) q hq h)
                      rw [HL24.out, ← HDS2.out] at hown8
                      obtain ⟨a8, c8, rfl⟩ := ownD_form hown8
                      clear hgr8 hno8 HIX HOX HEX HDX hrs hcut2 hsI
                      obtain ⟨D8, hD8⟩ : ∃ D8, D8 = datD F (f + 1) := ⟨_, rfl⟩
                      rw [← hD8] at hown8
                      have HD8 := Lib.hid hD8
                      clear hD8
                      go_wp2_with fail
                      go_loopw [11, 20] (fun vo vk wr => ∃ k : Nat, k ≤ E2.length ∧ vk = .int .i64 k ∧ wr.ownsRow wo.heap.size 3 1 vo (L ++ at24 f (lo24 ((E2).take k))).length (is (L ++ at24 f (lo24 ((E2).take k)))) ∧ Off vo (fun k => aR = some ⟨k, 0, none⟩) ∧ wr.ownsRow wq.heap.size 3 1 (.slice aR E2.length cR) E2.length (is E2) ∧ wr.ownsRow wo.heap.size 5 1 (.slice a8 (24 * f + 24) c8) (24 * f + 24) (bs D8) ∧ Below wo.heap.size wo wr) (fun _ vk _ => E2.length - (intOf vk).toNat)
                      case atStart => exact ⟨0, by omega, rfl, by rw [List.take_zero, show at24 f (lo24 []) = [] from rfl, List.append_nil]; exact ho8, hoff, he8, hown8, hI8⟩
                      case round =>
                        clear ho8 he8 hown8 hI8 hoff
                        obtain ⟨k, hk, rfl, hoo, hoff, hoe, hdx, hlo⟩ := hrel
                        have hwsz := hlo.size
                        by_cases hkt : k < E2.length
                        · have hkt' : (k : Int) < (E2.length : Int) := by omega
                          obtain ⟨ge, ce', he, hge, hge2⟩ := ownD_addr hoe (by omega)
                          simp only [Value.slice.injEq] at he
                          have ha := he.1
                          clear he
                          obtain ⟨hx1, hx2⟩ := HEB.out _ (ixI_mem hkt)
                          have HS := Lib.hid (lo24_take E2 k (ixI E2 k) (ixI_some hkt))
                          have hoe2 := hoe
                          rw [ha] at hoe2
                          have hcl : wr.cell? ⟨ge, k, none⟩ = some (.int .i64 (ixI E2 k)) := by rw [hoe2.cellAt k (by omega), is_get hkt]
                          have hix := fun w' => run_idxS Try.underlying24 Try.sizeInt9 (a := aR) (cap := cR) ha hkt (k : Int) rfl w'
                          simp only [Nat.mul_one, Nat.zero_add] at hix
                          have Ha := Lib.hid ha
                          generalize ixI E2 k = x at *
                          have hll := lo24_len E2 k hEl
                          have hal := at24_len f (lo24 ((E2).take k))
                          obtain ⟨M, hM⟩ : ∃ M, M = L ++ at24 f (lo24 ((E2).take k)) := ⟨_, rfl⟩
                          have hMl : M.length ≤ 28 * f + 28 := by rw [hM, List.length_append]; omega
                          rw [← hM] at hoo
                          have HOE := Lib.hid hoe
                          have HDX := Lib.hid hdx
                          have HLO := Lib.hid hlo
                          have HOO := Lib.hid hoo
                          have HOF := Lib.hid hoff
                          clear hoe hoe2 hdx hlo hoo hoff ha hll hal
                          by_cases hx : x < 24
                          · have HS2 : Hid (L ++ at24 f (lo24 ((E2).take (k + 1))) = M ++ [24 * (f : Int) + x]) := Lib.hid (by rw [HS.out, if_pos hx, at24_app, hM, List.append_assoc])
                            clear HS hM
                            have hoa := ownD_keep HOO.out ((Below.refl wr.heap.size wr).alloc (Nat.le_refl _) (.cells #[.int .i64 (24 * (f : Int) + x)] 3))
                            have HA := Lib.hid ((Below.refl wr.heap.size wr).alloc (Nat.le_refl _) (.cells #[.int .i64 (24 * (f : Int) + x)] 3))
                            have hbas : wo.heap.size ≤ (wr.alloc (.cells #[.int .i64 (24 * (f : Int) + x)] 3)).heap.size := by simp; omega
                            go_wp2_with (at_builtin; refine wpList_ap1 rfl _ _ rfl Try.underlying24 Try.infoInt9 rfl hoa rfl (g := wr.heap.size) (y := .int .i64 (24 * (f : Int) + x)) rfl (by simp) rfl (by unfold maxLen; omega) (by omega) hbas ?_; intro v7 w7 hown7 hgr7 hno7)
                            have hlo7 := (HLO.out.trans (HA.out.mono hwsz)).grown hgr7 hbas (ownD_block hoa)
                            have hoe7 := own_off (ownD_keep HOE.out HA.out) hgr7 (fun q hq h => HOF.out q h (by
                              have e2 := Ha.out
                              rw [e2] at hq ⊢
                              simpa [Value.ownBlock] using hq))
                            have hdx7 := own_off (ownD_keep HDX.out HA.out) hgr7 (fun q hq h => apart9 (ownD_keep HDX.out HA.out) hoa (by decide) q hq h)
                            have hf7 := HOF.out.step hno7 (fun q hq h => by
                              simp only [World.size_alloc] at hq
                              rw [Ha.out] at h
                              simp only [Option.some.injEq, Addr.mk.injEq, and_true] at h
                              omega)
                            clear hoa hgr7 hno7 HA HOE HLO HOO HOF HDX
                            go_roundw
                            case rel => exact ⟨k + 1, by omega, by go_num, by rw [HS2.out, is_append, List.length_append]; exact hown7, hf7, hoe7, hdx7, hlo7⟩
                            case measure => simp [intOf]; omega
                          · have HS2 : Hid (L ++ at24 f (lo24 ((E2).take (k + 1))) = M) := Lib.hid (by rw [HS.out, if_neg hx, hM])
                            clear HS hM
                            go_wp2_with fail
                            go_roundw
                            case rel => exact ⟨k + 1, by omega, by go_num, by rw [HS2.out]; exact HOO.out, HOF.out, HOE.out, HDX.out, HLO.out⟩
                            case measure => simp [intOf]; omega
                        · obtain rfl : k = E2.length := by omega
                          rw [show (E2).take E2.length = E2 from by simp] at hoo
                          rw [← HLS2.out] at hoo
                          obtain ⟨a9, c9, rfl⟩ := ownD_form hoo
                          have HDX := Lib.hid hdx
                          have HOO := Lib.hid hoo
                          have HLO := Lib.hid hlo
                          clear hoe hoff hoo hlo hdx
                          go_wp2_with fail
                          go_roundw
                          case rel => exact ⟨f + 1, by omega, by go_num, by rw [show 24 * (f + 1) = 24 * f + 24 from by omega, ← HD8.out]; exact HDX.out, HOO.out, HLO.out⟩
                          case measure => simp [intOf]; omega
              · have h4' : ¬ (E.length : Int) ≤ 4 := by omega
                have hout := HOD.out h4
                simp only [Prod.mk.injEq] at hout
                obtain ⟨ho1, ho2⟩ := hout
                subst ho1 ho2
                have HEB := HEB0
                have hEl := hel
                have hoff : Off (.slice ao L.length co) (fun k => ae = some ⟨k, 0, none⟩) := fun q hq h => by have h1 := HLB.out q hq; have h2 := (hee.lt q (by rw [h]; rfl)).1; omega
                have HWL := Lib.hid hwl
                have hWg : 24 ≤ Wd.length := by omega
                have HLS2 : Hid (lstD F (f + 1) = L ++ at24 f (lo24 E)) := HLS
                have HDS2 : Hid (datD F (f + 1) = Dt ++ Wd.take 24) := HDS
                have hrd := hrdw
                have hown := hee
                clear HDE HOC HOB HOD HDL HLS HDS hwl hbq hww hrdw hee
                obtain ⟨vs, hrs, _, _, hcut⟩ := run_cut (P := Try.prog) Try.underlying59 (by kernel_rfl : (Try.prog.info? 5).map (·.size) = some 1) hrd 0 24 (by omega) hWg
                have hcut2 := fun W => hcut rfl 24 W rfl
                rw [List.drop_zero] at hrs
                have hl24 : ((Wd).take 24).length = 24 := by rw [List.length_take]; omega
                have HL24 := Lib.hid hl24
                have hsI := hbI6.size
                have HDX := Lib.hid hd6
                have HOX := Lib.hid ho6
                have HEX := Lib.hid hown
                have HIX := Lib.hid hbI6
                clear hrd hd6 ho6 hown hbI6 hcut hl24 hWg
                go_upto_region 36 with (at_builtin; refine wpList_appB rfl _ _ rfl Try.underlying59 Try.infoU9 HDX.out rfl hrs rfl (by have := HL24.out; omega) hsI ?_; intro v8 w8 hown8 hgr8 hno8)
                have hI8 := HIX.out.grown hgr8 hsI (ownD_block HDX.out)
                have ho8 := own_off HOX.out hgr8 (fun q hq h => apart9 HOX.out HDX.out (by decide) q hq h)
                have he8 := own_off HEX.out hgr8 (fun q hq h => apart9 HEX.out HDX.out (by decide) q hq h)
                rw [HL24.out, ← HDS2.out] at hown8
                obtain ⟨a8, c8, rfl⟩ := ownD_form hown8
                clear hgr8 hno8 HIX HOX HEX HDX hrs hcut2 hsI
                obtain ⟨D8, hD8⟩ : ∃ D8, D8 = datD F (f + 1) := ⟨_, rfl⟩
                rw [← hD8] at hown8
                have HD8 := Lib.hid hD8
                clear hD8
                go_wp2_with fail
                go_loopw [11, 20] (fun vo vk wr => ∃ k : Nat, k ≤ E.length ∧ vk = .int .i64 k ∧ wr.ownsRow wo.heap.size 3 1 vo (L ++ at24 f (lo24 ((E).take k))).length (is (L ++ at24 f (lo24 ((E).take k)))) ∧ Off vo (fun k => ae = some ⟨k, 0, none⟩) ∧ wr.ownsRow wq.heap.size 3 1 (.slice ae E.length ce) E.length (is E) ∧ wr.ownsRow wo.heap.size 5 1 (.slice a8 (24 * f + 24) c8) (24 * f + 24) (bs D8) ∧ Below wo.heap.size wo wr) (fun _ vk _ => E.length - (intOf vk).toNat)
                case atStart => exact ⟨0, by omega, rfl, by rw [List.take_zero, show at24 f (lo24 []) = [] from rfl, List.append_nil]; exact ho8, hoff, he8, hown8, hI8⟩
                case round =>
                  clear ho8 he8 hown8 hI8 hoff
                  obtain ⟨k, hk, rfl, hoo, hoff, hoe, hdx, hlo⟩ := hrel
                  have hwsz := hlo.size
                  by_cases hkt : k < E.length
                  · have hkt' : (k : Int) < (E.length : Int) := by omega
                    obtain ⟨ge, ce', he, hge, hge2⟩ := ownD_addr hoe (by omega)
                    simp only [Value.slice.injEq] at he
                    have ha := he.1
                    clear he
                    obtain ⟨hx1, hx2⟩ := HEB.out _ (ixI_mem hkt)
                    have HS := Lib.hid (lo24_take E k (ixI E k) (ixI_some hkt))
                    have hoe2 := hoe
                    rw [ha] at hoe2
                    have hcl : wr.cell? ⟨ge, k, none⟩ = some (.int .i64 (ixI E k)) := by rw [hoe2.cellAt k (by omega), is_get hkt]
                    have hix := fun w' => run_idxS Try.underlying24 Try.sizeInt9 (a := ae) (cap := ce) ha hkt (k : Int) rfl w'
                    simp only [Nat.mul_one, Nat.zero_add] at hix
                    have Ha := Lib.hid ha
                    generalize ixI E k = x at *
                    have hll := lo24_len E k hEl
                    have hal := at24_len f (lo24 ((E).take k))
                    obtain ⟨M, hM⟩ : ∃ M, M = L ++ at24 f (lo24 ((E).take k)) := ⟨_, rfl⟩
                    have hMl : M.length ≤ 28 * f + 28 := by rw [hM, List.length_append]; omega
                    rw [← hM] at hoo
                    have HOE := Lib.hid hoe
                    have HDX := Lib.hid hdx
                    have HLO := Lib.hid hlo
                    have HOO := Lib.hid hoo
                    have HOF := Lib.hid hoff
                    clear hoe hoe2 hdx hlo hoo hoff ha hll hal
                    by_cases hx : x < 24
                    · have HS2 : Hid (L ++ at24 f (lo24 ((E).take (k + 1))) = M ++ [24 * (f : Int) + x]) := Lib.hid (by rw [HS.out, if_pos hx, at24_app, hM, List.append_assoc])
                      clear HS hM
                      have hoa := ownD_keep HOO.out ((Below.refl wr.heap.size wr).alloc (Nat.le_refl _) (.cells #[.int .i64 (24 * (f : Int) + x)] 3))
                      have HA := Lib.hid ((Below.refl wr.heap.size wr).alloc (Nat.le_refl _) (.cells #[.int .i64 (24 * (f : Int) + x)] 3))
                      have hbas : wo.heap.size ≤ (wr.alloc (.cells #[.int .i64 (24 * (f : Int) + x)] 3)).heap.size := by simp; omega
                      go_wp2_with (at_builtin; refine wpList_ap1 rfl _ _ rfl Try.underlying24 Try.infoInt9 rfl hoa rfl (g := wr.heap.size) (y := .int .i64 (24 * (f : Int) + x)) rfl (by simp) rfl (by unfold maxLen; omega) (by omega) hbas ?_; intro v7 w7 hown7 hgr7 hno7)
                      have hlo7 := (HLO.out.trans (HA.out.mono hwsz)).grown hgr7 hbas (ownD_block hoa)
                      have hoe7 := own_off (ownD_keep HOE.out HA.out) hgr7 (fun q hq h => HOF.out q h (by
                        have e2 := Ha.out
                        rw [e2] at hq ⊢
                        simpa [Value.ownBlock] using hq))
                      have hdx7 := own_off (ownD_keep HDX.out HA.out) hgr7 (fun q hq h => apart9 (ownD_keep HDX.out HA.out) hoa (by decide) q hq h)
                      have hf7 := HOF.out.step hno7 (fun q hq h => by
                        simp only [World.size_alloc] at hq
                        rw [Ha.out] at h
                        simp only [Option.some.injEq, Addr.mk.injEq, and_true] at h
                        omega)
                      clear hoa hgr7 hno7 HA HOE HLO HOO HOF HDX
                      go_roundw
                      case rel => exact ⟨k + 1, by omega, by go_num, by rw [HS2.out, is_append, List.length_append]; exact hown7, hf7, hoe7, hdx7, hlo7⟩
                      case measure => simp [intOf]; omega
                    · have HS2 : Hid (L ++ at24 f (lo24 ((E).take (k + 1))) = M) := Lib.hid (by rw [HS.out, if_neg hx, hM])
                      clear HS hM
                      go_wp2_with fail
                      go_roundw
                      case rel => exact ⟨k + 1, by omega, by go_num, by rw [HS2.out]; exact HOO.out, HOF.out, HOE.out, HDX.out, HLO.out⟩
                      case measure => simp [intOf]; omega
                  · obtain rfl : k = E.length := by omega
                    rw [show (E).take E.length = E from by simp] at hoo
                    rw [← HLS2.out] at hoo
                    obtain ⟨a9, c9, rfl⟩ := ownD_form hoo
                    have HDX := Lib.hid hdx
                    have HOO := Lib.hid hoo
                    have HLO := Lib.hid hlo
                    clear hoe hoff hoo hlo hdx
                    go_wp2_with fail
                    go_roundw
                    case rel => exact ⟨f + 1, by omega, by go_num, by rw [show 24 * (f + 1) = 24 * f + 24 from by omega, ← HD8.out]; exact HDX.out, HOO.out, HLO.out⟩
                    case measure => simp [intOf]; omega
        · have hlt' : ¬ (f : Int) < (g : Int) - 108 := by omega
          obtain rfl : f = n := by omega
          obtain ⟨ad, cd, rfl⟩ := ownD_form hd
          obtain ⟨ao, co, rfl⟩ := ownD_form ho
          have hdl := datD_length F f
          have hrd := Rd.ofOwn' hd (by omega)
          have hconv := run_str (P := Try.prog) Try.underlying59 Try.underlying5 Try.underlying9 hrd
          have HO := Lib.hid ho
          have HLE := Lib.hid (hb.trans (hbI.mono hbs))
          clear hd ho hbI hrd hdl
          go_wp2_with fail
          go_ret3
          exact ⟨_, rfl, own_mono HO.out (by omega), HLE.out⟩
end Go.Proofs.Ytkebnmmcogkldaa.C9
namespace Go.Proofs.Ytkebnmmcogkldaa.C9
open Go.ChangeShapes Go.WideShapes Go.RowKit Go.Deep W8
set_option linter.unusedVariables false

theorem pdecC_any (va : Value) (F : List (List UInt8)) (w : World) (hF : RdStr w va F) (hl : F.length ≤ 9223372036854775807) : Calls Try.prog 26 #[va] w (DecP (decR F) w) := by
  unfold decR
  by_cases h : F.length < 109 ∨ 892 < F.length
  · rw [if_pos h]
    exact pdecode_len va F w hF hl h
  · rw [if_neg h]
    exact pdecode_ok va F (F.length - 108) w hF (by omega) (by omega) (by omega)
theorem rdecC_any (va : Value) (F : List (List UInt8)) (w : World) (hF : RdStr w va F) (hl : F.length ≤ 9223372036854775807) : Calls Try.prog 27 #[va] w (DecP (decR F) w) := by
  unfold decR
  by_cases h : F.length < 109 ∨ 892 < F.length
  · rw [if_pos h]
    exact rdecodeC_len va F w hF hl h
  · rw [if_neg h]
    exact rdecodeC_ok va F (F.length - 108) w hF (by omega) (by omega) (by omega)
theorem decR_bd (F : List (List UInt8)) : (decR F).2.1.length ≤ 22000 ∧ ∀ x ∈ (decR F).2.1, -9223372036854775808 ≤ x ∧ x ≤ 9223372036854775807 := by
  unfold decR
  split
  · simp
  · split
    · simp
    · have h1 := lstD_length F (F.length - 108)
      refine ⟨by simp only; omega, fun x hx => ?_⟩
      have := lstD_bd F (F.length - 108) x hx
      omega
theorem DecP.rd {F : List (List UInt8)} {w w' : World} {e : Ending} (h : DecP (decR F) w e w') : ∃ v, e = .returned (.tuple #[.string (str (decR F).1), v, .int .i64 (decR F).2.2]) ∧ RdI w' v (decR F).2.1 ∧ Below w.heap.size w w' := by
  obtain ⟨v, he, ho, hb⟩ := h
  obtain ⟨h1, h2⟩ := decR_bd F
  exact ⟨v, he, rdI_own ho rfl (by omega) h2, hb⟩
section
variable {H : Type} {enc : TypeId × Value → H} {w : World} {base b0 : Nat} {sp : Nat → Bool} {held : Bool}
theorem Try.cellsStr9 : Try.prog.cellsOf 9 = 1 := by kernel_rfl
/-- strings that came in -/
def CameStr (w : World) (v : Value) (l : List (List UInt8)) : Prop := RdStr w v l ∧ l.length ≤ 9223372036854775807 ∧ ∀ i, i < l.length → (atD [] l i).length ≤ 9223372036854775807
set_option maxRecDepth 100000 in
theorem open_cstrs {v : Value} {d : DataW H} {ps : List MemPlace} {r : Reach} (hval : Value.okWide Try.prog w r b0 36 v) (hd : DataW.Trod enc Try.prog w base sp held 36 v d ps) : ∃ l, CameStr w v l := by
  obtain ⟨a, len, cap, rfl⟩ := okWide_slice Try.underlying36 hval
  obtain ⟨fuel, hf⟩ := hd
  obtain ⟨l, h1, h2, h3⟩ := open_rdS ([] : List UInt8) ssD (fun x => x.length ≤ 9223372036854775807) Try.underlying36 Try.cellsStr9 (by omega) (fun n cs x h => by
    obtain ⟨s, h1, _, h2⟩ := DataW.trod_string Try.underlying9 h
    refine ⟨s.data.toList, by rw [h1]; show _ = [Value.string (str s.data.toList)]; rw [← str_list s], ?_⟩
    have : (str s.data.toList).size = s.data.toList.length := str_size _
    rw [← str_list s] at this
    unfold maxLen at h2
    omega) (by simpa [Value.cells] using hf)
  exact ⟨l, h1, h2, h3⟩
end
set_option maxRecDepth 100000 in
set_option maxHeartbeats 2000000 in
theorem decodes_law (w : World) (v : Value) (F : List (List UInt8)) (h : CameStr w v F) :
    Calls Try.prog 7 #[v] w fun e w' => e = .returned (.bool true) ∧ Below w.heap.size w w' := by
  have HP := Lib.hid (fun W hW => pdecC_any v F W hW h.2.1)
  have HQ := Lib.hid (fun W hW => rdecC_any v F W hW h.2.1)
  have HC := Lib.hid h.1
  have hl := h.2.1
  obtain ⟨a, c, rfl, _⟩ := RdD.form h.1
  clear h
  obtain ⟨n, hn⟩ : ∃ n, n = F.length := ⟨_, rfl⟩
  rw [← hn] at hl HP HQ HC ⊢
  clear hn
  by_cases h1 : 130 < n
  all_goals
    go_enter Try.func7, Try.ntmps7
    go_wp2_with fail
    refine (awake9_any _).mono ?_
    rintro e w1 ⟨rfl, hb1⟩
    go_wp2_with fail
  · go_ret
    exact ⟨rfl, hb1⟩
  · refine (HP.out _ (RdD.keep HC.out hb1)).mono ?_
    intro e w2 hlp
    obtain ⟨v2, rfl, hr2, hb2⟩ := hlp.rd
    clear hlp
    obtain ⟨a2, c2, rfl⟩ := RdI.form9 hr2
    have hbw2 := hb1.trans (hb2.mono hb1.size)
    clear hb1 hb2
    go_wp2_with fail
    refine (HQ.out _ (RdD.keep HC.out hbw2)).mono ?_
    intro e w3 hlp
    obtain ⟨v3, rfl, hr3, hb3⟩ := hlp.rd
    clear hlp
    obtain ⟨a3, c3, rfl⟩ := RdI.form9 hr3
    have hbw3 := hbw2.trans (hb3.mono hbw2.size)
    have HE := Lib.hid (equal9 (hr2.keep hb3) hr3)
    clear hb3 hbw2 hr2 hr3
    go_wp2_with fail
    refine HE.out.mono ?_
    rintro e w4 ⟨rfl, q, rfl⟩
    go_wp2_with fail
    go_ret
    exact ⟨retB (by simp), Below.drewN hbw3 _⟩
set_option maxRecDepth 100000 in
set_option maxHeartbeats 4000000 in
theorem returns_law (w : World) (s : ByteArray) (hs : s.size ≤ maxLen) :
    Calls Try.prog 8 #[.string s] w fun e w' => e = .returned (.bool true) ∧ Below w.heap.size w w' := by
  obtain ⟨d, rfl⟩ : ∃ d, s = str d := ⟨s.data.toList, str_list s⟩
  rw [str_size] at hs
  unfold maxLen at hs
  have HE1 := Lib.hid (fun W => pencC_any d W (by omega))
  have hsz := str_size d
  by_cases hbig : 1200 < d.length
  · generalize d.length = m at *
    go_enter Try.func8, Try.ntmps8
    go_wp2_with fail
    refine (awake9_any _).mono ?_
    rintro e w1 ⟨rfl, hb1⟩
    go_wp2_with fail
    go_ret
    exact ⟨rfl, hb1⟩
  by_cases hbad : d.length = 0 ∨ d.length % 24 ≠ 0
  · have e : encR d = ([], 1) := by unfold encR; rw [if_pos hbad]
    rw [e] at HE1
    clear e
    generalize d.length = m at *
    have hcase : (((m : Int) == 0) = true) ∨ (((m : Int) == 0) = false ∧ (((m : Int) % 24) != 0) = true) := by
      by_cases h0 : m = 0
      · left; rw [beq_iff_eq]; omega
      · right; exact ⟨by rw [beq_eq_false_iff_ne]; omega, by rw [bne_iff_ne]; omega⟩
    clear hbad
    rcases hcase with g1 | ⟨g1, g2⟩
    all_goals
      go_enter Try.func8, Try.ntmps8
      go_wp2_with fail
      refine (awake9_any _).mono ?_
      rintro e w1 ⟨rfl, hb1⟩
      go_wp2_with fail
      refine (HE1.out _).mono ?_
      intro e w2 hq
      obtain ⟨v2, rfl, hr2, hb2⟩ := hq.rd
      clear hq
      obtain ⟨a2, c2, rfl, _⟩ := RdD.form hr2
      have hbw := hb1.trans (hb2.mono hb1.size)
      clear hb1 hb2 hr2
      simp only [List.length_nil]
      go_wp2_with fail
      go_ret
      exact ⟨rfl, hbw⟩
  · obtain ⟨n, hn⟩ : ∃ n, d.length = 24 * n := ⟨d.length / 24, by omega⟩
    have n1 : 1 ≤ n := by omega
    have n2 : n ≤ 50 := by omega
    have e : encR d = (frms d n (n + 108), 0) := by
      unfold encR
      rw [if_neg hbad, if_neg (by omega), show d.length / 24 = n from by omega]
    rw [e] at HE1
    have HFL := Lib.hid (frms_length d n (n + 108))
    have HFV := Lib.hid (fun (g : Nat) (hg : g < n + 108) => (show (atD [] (frms d n (n + 108)) g).length = 32 ∧ G.validB (atD [] (frms d n (n + 108)) g) 4 = true from by
      have e : atD [] (frms d n (n + 108)) g = frm d n g := frA_frms d n _ g hg
      rw [e]
      exact ⟨frm_length d n g, frm_valid d n g⟩))
    have HDR : Hid (decR (frms d n (n + 108)) = (d, [], 0)) := Lib.hid (by
      have h := near_scr d n []
      rw [scrF_none] at h
      exact decR_none n1 (by omega) hn h (lostN_none (fun f => by
        have : ers [] f = [] := by simp [ers, ersK, gon]
        rw [this]; simp) n))
    have HDC := Lib.hid (fun W va hW => pdecC_any va (frms d n (n + 108)) W hW (by rw [frms_length]; omega))
    rw [HDR.out] at HDC
    have HFR := Lib.hid (fun W => (frames_any n W).mono (fun e w' (h : e = _ ∧ W = w') => (by rw [frN_ok n1 (by omega)] at h; exact h : e = .returned (.int .i64 ((n + 108 : Nat) : Int)) ∧ W = w')))
    obtain ⟨N, hN⟩ : ∃ N, N = n + 108 := ⟨_, rfl⟩
    rw [← hN] at HFL HFV HDC HFR HE1
    have hN1 : n + 108 ≤ N := by omega
    have hN2 : N ≤ n + 108 := by omega
    generalize frms d n N = F at *
    rw [hn] at hsz
    have hq1 : ((24 * (n : Int)) == 0) = false := by rw [beq_eq_false_iff_ne]; omega
    have hq2 : ((n : Int) == 0) = false := by rw [beq_eq_false_iff_ne]; omega
    have hq3 : ((N : Int) != (n : Int) + 108) = false := by rw [bne_eq_false_iff_eq]; omega
    have hbb := bytes_beq (str d)
    clear hn hN e hbad hbig hs HDR
    go_enter Try.func8, Try.ntmps8
    go_wp2_with fail
    refine (awake9_any _).mono ?_
    rintro e w1 ⟨rfl, hb1⟩
    go_wp2_with fail
    refine (HE1.out _).mono ?_
    intro e w2 hq
    obtain ⟨v2, rfl, hr2, hb2⟩ := hq.rd
    clear hq
    obtain ⟨a2, c2, rfl, _⟩ := RdD.form hr2
    have hbw := hb1.trans (hb2.mono hb1.size)
    have HR2 := Lib.hid hr2
    clear hb1 hb2 hr2
    simp only
    rw [HFL.out] at HR2 ⊢
    go_wp2_with fail
    refine (HFR.out _).mono ?_
    rintro e w' ⟨rfl, rfl⟩
    go_wp2_with fail
    go_loopw [57] (fun vk wr => ∃ k : Nat, k ≤ N ∧ vk = .int .i64 k ∧ Below w2.heap.size w2 wr) (fun vk _ => N - (intOf vk).toNat)
    case atStart => exact ⟨0, by omega, rfl, Below.refl _ _⟩
    case round =>
      obtain ⟨k, hk, rfl, hb⟩ := hrel
      by_cases hlt : k < N
      · have hlt' : (k : Int) < (N : Int) := by omega
        obtain ⟨b2, o2, hcell⟩ := RdD.at HR2.out
        obtain ⟨ha, hrange⟩ := hcell k (by rw [HFL.out]; exact hlt)
        obtain ⟨hx1, hx2⟩ := HFV.out k hlt
        have hcl : wr.cell? ⟨b2, o2 + k * 1, none⟩ = some (.string (str (atD [] F k))) := (hb.cell (p := ⟨b2, o2 + k * 1, none⟩) (World.block_lt_of_cell? w2 _ (hrange 0 _ rfl))).trans (hrange 0 _ rfl)
        have hix := fun w' => run_idxS Try.underlying36 (by kernel_rfl : (Try.prog.info? 9).map (·.size) = some 1) (cap := c2) ha hlt (k : Int) rfl w'
        simp only [Nat.mul_one] at hix hcl
        have hsx := str_size (atD [] F k)
        rw [hx1] at hsx
        have HV := Lib.hid (fun W => valid_any (atD [] F k) 4 W (by omega))
        rw [hx2] at HV
        generalize str (atD [] F k) = x at *
        have Ha := Lib.hid ha
        clear ha hrange hcell hx1 hx2
        go_wp2_with fail
        refine (HV.out _).mono ?_
        rintro e w4 ⟨rfl, hb4⟩
        have hbb4 := hb.trans (hb4.mono hb.size)
        clear hb hb4
        go_wp2_with fail
        go_roundw
        case rel => exact ⟨k + 1, by omega, by go_num, hbb4⟩
        case measure => simp [intOf]; omega
      · obtain rfl : k = N := by omega
        have HR3 := Lib.hid (RdD.keep HR2.out hb)
        have hbw3 := hbw.trans (hb.mono hbw.size)
        go_wp2_with fail
        refine (HDC.out _ _ HR3.out).mono ?_
        rintro e w5 ⟨v5, rfl, ho5, hb5⟩
        obtain ⟨a5, c5, rfl⟩ := ownD_form ho5
        simp only [List.length_nil]
        have hbw5 := hbw3.trans (hb5.mono hbw3.size)
        clear ho5 hb5 hbw3
        go_wp2_with fail
        go_ret
        exact ⟨retB (by simp), hbw5⟩
end Go.Proofs.Ytkebnmmcogkldaa.C9
