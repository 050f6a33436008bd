/- Parts: XDc -/
import Derived.Test.YtflmjdjkfognjaaGreatTe29
namespace Go.Proofs.YtflmjdjkfognjaaGreat.C9
open Go.RowKit W8
set_option linter.unusedVariables false
def rwK (F : List (List UInt8)) (N g : Nat) : List (List UInt8) := (List.range N).map fun h => if h < g then (got F h).take 28 else []
def wdZ (F : List (List UInt8)) (f i : Nat) : List UInt8 := wdD F f i ++ List.replicate (28 - i) 0
theorem wdZ_length (F : List (List UInt8)) (f i : Nat) (h : i ≤ 28) : (wdZ F f i).length = 28 := by unfold wdZ; rw [List.length_append, wdD_length, List.length_replicate]; omega
theorem wdZ_zero (F : List (List UInt8)) (f : Nat) : wdZ F f 0 = List.replicate 28 0 := by simp [wdZ, wdD]
theorem wdZ_all (F : List (List UInt8)) (f : Nat) : wdZ F f 28 = wdD F f 28 := by simp [wdZ]
theorem wdZ_set (F : List (List UInt8)) (f i : Nat) (h : i < 28) : (wdZ F f i).set i (G.ix (got F (f + 4 * i)) i) = wdZ F f (i + 1) := by
  unfold wdZ
  rw [wdD_succ, List.append_assoc, List.set_append_right _ _ (by rw [wdD_length]; exact Nat.le_refl _), wdD_length, Nat.sub_self]
  congr 1
  rw [show 28 - i = (28 - (i + 1)) + 1 from by omega, List.replicate_succ]
  rfl
theorem wdZ_same (F : List (List UInt8)) (f i : Nat) (h : i < 28) (h0 : got F (f + 4 * i) = []) : wdZ F f (i + 1) = wdZ F f i := by
  rw [← wdZ_set F f i h, h0]
  unfold wdZ
  rw [List.set_append_right _ _ (by rw [wdD_length]; exact Nat.le_refl _), wdD_length, Nat.sub_self, show 28 - i = (28 - (i + 1)) + 1 from by omega, List.replicate_succ]
  rfl
def DcS (gw gwb eb : Nat) (E : List Int) (Wd : List UInt8) (w : World) (e : Ending) (w' : World) : Prop :=
  e = .returned (.tuple #[]) ∧ ErB eb E w' ∧ Bx w' gw 5 (bs Wd) ∧ Bx w' gwb 123 [.slice (some ⟨gw, 0, none⟩) 28 28] ∧ Below gw w w'
set_option maxRecDepth 100000 in
set_option maxHeartbeats 1000000 in
theorem dec1_no (i : Int) (fr rb gr N eb wb : Nat) (E : List Int) (w : World) (hr : w.cell? ⟨rb, 0, none⟩ = some (.slice (some ⟨gr, 0, none⟩) N N)) (hc : w.cell? ⟨gr, fr, none⟩ = some (.string (str []))) (hfr : fr < N) (x : Int) (hx : x = fr) (he : ErB eb E w) (hE : E.length ≤ 1000) :
    Calls Tryz.prog 90 #[.int .i64 i, .int .i64 x, .pointer (some ⟨rb, 0, none⟩), .pointer (some ⟨eb, 0, none⟩), .pointer (some ⟨wb, 0, none⟩)] w (ErP eb (E ++ [i]) w) := by
  have hix := fun w' => run_idxS Tryz.underlying47 (by kernel_rfl : (Tryz.prog.info? 9).map (·.size) = some 1) (a := some ⟨gr, 0, none⟩) (cap := N) rfl hfr x hx w'
  simp only [Nat.mul_one, Nat.zero_add] at hix
  have hc' : w.cell? ⟨gr, fr, none⟩ = some (.string ⟨#[]⟩) := hc
  have Hx := Lib.hid hx; clear hx hc
  obtain ⟨ve, hbx, hoe⟩ := he
  have hc0 := hbx.cell (i := 0) rfl
  have hlt := hbx.lt
  have hoa := ownD_keep hoe ((Below.refl w.heap.size w).alloc (Nat.le_refl _) (.cells #[.int .i64 i] 3))
  have hba := (Below.refl eb w).alloc (Nat.le_of_lt hlt) (.cells #[.int .i64 i] 3)
  have hbxa := hbx.alloc (.cells #[.int .i64 i] 3)
  have hbas : eb + 1 ≤ (w.alloc (.cells #[.int .i64 i] 3)).heap.size := by simp; omega
  have HBX := Lib.hid hbxa
  clear hbx hoe hbxa
  go_enter Tryz.func90, Tryz.ntmps90
  go_wp2_with (at_builtin; refine wpList_ap1 rfl _ _ rfl Tryz.underlying53 Tryz.infoInt9 rfl hoa rfl (g := w.heap.size) (y := .int .i64 i) rfl (by simp) rfl (by unfold maxLen; omega) (by omega) hbas ?_; intro v7 w7 hown7 hgr7 hno7; obtain ⟨a7, c7, rfl⟩ := ownD_form hown7; have hbx7 := bx_off HBX.out hgr7 (fun h => by have := ownD_block hoa eb h; omega); have hb7 := hba.grown hgr7 (by omega) (fun q hq => by have := ownD_block hoa q hq; omega); have hc7 := hbx7.cell (i := 0) rfl; have hf7 := hbx7.free 0; clear hoa hba hbas hgr7 hno7 hc0)
  go_end0
  exact ⟨rfl, ⟨_, hbx7.set 0 _, by rw [is_append, List.length_append]; exact ownD_far hown7 (by simp only; omega) _⟩, hb7.setCell (Nat.le_refl _) _⟩
set_option maxRecDepth 100000 in
set_option maxHeartbeats 1000000 in
theorem dec1_yes (i fr rb gr N eb wb gw : Nat) (y Wd : List UInt8) (w : World) (hr : w.cell? ⟨rb, 0, none⟩ = some (.slice (some ⟨gr, 0, none⟩) N N)) (hc : w.cell? ⟨gr, fr, none⟩ = some (.string (str y))) (hfr : fr < N) (x : Int) (hx : x = fr) (hy : y ≠ []) (hi : i < y.length) (h28 : i < 28)
    (hw : w.cell? ⟨wb, 0, none⟩ = some (.slice (some ⟨gw, 0, none⟩) 28 28)) (hb : Bx w gw 5 (bs Wd)) (hW : Wd.length = 28) :
    Calls Tryz.prog 90 #[.int .i64 i, .int .i64 x, .pointer (some ⟨rb, 0, none⟩), .pointer (some ⟨eb, 0, none⟩), .pointer (some ⟨wb, 0, none⟩)] w fun e w' => e = .returned (.tuple #[]) ∧ w' = w.drew.setCell ⟨gw, i, none⟩ (B (G.ix y i)) := by
  have hix := fun w' => run_idxS Tryz.underlying47 (by kernel_rfl : (Tryz.prog.info? 9).map (·.size) = some 1) (a := some ⟨gr, 0, none⟩) (cap := N) rfl hfr x hx w'
  have hix2 := fun w' => run_idxS Tryz.underlying123 (by kernel_rfl : (Tryz.prog.info? 5).map (·.size) = some 1) (a := some ⟨gw, 0, none⟩) (cap := 28) rfl h28 (i : Int) rfl w'
  simp only [Nat.mul_one, Nat.zero_add] at hix hix2
  have Hx := Lib.hid hx; clear hx
  have hcl : w.cell? ⟨gw, i, none⟩ = some (B (G.ix Wd i)) := hb.cell (bs_get (by omega))
  have hfz := hb.free i
  have hstr : ∀ W, (Instr.index 9 (.string (str y)) (.int .i64 (i : Int))).run Tryz.prog W = .ok (B (G.ix y i)) W := fun W => run_sidx Tryz.underlying9 y i hi _ rfl W
  have hne : (str y).toList = y := str_toList y
  have hy2 : ¬ (str y).toList = [] := by rw [hne]; exact hy
  have hy3 : (str y).toList.isEmpty = false := by rw [hne]; cases y with | nil => exact absurd rfl hy | cons a b => rfl
  have hsy := str_size y
  obtain ⟨q, hq⟩ : ∃ q, q = G.ix y i := ⟨_, rfl⟩
  rw [← hq] at hstr ⊢
  obtain ⟨ny, hny⟩ : ∃ n, n = y.length := ⟨_, rfl⟩
  rw [← hny] at hsy hi
  generalize str y = Y at *
  clear hb hne hy hq hW hny
  go_enter Tryz.func90, Tryz.ntmps90
  go_wp2_with fail
  go_still_tail 9, (by kernel_rfl)
  repeat still_step
  change wpList _ _ _ _ _ w.drew
  go_wp2_with fail
  go_end0
  exact ⟨rfl, rfl⟩
def rwA (F : List (List UInt8)) (N : Nat) : List (List UInt8) := (List.range N).map fun h => (got F h).take 28
theorem rwA_length (F : List (List UInt8)) (N : Nat) : (rwA F N).length = N := by simp [rwA]
theorem rwA_at (F : List (List UInt8)) {N h : Nat} (hh : h < N) : atD [] (rwA F N) h = (got F h).take 28 := by simp [atD, rwA, hh]
def okK (F : List (List UInt8)) (k : Nat) : Prop := ∀ m, m < k → (frA F m).length = 0 ∨ (frA F m).length = 32
theorem got_ok {F : List (List UInt8)} {N g : Nat} (h : okK F N) (hg : g < N) : got F g = [] ∨ (got F g).length = 32 := by
  rcases got_length F g with h1 | h1
  · exact .inl h1
  · rcases h g hg with h2 | h2
    · rw [h2] at h1
      exact .inl (List.eq_nil_of_length_eq_zero h1)
    · exact .inr (by omega)
set_option maxRecDepth 100000 in
set_option maxHeartbeats 1000000 in
theorem collect_dec (F : List (List UInt8)) (f n N gr rb gw gwb eb : Nat) (w : World) (hf : f < n) (hN : N = n + 108) (hn : n ≤ 784) (hok : okK F N) (o1 : gr < gw) (o2 : rb < gw) (o3 : gw < gwb) (o4 : gwb < eb)
    (hb : Bx w gr 9 (flD ssD (rwA F N))) (hr : w.cell? ⟨rb, 0, none⟩ = some (.slice (some ⟨gr, 0, none⟩) N N))
    (hw : Bx w gw 5 (bs (List.replicate 28 0))) (hwb : Bx w gwb 123 [.slice (some ⟨gw, 0, none⟩) 28 28]) (he : ErB eb [] w) :
    Calls Tryz.prog 86 #[.int .i64 f, .func (.func 90) #[] #[.pointer (some ⟨rb, 0, none⟩), .pointer (some ⟨eb, 0, none⟩), .pointer (some ⟨gwb, 0, none⟩)]] w (DcS gw gwb eb (erD F f 28) (wdD F f 28) w) := by
  have HB := Lib.hid hb
  have HR := Lib.hid hr
  have HW := Lib.hid hw
  have HWB := Lib.hid hwb
  have HE := Lib.hid he
  have HOK := Lib.hid (fun (g : Nat) (hg : g < N) => got_ok hok hg)
  have hN1 : n + 108 ≤ N := by omega
  have hN2 : N ≤ n + 108 := by omega
  have HCL := Lib.hid (fun (g : Nat) (hg : g < N) => (show w.cell? ⟨gr, g, none⟩ = some (.string (str ((got F g).take 28))) from hb.cell (by
    have e := flD_get (d := ([] : List UInt8)) (D := ssD) ssD_len (rwA F N) g 0 (by rw [rwA_length]; exact hg) (by omega)
    rw [Nat.mul_one, Nat.add_zero, rwA_at F hg] at e
    exact e)))
  clear hb hr hw hwb he hN hok
  go_enter Tryz.func86, Tryz.ntmps86
  go_wp2_with fail
  go_loopw [5] (fun vi wr => ∃ i : Nat, i ≤ 28 ∧ vi = .int .i64 i ∧ ErB eb (erD F f i) wr ∧ Bx wr gw 5 (bs (wdZ F f i)) ∧ Bx wr gwb 123 [.slice (some ⟨gw, 0, none⟩) 28 28] ∧ Below gw w wr) (fun vi _ => 28 - (intOf vi).toNat)
  case atStart => exact ⟨0, by omega, rfl, HE.out, by rw [wdZ_zero]; exact HW.out, HWB.out, Below.refl _ _⟩
  case round =>
    obtain ⟨i, hi, rfl, hee, hww, hwwb, hbe⟩ := hrel
    by_cases hit : i < 28
    · have hit' : (i : Int) < 28 := by omega
      have hgN : f + 4 * i < N := by omega
      have hcr : wr.cell? ⟨rb, 0, none⟩ = some (.slice (some ⟨gr, 0, none⟩) N N) := (hbe.cell (p := ⟨rb, 0, none⟩) o2).trans HR.out
      have hcl : wr.cell? ⟨gr, f + 4 * i, none⟩ = some (.string (str ((got F (f + 4 * i)).take 28))) := (hbe.cell (p := ⟨gr, f + 4 * i, none⟩) o1).trans (HCL.out _ hgN)
      have HS := Lib.hid (erD_succ F f i)
      have HZ := Lib.hid (wdZ_set F f i hit)
      have HZ2 := Lib.hid (wdZ_same F f i hit)
      have hel := erD_length F f i
      have hzl := wdZ_length F f i hi
      rcases HOK.out _ hgN with hg | hg
      · rw [hg] at hcl HS
        have HS2 : Hid (erD F f (i + 1) = erD F f i ++ [(i : Int)]) := Lib.hid (HS.out.trans (if_pos (by rfl)))
        have HZ3 := Lib.hid (HZ2.out hg)
        have HK := Lib.hid (dec1_no i (f + 4 * i) rb gr N eb gwb (erD F f i) wr hcr hcl hgN ((f : Int) + 4 * i) (by omega) hee (by omega))
        have HW2 := Lib.hid hww
        have HWB2 := Lib.hid hwwb
        clear hcr hcl HS HZ HZ2 hee hg hww hwwb hzl
        go_wp2_with fail
        refine HK.out.mono ?_
        rintro e w1 ⟨rfl, he1, hb1⟩
        go_wp2_with fail
        go_roundw
        case rel => exact ⟨i + 1, by omega, by go_num, by rw [HS2.out]; exact he1, by rw [HZ3.out]; exact HW2.out.keepB hb1 (by omega), HWB2.out.keepB hb1 o4, hbe.trans (hb1.mono (by omega))⟩
        case measure => simp [intOf]; omega
      · have HS2 : Hid (erD F f (i + 1) = erD F f i) := Lib.hid (by rw [HS.out, if_neg (by cases e : got F (f + 4 * i) with | nil => rw [e] at hg; simp at hg | cons a b => simp)])
        have hy : ((got F (f + 4 * i)).take 28).length = 28 := by rw [List.length_take, hg]; rfl
        have hyi : G.ix ((got F (f + 4 * i)).take 28) i = G.ix (got F (f + 4 * i)) i := ix_take hit
        have HK := Lib.hid (dec1_yes i (f + 4 * i) rb gr N eb gwb gw ((got F (f + 4 * i)).take 28) (wdZ F f i) wr hcr hcl hgN ((f : Int) + 4 * i) (by omega) (by intro e; rw [e] at hy; simp at hy) (by omega) hit (hwwb.cell (i := 0) rfl) hww hzl)
        rw [hyi] at HK
        have hset := hww.set i (B (G.ix (got F (f + 4 * i)) i))
        rw [bs_set, HZ.out] at hset
        have HSET := Lib.hid hset
        have HEE := Lib.hid hee
        have HWB2 := Lib.hid hwwb
        clear hcr hcl HS HZ HZ2 hee hg hww hwwb hzl hy hyi hset
        go_wp2_with fail
        refine HK.out.mono ?_
        rintro e w1 ⟨rfl, rfl⟩
        go_wp2_with fail
        go_roundw
        case rel =>
          obtain ⟨ve, hv1, hv2⟩ := HEE.out
          exact ⟨i + 1, by omega, by go_num, by rw [HS2.out]; exact ⟨ve, hv1.far (by simp only; omega) _, ownD_far (base := eb + 1) hv2 (by simp only; omega) _⟩, HSET.out, HWB2.out.far (by simp only; omega) _, (hbe.drew).setCell (Nat.le_refl _) _⟩
        case measure => simp [intOf]; omega
    · obtain rfl : i = 28 := by omega
      rw [wdZ_all] at hww
      go_wp2_with fail
      go_end0
      exact ⟨rfl, hee, hww, hwwb, hbe⟩
def ErQ (eb Bs : Nat) (E : List Int) (w : World) (e : Ending) (w' : World) : Prop := e = .returned (.tuple #[]) ∧ (∃ ve, Bx w' eb 53 [ve] ∧ w'.ownsRow Bs 3 1 ve E.length (is E)) ∧ Below eb w w' ∧ Bs ≤ w'.heap.size ∧ ∀ k, k < Bs → k ≠ eb → w'.heap[k]? = w.heap[k]?
set_option maxRecDepth 100000 in
set_option maxHeartbeats 1000000 in
theorem dec2_any (i x : Int) (eb Bs : Nat) (E : List Int) (w : World) (hlB : eb < Bs) (hB : Bs ≤ w.heap.size) (he : ∃ ve, Bx w eb 53 [ve] ∧ w.ownsRow Bs 3 1 ve E.length (is E)) (hE : E.length ≤ 1000) :
    Calls Tryz.prog 91 #[.int .i64 i, .int .i64 x, .pointer (some ⟨eb, 0, none⟩)] w (ErQ eb Bs (E ++ [i]) w) := by
  obtain ⟨ve, hbx, hoe⟩ := he
  have hc0 := hbx.cell (i := 0) rfl
  have hlt := hbx.lt
  have hoa := ownD_keep hoe ((Below.refl w.heap.size w).alloc (Nat.le_refl _) (.cells #[.int .i64 i] 3))
  have hba := (Below.refl eb w).alloc (Nat.le_of_lt hlt) (.cells #[.int .i64 i] 3)
  have hbxa := hbx.alloc (.cells #[.int .i64 i] 3)
  have hbas : Bs ≤ (w.alloc (.cells #[.int .i64 i] 3)).heap.size := by simp; omega
  have hbk := (Below.refl w.heap.size w).alloc (Nat.le_refl _) (.cells #[.int .i64 i] 3)
  have HBX := Lib.hid hbxa
  have HBK := Lib.hid hbk
  clear hbx hoe hbxa hbk
  go_enter Tryz.func91, Tryz.ntmps91
  go_wp2_with (at_builtin; refine wpList_ap1 rfl _ _ rfl Tryz.underlying53 Tryz.infoInt9 rfl hoa rfl (g := w.heap.size) (y := .int .i64 i) rfl (by simp) rfl (by unfold maxLen; omega) (by omega) hbas ?_; intro v7 w7 hown7 hgr7 hno7; obtain ⟨a7, c7, rfl⟩ := ownD_form hown7; have hbx7 := bx_off HBX.out hgr7 (fun h => by have := ownD_block hoa eb h; omega); have hb7 := hba.grown hgr7 (by omega) (fun q hq => by have := ownD_block hoa q hq; omega); have hq7 := (Below.refl Bs _).grown hgr7 hbas (ownD_block hoa); have HQ7 := Lib.hid hq7; have hc7 := hbx7.cell (i := 0) rfl; have hf7 := hbx7.free 0; clear hoa hba hbas hgr7 hno7 hc0 hq7)
  go_end0
  refine ⟨rfl, ⟨_, hbx7.set 0 _, by rw [is_append, List.length_append]; exact ownD_far hown7 (by simp only; omega) _⟩, hb7.setCell (Nat.le_refl _) _, ?_, fun k hk hne => ?_⟩
  · have h1 := HQ7.out.size
    have h2 := HBK.out.size
    simp only [World.size_setCell]
    omega
  · rw [Below.heap_setCell _ _ _ _ (by simp only; exact hne), HQ7.out.block k hk]
    exact HBK.out.block k (by omega)
theorem upI_succ (n : Nat) : upI (n + 1) = upI n ++ [(n : Int)] := by simp [upI, List.range_succ]
theorem upI_length (n : Nat) : (upI n).length = n := by simp [upI]
set_option maxRecDepth 100000 in
set_option maxHeartbeats 1000000 in
theorem collect_all (f eb Bs : Nat) (w : World) (hf : f ≤ 784) (hlB : eb < Bs) (hB : Bs ≤ w.heap.size) (he : ∃ ve, Bx w eb 53 [ve] ∧ w.ownsRow Bs 3 1 ve ([] : List Int).length (is [])) :
    Calls Tryz.prog 86 #[.int .i64 f, .func (.func 91) #[] #[.pointer (some ⟨eb, 0, none⟩)]] w (ErQ eb Bs (upI 28) w) := by
  have HE := Lib.hid he
  clear he
  go_enter Tryz.func86, Tryz.ntmps86
  go_wp2_with fail
  go_loopw [5] (fun vi wr => ∃ i : Nat, i ≤ 28 ∧ vi = .int .i64 i ∧ Hid (∃ ve, Bx wr eb 53 [ve] ∧ wr.ownsRow Bs 3 1 ve (upI i).length (is (upI i))) ∧ Below eb w wr ∧ Bs ≤ wr.heap.size ∧ Hid (∀ k, k < Bs → k ≠ eb → wr.heap[k]? = w.heap[k]?)) (fun vi _ => 28 - (intOf vi).toNat)
  case atStart => exact ⟨0, by omega, rfl, HE, Below.refl _ _, hB, Lib.hid fun k _ _ => rfl⟩
  case round =>
    obtain ⟨i, hi, rfl, HEE, hbe, hBr, HKK⟩ := hrel
    by_cases hit : i < 28
    · have hit' : (i : Int) < 28 := by omega
      have HS := Lib.hid (upI_succ i)
      have hul := upI_length i
      have HK := Lib.hid (fun x => dec2_any i x eb Bs (upI i) wr hlB hBr HEE.out (by omega))
      clear hul
      go_wp2_with fail
      refine (HK.out _).mono ?_
      rintro e w1 ⟨rfl, he1, hb1, hB1, hk1⟩
      have HE1 := Lib.hid he1
      have HK1 := Lib.hid hk1
      clear he1 hk1
      go_wp2_with fail
      go_roundw
      case rel => exact ⟨i + 1, by omega, by go_num, by rw [HS.out]; exact HE1, hbe.trans hb1, hB1, Lib.hid fun k hk hne => (HK1.out k hk hne).trans (HKK.out k hk hne)⟩
      case measure => simp [intOf]; omega
    · obtain rfl : i = 28 := by omega
      have HZ : Hid (ErQ eb Bs (upI 28) w (.returned (.tuple #[])) wr) := Lib.hid ⟨rfl, HEE.out, hbe, hBr, HKK.out⟩
      go_wp2_with fail
      go_end0
      exact HZ.out
end Go.Proofs.YtflmjdjkfognjaaGreat.C9
