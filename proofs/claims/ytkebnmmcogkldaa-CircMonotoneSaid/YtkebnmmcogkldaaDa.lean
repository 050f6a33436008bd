/- Chapter 9: Scratch of the reference and Strings walked. -/
import Derived.Test.YtkebnmmcogkldaaD9
namespace Go.Proofs.Ytkebnmmcogkldaa.C9
open Go.RowKit W8
set_option linter.unusedVariables false

/-- the first 'k' of the frames, the covered ones taken out -/
def scK (F : List (List UInt8)) (l : List Sc) (k : Nat) : List (List UInt8) := (List.range k).map fun g => if gon l g = true then [] else frA F g
theorem scK_length (F : List (List UInt8)) (l : List Sc) (k : Nat) : (scK F l k).length = k := by simp [scK]
theorem scK_succ (F : List (List UInt8)) (l : List Sc) (k : Nat) : scK F l (k + 1) = scK F l k ++ [if gon l k = true then [] else frA F k] := by simp [scK, List.range_succ]
set_option maxRecDepth 100000 in
set_option maxHeartbeats 4000000 in
theorem rscratch_any (va : Value) (F : List (List UInt8)) (v : Value) (l : List Sc) (w : World) (hF : RdStr w va F) (hn : F.length ≤ 1000000) (h : CameSc w v l) :
    Calls Try.prog 17 #[va, v] w (EncP (scrR F l) w) := by
  have HFI := Lib.hid ((rfits_any v l F.length w h.1 h.2.1 h.2.2 (by omega)))
  have HCV := Lib.hid (fun (hf : fitA F.length l = true) W hW => covered_any v l F.length W hW h.2.1 h.2.2 (by omega) hf)
  have HR := Lib.hid h.1
  obtain ⟨aF, cF, rfl, _⟩ := RdD.form hF
  obtain ⟨a, c, rfl, hac⟩ := RdD.form h.1
  obtain ⟨bf, of, hcf⟩ := RdD.at hF
  have HC := Lib.hid hcf
  obtain ⟨q, hq⟩ : ∃ q, q = fitA F.length l := ⟨_, rfl⟩
  rw [← hq] at HFI HCV
  clear hF h hcf
  cases q with
  | false =>
    have e : scrR F l = ([], 1) := by unfold scrR; rw [← hq, if_pos rfl]
    rw [e]
    clear hq e
    go_enter Try.func17, Try.ntmps17
    go_wp2_with fail
    refine HFI.out.mono ?_
    rintro e w1 ⟨rfl, hb1⟩
    go_wp2_with fail
    go_ret2
    exact EncP.none 1 rfl hb1
  | true =>
    have e : scrR F l = (scK F l F.length, 0) := by unfold scrR; rw [← hq, if_neg (by decide)]; rfl
    rw [e]
    obtain ⟨N, hN⟩ : ∃ N, N = F.length := ⟨_, rfl⟩
    rw [← hN] at HFI HCV HC hn ⊢
    have HCV2 := Lib.hid (HCV.out rfl)
    clear hq e hN HCV
    go_enter Try.func17, Try.ntmps17
    go_wp2_with fail
    refine HFI.out.mono ?_
    rintro e w1 ⟨rfl, hb1⟩
    have hr1 := RdD.keep HR.out hb1
    go_wp2_with fail
    refine (HCV2.out _ hr1).mono ?_
    rintro e w2 ⟨rfl, hbx, hb2⟩
    obtain ⟨g, hg⟩ : ∃ g, g = w1.heap.size := ⟨_, rfl⟩
    have hbw := hb1.trans (hb2.mono hb1.size)
    have hgw : w.heap.size ≤ g := by have := hb1.size; omega
    rw [← hg] at hbx
    simp only [← hg]
    have hgl := hbx.lt
    clear hb1 hb2 hr1 hg
    have ho0 : (w2.alloc (.cells #[] 9)).ownsRow (g + 1) 9 1 (.slice (some ⟨w2.heap.size, 0, none⟩) 0 0) 0 (flD ssD (scK F l 0)) := World.ownsRow_lit w2 #[] 0 hgl (by simp) (by simp)
    have hb0 := hbw.alloc hbw.size (.cells #[] 9)
    have hbx0 := hbx.alloc (.cells #[] 9)
    clear hbx hbw
    go_wp2_with fail
    go_loopw [7, 8] (fun vo vk wr => ∃ k : Nat, k ≤ N ∧ vk = .int .i64 k ∧ wr.ownsRow (g + 1) 9 1 vo (scK F l k).length (flD ssD (scK F l k)) ∧ Bx wr g 4 (bb (mk N (gon l))) ∧ Below w.heap.size w wr) (fun _ vk _ => N - (intOf vk).toNat)
    case atStart => exact ⟨0, by omega, rfl, ho0, hbx0, hb0⟩
    case round =>
      clear ho0 hbx0 hb0
      obtain ⟨k, hk, rfl, ho, hbx, hb⟩ := hrel
      obtain ⟨wo, rfl⟩ : ∃ wo : World, wo = wr := ⟨_, rfl⟩
      have hbs := hb.size
      have hgl2 := hbx.lt
      by_cases hlt : k < N
      · have hlt' : (k : Int) < (N : Int) := by omega
        obtain ⟨ha, hrange⟩ := HC.out k hlt
        have HS := Lib.hid (scK_succ F l k)
        change w.rangeAt bf (of + k * 1) (ssD (frA F k)) at hrange
        have hcl : wo.cell? ⟨bf, of + k * 1, none⟩ = some (.string (str (frA F k))) := (hb.cell (p := ⟨bf, of + k * 1, none⟩) (World.block_lt_of_cell? w _ (hrange 0 _ rfl))).trans (hrange 0 _ rfl)
        have hix := fun w' => run_idxS Try.underlying36 (by kernel_rfl : (Try.prog.info? 9).map (·.size) = some 1) (cap := cF) ha hlt (k : Int) rfl w'
        have hix2 := fun w' => run_idxS Try.underlying64 Try.sizeBool9 (a := some ⟨g, 0, none⟩) (cap := N) rfl hlt (k : Int) rfl w'
        simp only [Nat.mul_one, Nat.zero_add] at hix hix2 hcl
        have hbc : wo.cell? ⟨g, k, none⟩ = some (.bool (gon l k)) := hbx.cell (by rw [bb_get]; exact mk_get _ hlt)
        have hll := scK_length F l k
        generalize scK F l k = L at ho HS hll
        generalize gon l k = q at hbc HS
        generalize frA F k = y at hcl HS
        have Ha := Lib.hid ha
        have HOO := Lib.hid ho
        have HBX := Lib.hid hbx
        clear ha hrange ho hbx
        obtain ⟨x, hx⟩ : ∃ x, x = if q = true then [] else y := ⟨_, rfl⟩
        rw [← hx] at HS
        have HX := Lib.hid hx
        have hA := (Below.refl wo.heap.size wo).alloc (Nat.le_refl _) (.cells #[.string (str x)] 9)
        have hoa := ownD_keep HOO.out hA
        have hba := hb.alloc hbs (.cells #[.string (str x)] 9)
        have hbas : g + 1 ≤ (wo.alloc (.cells #[.string (str x)] 9)).heap.size := by simp; omega
        have HA := Lib.hid hA
        clear hx hA
        cases q with
        | false =>
          obtain rfl : x = y := by have := HX.out; simpa using this
          clear HX
          go_wp2_with (at_builtin; refine wpList_ap1 rfl _ _ rfl Try.underlying36 Try.infoStr9 rfl hoa rfl (g := wo.heap.size) (y := .string (str x)) rfl (by simp) rfl (by unfold maxLen; omega) (by omega) hbas ?_; intro v8 w8 hown8 hgr8 hno8)
          have hb8 := hba.grown hgr8 hba.size (fun q hq => by have := ownD_block hoa q hq; omega)
          have hx8 := bx_off (HBX.out.call HA.out) hgr8 (fun h => by have := ownD_block hoa g h; omega)
          clear hba hoa hgr8
          go_roundw
          case rel => exact ⟨k + 1, by omega, by go_num, by rw [HS.out, ss_append, List.length_append]; exact hown8, hx8, hb8⟩
          case measure => simp [intOf]; omega
        | true =>
          obtain rfl : x = [] := by have := HX.out; simpa using this
          clear HX
          change Hid (Below wo.heap.size wo (wo.alloc (.cells #[.string ⟨#[]⟩] 9))) at HA
          change (wo.alloc (.cells #[.string ⟨#[]⟩] 9)).ownsRow _ _ _ _ _ _ at hoa
          change Below w.heap.size w (wo.alloc (.cells #[.string ⟨#[]⟩] 9)) at hba
          change g + 1 ≤ (wo.alloc (.cells #[.string ⟨#[]⟩] 9)).heap.size at hbas
          go_wp2_with (at_builtin; refine wpList_ap1 rfl _ _ rfl Try.underlying36 Try.infoStr9 rfl hoa rfl (g := wo.heap.size) (y := .string ⟨#[]⟩) rfl (by simp) rfl (by unfold maxLen; omega) (by omega) hbas ?_; intro v8 w8 hown8 hgr8 hno8)
          have hb8 := hba.grown hgr8 hba.size (fun q hq => by have := ownD_block hoa q hq; omega)
          have hx8 := bx_off (HBX.out.call HA.out) hgr8 (fun h => by have := ownD_block hoa g h; omega)
          clear hba hoa hgr8
          go_roundw
          case rel => exact ⟨k + 1, by omega, by go_num, by rw [HS.out, ss_append, List.length_append]; exact hown8, hx8, hb8⟩
          case measure => simp [intOf]; omega
      · obtain rfl : k = N := by omega
        obtain ⟨ao, co, rfl⟩ := ownD_form ho
        have HOO := Lib.hid ho
        clear ho
        go_wp2_with fail
        go_ret2
        exact ⟨_, rfl, own_mono HOO.out (by omega), hb⟩
theorem bytes_beq (s : ByteArray) : (s.toList == s.toList) = true := by simp
set_option maxRecDepth 100000 in
set_option maxHeartbeats 2000000 in
/-- Strings of two lists that are the same -/
theorem strings_same (v1 v2 : Value) (l : List (List UInt8)) (w : World) (h1 : RdStr w v1 l) (h2 : RdStr w v2 l) (hl : l.length ≤ 9223372036854775807) :
    Calls Try.prog 20 #[v1, v2] w fun e w' => e = .returned (.bool true) ∧ Below w.heap.size w w' := by
  obtain ⟨a1, c1, rfl, _⟩ := RdD.form h1
  obtain ⟨a2, c2, rfl, _⟩ := RdD.form h2
  obtain ⟨b1, o1, k1⟩ := RdD.at h1
  obtain ⟨b2, o2, k2⟩ := RdD.at h2
  have H1 := Lib.hid k1
  have H2 := Lib.hid k2
  clear h1 h2 k1 k2
  go_enter Try.func20, Try.ntmps20
  go_wp2_with fail
  go_loopw [5] (fun vi wr => ∃ i : Nat, i ≤ l.length ∧ vi = .int .i64 i ∧ Below w.heap.size w wr) (fun vi _ => l.length - (intOf vi).toNat)
  case atStart => exact ⟨0, by omega, rfl, Below.refl _ _⟩
  case round =>
    obtain ⟨i, hi, rfl, hb⟩ := hrel
    by_cases hlt : i < l.length
    · obtain ⟨ha1, hr1⟩ := H1.out i hlt
      obtain ⟨ha2, hr2⟩ := H2.out i hlt
      have hx1 := fun w' => run_idxS Try.underlying36 (by kernel_rfl : (Try.prog.info? 9).map (·.size) = some 1) (cap := c1) ha1 hlt (i : Int) rfl w'
      have hx2 := fun w' => run_idxS Try.underlying36 (by kernel_rfl : (Try.prog.info? 9).map (·.size) = some 1) (cap := c2) ha2 hlt (i : Int) rfl w'
      have hcl1 : wr.cell? ⟨b1, o1 + i * 1, none⟩ = some (.string (str (atD [] l i))) := (hb.cell (p := ⟨b1, o1 + i * 1, none⟩) (World.block_lt_of_cell? w _ (hr1 0 _ rfl))).trans (hr1 0 _ rfl)
      have hcl2 : wr.cell? ⟨b2, o2 + i * 1, none⟩ = some (.string (str (atD [] l i))) := (hb.cell (p := ⟨b2, o2 + i * 1, none⟩) (World.block_lt_of_cell? w _ (hr2 0 _ rfl))).trans (hr2 0 _ rfl)
      simp only [Nat.mul_one] at hx1 hx2 hcl1 hcl2
      generalize str (atD [] l i) = s at hcl1 hcl2
      have HA1 := Lib.hid ha1
      have HA2 := Lib.hid ha2
      have hbb := bytes_beq s
      clear ha1 ha2 hr1 hr2
      go_wp2_with fail
      go_quiet (fail)
      go_wp2_with fail
      go_roundw
      case rel => exact ⟨i + 1, by omega, by go_num, Below.drewN hb _⟩
      case measure => simp [intOf]; omega
    · obtain rfl : i = l.length := by omega
      go_wp2_with fail
      go_ret
      exact ⟨rfl, hb⟩
end Go.Proofs.Ytkebnmmcogkldaa.C9
