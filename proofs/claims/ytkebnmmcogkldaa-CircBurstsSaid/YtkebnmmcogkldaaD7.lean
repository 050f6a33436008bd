/- Chapter 9: the law CircBursts. -/
import Derived.Test.YtkebnmmcogkldaaD6
namespace Go.Proofs.Ytkebnmmcogkldaa.C9
open Go.ChangeShapes Go.WideShapes Go.RowKit Go.Deep W8
set_option linter.unusedVariables false

/-- numbers of 16 bits that came in -/
def u16D (x : Int) : List Value := [.int .u16 x]
def InU16 (x : Int) : Prop := 0 ≤ x ∧ x ≤ 65535
def CameU9 (w : World) (v : Value) (l : List Int) : Prop := RdD 0 u16D 1 w v l ∧ (∀ i, i < l.length → InU16 (atD 0 l i)) ∧ l.length ≤ 9223372036854775807
theorem Try.sizeU9 : (Try.prog.info? 31).map (·.size) = some 1 := by kernel_rfl
section
variable {H : Type} {enc : TypeId × Value → H} {w : World} {base b0 : Nat} {sp : Nat → Bool} {held : Bool}
theorem Try.cellsU9 : Try.prog.cellsOf 31 = 1 := by kernel_rfl
set_option maxRecDepth 100000 in
theorem open_cu9 {v : Value} {d : DataW H} {ps : List MemPlace} {r : Reach} (hval : Value.okWide Try.prog w r b0 32 v) (hd : DataW.Trod enc Try.prog w base sp held 32 v d ps) : ∃ l, CameU9 w v l := by
  obtain ⟨a, len, cap, rfl⟩ := okWide_slice Try.underlying32 hval
  obtain ⟨fuel, hf⟩ := hd
  obtain ⟨l, h1, h2, h3⟩ := open_rdS (0 : Int) u16D InU16 Try.underlying32 Try.cellsU9 (by omega) (fun n cs x h => by
    obtain ⟨a, h1, _, h2⟩ := DataW.trod_int Try.underlying31 h
    exact ⟨a, h1, by simpa [Lit.wf, IntKind.min, IntKind.max, IntKind.signed, IntKind.bits, InU16] using h2⟩) (by simpa [Value.cells] using hf)
  exact ⟨l, h1, h3, h2⟩
end
/-- the scratches of one frame each -/
def ones (n : Nat) (l : List Int) (k : Nat) : List Sc := (l.take (min k 4)).map fun x => ⟨x % ((n : Int) + 108), 1⟩
theorem ones_length (n : Nat) (l : List Int) (k : Nat) : (ones n l k).length ≤ 4 := by unfold ones; rw [List.length_map, List.length_take]; omega
theorem ones_lt (n : Nat) (l : List Int) {k : Nat} (hk : k < 4) (h : k < l.length) : ones n l (k + 1) = ones n l k ++ [⟨atD 0 l k % ((n : Int) + 108), 1⟩] := by
  unfold ones
  rw [show min (k + 1) 4 = k + 1 from by omega, show min k 4 = k from by omega, List.take_succ_eq_append_getElem h, List.map_append]
  simp [atD, h]
theorem ones_ge (n : Nat) (l : List Int) {k : Nat} (hk : 4 ≤ k) : ones n l (k + 1) = ones n l k := by
  unfold ones
  rw [show min (k + 1) 4 = 4 from by omega, show min k 4 = 4 from by omega]
theorem ones_one (n : Nat) (l : List Int) (k : Nat) : ∀ s ∈ ones n l k, s.c = 1 ∧ 0 ≤ s.f ∧ s.f < (n : Int) + 108 := by
  intro s hs
  simp only [ones, List.mem_map] at hs
  obtain ⟨x, _, rfl⟩ := hs
  exact ⟨rfl, Int.emod_nonneg _ (by omega), Int.emod_lt_of_pos _ (by omega)⟩
theorem lostR_none {n : Nat} {l : List Sc} (h1 : 1 ≤ n) (h2 : n ≤ 401408) (hf : ∀ s ∈ l, fitB (n + 108) s = true) (hl : lostN l n = []) : lostR n l = ([], 0) := by
  unfold lostR
  rw [if_neg (by omega), Int.toNat_natCast, if_neg, hl]
  have : fitA (n + 108) l = true := by unfold fitA; rw [List.all_eq_true]; exact hf
  rw [this]; decide
theorem wf_of {l : List Sc} (h : ∀ s ∈ l, Wf s) : ∀ i, i < l.length → Wf (scA l i) := fun i hi => by rw [scA_get hi]; exact h _ (List.getElem_mem hi)
theorem scc_one (s : Sc) : ∀ u ∈ scc s, u.oneCell' = true := fun u hu => by
  simp only [scc, List.mem_cons, List.not_mem_nil, or_false] at hu
  rcases hu with rfl | rfl <;> rfl
theorem Try.infoSc9 : (Try.prog.info? 34).map (fun i => (i.zero, i.size, i.bytes)) = some (some (.agg #[.int .i64 0, .int .i64 0]), 2, 16) := by kernel_rfl
set_option maxRecDepth 100000 in
set_option maxHeartbeats 4000000 in
theorem bursts_law (w : World) (d : Int) (hd : (Lit.int .u16 d).wf = true) (x : Int) (hx : (Lit.int .u16 x).wf = true) (y : Int) (hy : (Lit.int .u8 y).wf = true) (v : Value) (l : List Int) (hv : CameU9 w v l) :
    Calls Try.prog 4 #[.int .u16 d, .int .u16 x, .int .u8 y, v] w fun e w' => e = .returned (.bool true) ∧ Below w.heap.size w w' := by
  have hd' : 0 ≤ d ∧ d ≤ 65535 := by simpa [Lit.wf, IntKind.min, IntKind.max, IntKind.signed, IntKind.bits] using hd
  have hx' : 0 ≤ x ∧ x ≤ 65535 := by simpa [Lit.wf, IntKind.min, IntKind.max, IntKind.signed, IntKind.bits] using hx
  have hy' : 0 ≤ y ∧ y ≤ 255 := by simpa [Lit.wf, IntKind.min, IntKind.max, IntKind.signed, IntKind.bits] using hy
  obtain ⟨d1, d2⟩ := hd'
  obtain ⟨x1, x2⟩ := hx'
  obtain ⟨y1, y2⟩ := hy'
  obtain ⟨hr, hwf, hl⟩ := hv
  obtain ⟨a, c, rfl, hac⟩ := RdD.form hr
  obtain ⟨b0, off, hcell⟩ := RdD.at hr
  have HC := Lib.hid hcell
  have HW := Lib.hid hwf
  clear hd hx hy hcell hwf hr
  go_enter Try.func4, Try.ntmps4
  go_wp2_with fail
  refine (awake9_any _).mono ?_
  rintro e w1 ⟨rfl, hb1⟩
  go_upto_region 5 with (fail)
  obtain ⟨n, hn⟩ : ∃ n : Nat, 1 + d % 784 = n := ⟨(1 + d % 784).toNat, by omega⟩
  obtain ⟨k, hk⟩ : ∃ k : Nat, 1 + y % 16 = k := ⟨(1 + y % 16).toNat, by omega⟩
  have n1 : 1 ≤ n := by omega
  have n2 : n ≤ 784 := by omega
  have k1 : 1 ≤ k := by omega
  have k2 : k ≤ 16 := by omega
  rw [hn, hk]
  clear hn hk
  obtain ⟨F, hF⟩ : ∃ F : Int, x % ((n : Int) + 108 - (k : Int) + 1) = F := ⟨_, rfl⟩
  have f1 : 0 ≤ F := by rw [← hF]; exact Int.emod_nonneg _ (by omega)
  have f2 : F < (n : Int) + 108 - (k : Int) + 1 := by rw [← hF]; exact Int.emod_lt_of_pos _ (by omega)
  have HF := Lib.hid hF
  clear hF
  have HL1 := Lib.hid (fun W v (hv : RdSc W v [⟨F, k⟩]) => (plost_any n v [⟨F, k⟩] W ⟨hv, wf_of (fun s hs => by
    simp only [List.mem_singleton] at hs; subst hs
    exact ⟨⟨by simp only; omega, by simp only; omega⟩, by simp only; omega, by simp only; omega⟩), by simp⟩))
  rw [lostR_none n1 (by omega) (fun s hs => by simp only [List.mem_singleton] at hs; subst hs; exact (fitB_iff _ _).2 ⟨by simp only; omega, by simp only; omega, by simp only; omega, by simp only; omega⟩) (lost_burst _ (by simp only; omega) n)] at HL1
  have HL2 := Lib.hid (fun W v (hv : RdSc W v (ones n l l.length)) => (plost_any n v (ones n l l.length) W ⟨hv, wf_of (fun s hs => by
    obtain ⟨h1, h2, h3⟩ := ones_one n l _ s hs
    exact ⟨⟨by omega, by omega⟩, by omega, by omega⟩), by have := ones_length n l l.length; omega⟩))
  rw [lostR_none n1 (by omega) (fun s hs => by obtain ⟨h1, h2, h3⟩ := ones_one n l _ s hs; exact (fitB_iff _ _).2 ⟨by omega, by omega, by omega, by omega⟩) (lost_few _ (fun s hs => (ones_one n l _ s hs).1) (ones_length n l _) n)] at HL2
  go_wp2_with fail
  rw [HF.out]
  refine (HL1.out _ _ (RdD.one' (by omega) scc_len _ _ _ rfl)).mono ?_
  rintro e w2 ⟨v2, rfl, ho2, hb2⟩
  obtain ⟨a2, c2, rfl⟩ := ownD_form ho2
  have hbw := (hb1.alloc hb1.size _).trans (hb2.mono (hb1.alloc hb1.size _).size)
  have hbs := hbw.size
  clear ho2 hb1 hb2 HF f1 f2
  simp only [List.length_nil]
  go_wp2_with fail
  go_loopw [13, 46] (fun vo vi wr => ∃ i : Nat, i ≤ l.length ∧ vi = .int .i64 i ∧ wr.ownsRow w.heap.size 34 2 vo (ones n l i).length (flD scc (ones n l i)) ∧ Below w.heap.size w wr) (fun _ vi _ => l.length - (intOf vi).toNat)
  case atStart => exact ⟨0, by omega, rfl, ⟨by simp [ones, flD], .inl ⟨rfl, by simp [ones]⟩⟩, hbw⟩
  case round =>
    clear hbw hbs
    obtain ⟨i, hi, rfl, ho, hb⟩ := hrel
    obtain ⟨wo, rfl⟩ : ∃ wo : World, wo = wr := ⟨_, rfl⟩
    have hbs := hb.size
    by_cases hlt : i < l.length
    · obtain ⟨ha, hrange⟩ := HC.out i hlt
      have hq := HW.out i hlt
      have HON := Lib.hid (fun (h : i < 4) => ones_lt n l h hlt)
      have HGE := Lib.hid (fun (h : 4 ≤ i) => ones_ge n l h)
      generalize atD 0 l i = z at *
      obtain ⟨z1, z2⟩ := hq
      have hcl : wo.cell? ⟨b0, off + i * 1, none⟩ = some (.int .u16 z) := (hb.cell (p := ⟨b0, off + i * 1, none⟩) (World.block_lt_of_cell? w _ (hrange 0 _ rfl))).trans (hrange 0 _ rfl)
      have hix := fun w' => run_idxS Try.underlying32 Try.sizeU9 (cap := c) ha hlt _ rfl w'
      simp only [Nat.mul_one] at hix hcl
      have Ha := Lib.hid ha
      clear ha hrange
      have hol := ones_length n l i
      by_cases h4 : i < 4
      · have h4' : (i : Int) < 4 := by omega
        have HS := Lib.hid (HON.out h4)
        generalize ones n l i = L at ho HS hol
        obtain ⟨ao, co, rfl⟩ := ownD_form ho
        obtain ⟨M, hM⟩ : ∃ M : Int, z % ((n : Int) + 108) = M := ⟨_, rfl⟩
        rw [hM] at HS
        have HM := Lib.hid hM
        clear hM HON HGE
        have hoa := ownD_keep ho ((Below.refl wo.heap.size wo).alloc (Nat.le_refl _) (.cells #[.int .i64 M, .int .i64 1] 34))
        have hba := hb.alloc hbs (.cells #[.int .i64 M, .int .i64 1] 34)
        have hbx := Bx.new wo 34 [.int .i64 M, .int .i64 1]
        have hbas := hba.size
        have HBX := Lib.hid hbx
        clear ho hb hbx
        go_wp2_with ((try rw [HM.out]); at_builtin; refine wpList_apx rfl _ _ rfl Try.underlying22 Try.infoSc9 rfl (by omega) hoa rfl (a := ⟨wo.heap.size, 0, none⟩) (m := 1) (news := [.int .i64 M, .int .i64 1]) rfl (by omega) rfl (fun j u hu => by rw [Addr.add_lit, Nat.zero_add]; exact HBX.out.cell hu) (scc_one ⟨M, 1⟩) (by unfold maxLen; omega) (by omega) hbas ?_; intro v7 w7 hown7 hgr7 hno7)
        have hb7 := hba.grown hgr7 hbas (ownD_block hoa)
        clear hba hoa hgr7
        go_roundw
        case rel => exact ⟨i + 1, by omega, by go_num, by rw [HS.out, flD_append, flD_single, List.length_append]; exact hown7, hb7⟩
        case measure => simp [intOf]; omega
      · have h4' : ¬ (i : Int) < 4 := by omega
        have HS := Lib.hid (HGE.out (by omega))
        clear HON HGE
        go_wp2_with fail
        go_roundw
        case rel => exact ⟨i + 1, by omega, by go_num, by rw [HS.out]; exact ho, hb⟩
        case measure => simp [intOf]; omega
    · obtain rfl : i = l.length := by omega
      have hrd := RdD.ofOwn (d := scz) scc_len ho
      obtain ⟨ao, co, rfl⟩ := ownD_form ho
      clear ho
      go_wp2_with fail
      refine (HL2.out _ _ hrd).mono ?_
      rintro e w5 ⟨v5, rfl, ho5, hb5⟩
      obtain ⟨a5, c5, rfl⟩ := ownD_form ho5
      simp only [List.length_nil]
      have hbb := hb.trans (hb5.mono hbs)
      clear ho5 hb5 hrd hb
      go_wp2_with fail
      go_ret
      exact ⟨rfl, hbb⟩
end Go.Proofs.Ytkebnmmcogkldaa.C9
