/- Parts: XJe XJf XJg -/
import Derived.Test.YtflmjdjkfognjaaGreatTe34
import Derived.Test.YtflmjdjkfognjaaGreatTe41
import Derived.StillTailTactics
namespace Go.Proofs.YtflmjdjkfognjaaGreat.T7
open Go Go.RowKit C9 D12
set_option linter.unusedVariables false
theorem blk1 (x : Int) (W : World) : Calls Tryz.prog 130 #[.int .i64 x] W fun e w' => e = .returned (.bool (!decide (12 ≤ x))) ∧ W = w' := by
  go_enter Tryz.func130, Tryz.ntmps130
  go_wp2_with fail
  go_ret
  exact ⟨retB (by by_cases h : x < 12 <;> simp [h] <;> omega), rfl⟩
theorem own_free7 {w : World} {b e sz n g c : Nat} {xs : List Value} (h : w.ownsRow b e sz (.slice (some ⟨g, 0, none⟩) n c) n xs) (i : Nat) : w.frozen? ⟨g, i, none⟩ = false := by
  rcases h.2 with ⟨h', _⟩ | ⟨g', cap, cur, hv, _, hh, _⟩
  · simp at h'
  · simp only [Value.slice.injEq, Option.some.injEq, Addr.mk.injEq] at hv
    obtain ⟨⟨rfl, _⟩, _⟩ := hv
    exact frozen_of_row w g i _ _ hh
theorem own_set7 {w : World} {b e sz n : Nat} {v : Value} {xs : List Value} (h : w.ownsRow b e sz v n xs) {p : Addr} (hp : ∀ k, v.ownBlock = some k → k ≠ p.block) (u : Value) : (w.setCell p u).ownsRow b e sz v n xs := by
  refine ⟨h.1, ?_⟩
  rcases h.2 with h | ⟨g, cap, cur, rfl, hb, hh, rest⟩
  · exact .inl h
  · exact .inr ⟨g, cap, cur, rfl, hb, (Below.heap_setCell w p u g (hp g rfl)).trans hh, rest⟩
theorem own_off' {w w' : World} {b e sz n : Nat} {v : Value} {xs : List Value} {r : Option Nat} (h : w.ownsRow b e sz v n xs) (hg : w.grownBy w' r) (hr : ∀ k, v.ownBlock = some k → some k ≠ r) : w'.ownsRow b e sz v n xs := by
  refine ⟨h.1, ?_⟩
  rcases h.2 with h | ⟨g, cap, cur, rfl, hb, hh, rest⟩
  · exact .inl h
  · exact .inr ⟨g, cap, cur, rfl, hb, (hg.block g (Array.getElem?_eq_some_iff.1 hh).1 (hr g rfl)).trans hh, rest⟩
theorem delO (fi : Nat) (hfi : ∀ args W, (callFunc fi args).run Tryz.prog W = .ok (.enter fi args) W) (q : Int → Bool) (B : Nat) (v : Value) (l : List Int) (w : World) (hl : l.length ≤ 100000) (hb : ∀ x ∈ l, -9223372036854775808 ≤ x ∧ x ≤ 9223372036854775807)
    (hr : w.ownsRow B 3 1 v l.length (W8.is l)) (h : ∀ x W, Calls Tryz.prog fi #[.int .i64 x] W fun e w' => e = .returned (.bool (!q x)) ∧ W = w') :
    Calls Tryz.prog 16 #[v, .func (.func fi) #[] #[]] w fun e w' => ∃ v2, e = .returned v2 ∧ RdI w' v2 (keepF q l) ∧ w.grownBy w' v.ownBlock := by
  rcases hr.2 with ⟨rfl, h0⟩ | ⟨g, cap, cur, rfl, hB, hg, h1, h2, h3, h4⟩
  · have hl0 : l = [] := List.length_eq_zero_iff.1 h0
    subst hl0
    have hrd : RdI w (.slice none 0 0) [] := W8.rdI_own hr rfl (by simp) (by simp)
    have HI := Lib.hid (idxi7 fi hfi q _ [] w hrd h)
    have HRd := Lib.hid hrd
    clear hr hb hrd
    go_enter Tryz.func16, Tryz.ntmps16
    go_wp2_with fail
    refine HI.out.mono ?_
    rintro e w' ⟨r, rfl, (⟨rfl, hall⟩ | ⟨k, rfl, hk, hbefore, hno⟩), rfl⟩
    · go_wp2_with fail
      go_ret
      exact ⟨_, rfl, HRd.out, World.grownBy.refl _ _⟩
    · exact absurd hk (by simp)
  · exact (delf7 fi hfi q g cap l.length l w (W8.RowI.of_own hr).1 rfl hl hb h)
theorem run_idxO {w : World} {B : Nat} {v : Value} {l : List Int} {j : Nat} (hr : w.ownsRow B 3 1 v l.length (W8.is l)) (hj : j < l.length) :
    ∃ g c, v = .slice (some ⟨g, 0, none⟩) l.length c ∧ B ≤ g ∧ w.cell? ⟨g, j, none⟩ = some (.int .i64 (ixI l j)) := by
  obtain ⟨g, c, rfl, hB, hlt⟩ := ownD_addr hr (by omega)
  exact ⟨g, c, rfl, hB, (W8.RowI.of_own hr).1.cell j hj⟩
structure BlkAt (M : Med) (at_ : Nat) (lba : Int) (d : List UInt8) : Prop where
  lt : at_ < M.n
  dl : d.length = 2048
  h0 : -150 ≤ lba
  h1 : lba ≤ 449849
  st : (M.sec at_).st = 1
  raw : (M.sec at_).raw = rec lba d
  ch : ∀ k, k < 2352 → (M.sec at_).ch k = 0
  peel : ∃ i, W8.keepL (W8.itP (inn (M.gone at_)) i) (inn (M.gone at_)) = []
set_option maxRecDepth 100000 in
set_option maxHeartbeats 8000000 in
theorem blk_good {p pm at_ N : Nat} {lba : Int} {d : List UInt8} {w : World} {M : Med} {X R : Nat → Prop} (hm : MedW w pm M X R) (ho : M.Ok N) (hc : w.cell? ⟨p, 2, none⟩ = some (.pointer (some ⟨pm, 0, none⟩)))
    (hP : Calls Tryz.prog 66 #[.pointer (some ⟨p, 0, none⟩), .int .i64 lba] w fun e w' => e = .returned (.int .i64 (at_ : Nat)) ∧ Below w.heap.size w w') (hb : BlkAt M at_ lba d) :
    Calls Tryz.prog 68 #[.pointer (some ⟨p, 0, none⟩), .int .i64 lba] w fun e w' => e = .returned (.string (str d)) ∧ Below w.heap.size w w' := by
  obtain ⟨hlt, hd, h0, h1, hst, hraw, hch, hpl⟩ := hb
  have hn := ho.n.2
  have hpl2 : p < w.heap.size := World.block_lt_of_cell? w _ hc
  have hsr : M.stateR (at_ : Nat) = (1, 0) := by
    unfold Med.stateR; rw [if_pos (by omega), Int.toNat_natCast, hst]; rfl
  have hrr : M.readR (at_ : Nat) = (M.out at_, M.gone at_, 0) := by
    unfold Med.readR; rw [if_pos (by omega), Int.toNat_natCast, hst]; rfl
  have HST : Hid (∀ W, Below w.heap.size w W → Calls Tryz.prog 128 #[.pointer (some ⟨pm, 0, none⟩), .int .i64 (at_ : Nat)] W fun e w' => e = .returned (.tuple #[.int .i64 1, .int .i64 0]) ∧ Below W.heap.size W w') := Lib.hid fun W hW => by
    have := state12 (hm.below hW) hn (at_ : Nat)
    rw [hsr] at this
    exact this
  have HRD : Hid (∀ W, Below w.heap.size w W → Calls Tryz.prog 129 #[.pointer (some ⟨pm, 0, none⟩), .int .i64 (at_ : Nat)] W (ReadP (M.out at_, M.gone at_, 0) W)) := Lib.hid fun W hW => by
    have := read12 (hm.below hW) ho (at_ : Nat)
    rw [hrr] at this
    exact this
  have HCL : Hid (∀ W, Below w.heap.size w W → Calls Tryz.prog 131 #[.pointer (some ⟨pm, 0, none⟩), .int .i64 (at_ : Nat)] W (CleanP (decide (M.gone at_ = [])) W)) := Lib.hid fun W hW => by
    have := clean12 (hm.below hW) ho (at_ : Nat)
    have e : M.cleanR (at_ : Nat) = decide (M.gone at_ = []) := by
      by_cases hg : M.gone at_ = []
      · rw [decide_eq_true hg]
        exact cleanR_true ⟨by omega, by rw [Int.toNat_natCast]; exact ⟨hst, hg, hch⟩⟩
      · rw [decide_eq_false hg]
        refine cleanR_false fun h => hg ?_
        have := h.2.2.1
        rwa [Int.toNat_natCast] at this
    rw [e] at this
    exact this
  have HSC := Lib.hid (fun W => scramble_any (M.out at_) (out_length M at_) W)
  have HBU : Hid (∀ W, Calls Tryz.prog 76 #[.agg #[.int .i64 0, .int .i64 0, .int .i64 0, .int .i64 0, .int .i64 0, .int .i64 0, .string (str zD)]] W fun e w' => e = .returned (.tuple #[.string (str (bld 0 zD)), .int .i64 0]) ∧ Below W.heap.size W w') := Lib.hid fun W => build_0 0 zD W (by decide) (by decide) zD_len
  have HCU := Lib.hid (fun W => sub_upto (P := Tryz.prog) Tryz.underlying9 (bld 0 zD) 12 (by rw [bld_len 0 zD_len]; decide) 12 rfl W)
  have h12 : (bld 0 zD).take 12 = syL := by
    have := (Good.sync (s := bld 0 zD) ⟨bld_len 0 zD_len, zD_len, by decide, by decide, rfl⟩)
    exact this
  rw [h12] at HCU
  have hinv := prep_inv (lba := lba) h0 h1 hd hraw hch
  have hgood : W8.Good (par lba d) 12 := W8.enc_good (bld_len lba hd) (by decide)
  have hers := inn_ers M at_
  have hinl : (inn (M.gone at_)).length ≤ 2352 := Nat.le_trans (inn_sub _).length_le (by unfold Med.gone; rw [List.length_map]; exact Nat.le_trans (List.length_filter_le _ _) (by simp))
  have HDE : Hid (∀ W ev, RdI W ev (inn (M.gone at_)) → Calls Tryz.prog 132 #[.string (str (prepB M at_)), .int .i64 0, ev] W fun e w' => ∃ k : Int, e = .returned (.tuple #[.string (str (par lba d)), .int .i64 k, .int .i64 0]) ∧ Below W.heap.size W w') := Lib.hid fun W ev hv => by
    obtain ⟨i, hi⟩ := hpl
    refine (W8.decode8_any (prepB M at_) 0 ev _ W hv (by omega) (by rw [prepB_len]; decide)).mono fun e w' h => ?_
    obtain ⟨h2, h3⟩ := W8.dec_eras (m := 0) (i := i) rfl hgood hinv hers hi h
    exact ⟨_, h2, h3⟩
  have HCLN : Hid (M.gone at_ = [] → str (prepB M at_) = str (par lba d)) := Lib.hid fun hg => by
    have e : inn (M.gone at_) = [] := by rw [hg]; rfl
    rw [e] at hinv
    rw [W8.Inv.done hgood hinv]
  have HPA := Lib.hid (fun W => parse_0 (par_good h0 h1 hd) W)
  unfold secV at HPA
  have hol := out_length M at_
  have HPB : Hid (prepB M at_ = spl (zG (scrL (M.out at_)) (M.gone at_)) 0 syL) := Lib.hid rfl
  have HGL : Hid (∀ x ∈ M.gone at_, 0 ≤ x ∧ x < 2352) := Lib.hid (gone_bd M at_)
  have HGN : Hid ((M.gone at_).length ≤ 2352) := Lib.hid (by unfold Med.gone; rw [List.length_map]; exact Nat.le_trans (List.length_filter_le _ _) (by simp))
  have HIN : Hid (inn (M.gone at_) = keepF (fun x => decide (12 ≤ x)) (M.gone at_)) := Lib.hid rfl
  have HSL : Hid ((scrL (M.out at_)).length = 2352) := Lib.hid (scrL_len _)
  clear hinv hgood hers hinl hol hm ho hpl hsr hrr hraw hch hst h12 hd
  generalize str (par lba d) = PS at *
  generalize str (bld 0 zD) = BS at *
  obtain ⟨Z, hZ⟩ : ∃ Z : List UInt8, Z = List.replicate 2048 0 := ⟨_, rfl⟩
  have HZ : Hid (Z = zD) := Lib.hid hZ
  have HZ2 := Lib.hid hZ
  rw [← HZ.out] at HBU
  clear hZ
  generalize prepB M at_ = PB at *
  generalize hGG : M.gone at_ = GL at *
  generalize str d = DS at *
  generalize hOO : scrL (M.out at_) = SL at *
  generalize M.out at_ = OL at *
  generalize inn GL = IG at *
  clear hGG hOO hlt hn
  have HPL := Lib.hid hP
  have HC2 := Lib.hid hc
  have HPP := Lib.hid hpl2
  clear hP hc hpl2
  go_enter Tryz.func68, Tryz.ntmps68
  go_wp2_with fail
  refine HPL.out.mono ?_
  rintro e w1 ⟨rfl, hb1⟩
  have HB1 := Lib.hid hb1
  have hc1 := (hb1.cell (p := ⟨p, 2, none⟩) HPP.out).trans HC2.out
  have HS1 := Lib.hid (HST.out w1 hb1)
  clear hb1
  go_wp2_with fail
  refine HS1.out.mono ?_
  rintro e w2 ⟨rfl, hb2⟩
  have hb2 := HB1.out.trans (hb2.mono HB1.out.size)
  have HB2 := Lib.hid hb2
  have hc2 := (hb2.cell (p := ⟨p, 2, none⟩) HPP.out).trans HC2.out
  have HS2 := Lib.hid (HRD.out w2 hb2)
  clear hb2 hc1 HS1
  go_wp2_with fail
  refine HS2.out.mono ?_
  rintro e w3 ⟨v3, rfl, ho3, hb3⟩
  dsimp only at ho3 ⊢
  have HO3 := Lib.hid ho3
  have HB3 := Lib.hid (HB2.out.trans (hb3.mono HB2.out.size))
  have HLT := Lib.hid (HB2.out.size)
  clear hb3 ho3 hc2 HS2
  go_wp2_with fail
  refine (HSC.out w3).mono ?_
  rintro e w4 ⟨rfl, hb4⟩
  have HO4 := Lib.hid (ownD_keep HO3.out hb4)
  have HB4 := Lib.hid (HB3.out.trans (hb4.mono HB3.out.size))
  clear hb4
  obtain ⟨S, hS⟩ : ∃ S, S = str SL := ⟨_, rfl⟩
  have hsz : S.size = 2352 := by rw [hS, str_size]; exact HSL.out
  have HSD : Hid (S.data.toList = SL) := Lib.hid (by rw [hS]; rfl)
  rw [← hS]
  clear hS
  go_upto_region 10 with (first
    | (refine wpList_bytes rfl _ rfl Tryz.underlying9 Tryz.underlying123 Tryz.underlying5 rfl ?_
       intro w5 cap hr5 hb5 hcap5)
    | fail)
  rw [HSD.out] at hr5
  obtain ⟨g, hg⟩ : ∃ g, g = w4.heap.size := ⟨_, rfl⟩
  have HGW := Lib.hid hg
  rw [← hg] at hr5 ⊢
  have HR5 := Lib.hid hr5
  have HO5 := Lib.hid (ownD_keep HO4.out hb5)
  have HB5 := Lib.hid (HB4.out.trans (hb5.mono HB4.out.size))
  have HOG : Hid (∀ k, v3.ownBlock = some k → k < g) := Lib.hid fun k hk => by rw [HGW.out]; exact ownD_lt HO4.out k hk
  clear hr5 hb5 hg hcap5
  obtain ⟨a3, c3, rfl⟩ := ownD_form HO5.out
  go_wp2_with fail
  go_loopw [52] (fun vk wr => ∃ k : Nat, k ≤ GL.length ∧ vk = .int .i64 (k : Nat) ∧ Row wr 5 g cap (zG SL (GL.take k)) ∧ wr.ownsRow w2.heap.size 3 1 (.slice a3 GL.length c3) GL.length (W8.is GL) ∧ Below w.heap.size w wr) (fun vk _ => GL.length - (RowKit.intOf vk).toNat)
  case atStart => exact ⟨0, by omega, rfl, HR5.out, HO5.out, HB5.out⟩
  case round =>
    obtain ⟨k, hk, rfl, hr, hx, hb⟩ := hrel
    have hgn : GL.length ≤ 2352 := HGN.out
    by_cases hlt : k < GL.length
    · obtain ⟨g3, c4, hv3, hB3, hcl⟩ := run_idxO hx hlt
      simp only [Value.slice.injEq, true_and] at hv3
      obtain ⟨rfl, rfl⟩ := hv3
      have hix := fun w' => run_idxS Tryz.underlying53 (by kernel_rfl : (Tryz.prog.info? 3).map (·.size) = some 1) (a := some ⟨g3, 0, none⟩) (n := GL.length) (cap := c3) (k := k) (b := g3) (off := 0) rfl hlt (k : Int) rfl w'
      have hbd := HGL.out _ (W8.ixI_mem hlt)
      obtain ⟨m, hm⟩ : ∃ m : Nat, ixI GL k = m := ⟨(ixI GL k).toNat, by omega⟩
      have HT : Hid (GL.take (k + 1) = GL.take k ++ [(m : Int)]) := Lib.hid (by rw [List.take_succ_eq_append_getElem hlt, ← W8.ixI_get hlt, hm])
      rw [hm] at hcl hbd
      have hlz : (zG SL (GL.take k)).length = 2352 := by rw [zG_len]; exact HSL.out
      have hle := hr.le
      rw [hlz] at hle
      have hf := hr.frozen m (by omega)
      have hc0 := hr.cell m (by omega)
      have HST := Lib.hid (hr.store m 0 (by omega))
      have hix2 := fun w' => run_idxS Tryz.underlying123 Tryz.sizeU8s (a := some ⟨g, 0, none⟩) (n := 2352) (cap := cap) (k := m) (b := g) (off := 0) rfl (by omega) (m : Int) rfl w'
      simp only [Nat.mul_one, Nat.zero_add] at hix hix2
      have hle2 : m < 2352 := by omega
      clear hlz
      generalize G.ix (zG SL (GL.take k)) m = y at *
      have HX := Lib.hid hx
      have HB := Lib.hid hb
      have HW2 := Lib.hid (show w.heap.size ≤ g by rw [HGW.out]; exact HB4.out.size)
      have HM := Lib.hid hm
      have HG3 := Lib.hid (HOG.out g3 rfl)
      clear hr hx hb hm hbd hB3
      go_wp2_with fail
      go_roundw
      case rel =>
        refine ⟨k + 1, by omega, by go_num, ?_, own_set7 HX.out (fun q hq => ?_) _, HB.out.setCell (by simp only; exact HW2.out) _⟩
        · rw [HT.out, zG_snoc]; exact HST.out
        · have := HOG.out q hq; show q ≠ g; omega
      case measure => simp [RowKit.intOf]; omega
    · obtain rfl : k = GL.length := by omega
      rw [List.take_of_length_le (Nat.le_refl _)] at hr
      have HR := Lib.hid hr
      have HX := Lib.hid hx
      have HB := Lib.hid hb
      have HZL : Hid ((zG SL GL).length = 2352) := Lib.hid (by rw [zG_len]; exact HSL.out)
      clear hr hx hb
      go_wp2_with (first
        | (refine wpList_mkB rfl _ _ rfl (base := wr.heap.size) Tryz.underlying123 Tryz.infoU8s 2048 rfl rfl (by omega) (by omega) (by omega) (Nat.le_refl _) ?_
           intro w6 hx6 hg6
           rw [← HZ2.out] at hx6
           have hrd := Rd.ofOwn' hx6 (by omega)
           have hcv := run_str (P := Tryz.prog) Tryz.underlying123 Tryz.underlying5 Tryz.underlying9 hrd
           have hb6 := (Below.refl wr.heap.size wr).grown hg6 (Nat.le_refl _) (fun k hk => by cases hk)
           have HR6 := Lib.hid (HR.out.below hb6)
           have HX6 := Lib.hid (ownD_keep HX.out hb6)
           have HB6 := Lib.hid (HB.out.trans (hb6.mono HB.out.size))
           clear hx6 hg6 hrd hb6)
        | fail)
      refine (HBU.out w6).mono ?_
      rintro e w7 ⟨rfl, hb7⟩
      have HR7 := Lib.hid (HR6.out.below hb7)
      have HX7 := Lib.hid (ownD_keep HX6.out hb7)
      have HB7 := Lib.hid (HB6.out.trans (hb7.mono HB6.out.size))
      have hcu := fun W => HCU.out W
      clear hb7
      have HGL2 := Lib.hid (show w.heap.size ≤ g by rw [HGW.out]; exact HB4.out.size)
      obtain ⟨w8, hcp, hr8, hg8⟩ := run_cpS (P := Tryz.prog) (t' := 9) (ty := 3) Tryz.underlying123 (fun _ => by kernel_rfl) (n := 2352) (m := syL) HR7.out HZL.out.symm (by decide)
      rw [← HPB.out] at hr8
      have HR8 := Lib.hid hr8
      have HX8 := Lib.hid (own_off' HX7.out hg8 (fun k hk e => by have := HOG.out k hk; have := Option.some.inj e; omega))
      have HB8 := Lib.hid (HB7.out.grown hg8 HB7.out.size (fun q hq => by have := Option.some.inj hq; have := HGL2.out; omega))
      clear hr8 hg8
      go_wp2_with fail
      have HDL := Lib.hid (delO 130 (fun _ _ => by kernel_rfl) (fun x => decide (12 ≤ x)) _ _ GL w8 (by have := HGN.out; omega) (fun x hx => by have := HGL.out x hx; omega) HX8.out (fun x W => blk1 x W))
      rw [← HIN.out] at HDL
      refine HDL.out.mono ?_
      rintro e w9 ⟨v9, rfl, hi9, hg9⟩
      have HI9 := Lib.hid hi9
      have hr9 : Row w9 5 g cap PB := HR8.out.keep (hg9.block g HR8.out.lt (fun e => by have := HOG.out g e.symm; omega))
      have hb9 := HB8.out.grown hg9 HB8.out.size (fun q hq => Nat.le_trans HLT.out (ownD_block HX8.out q hq))
      obtain ⟨a9, n9, c9, hv9⟩ : ∃ a n c, v9 = .slice a n c := by obtain ⟨_, ⟨a, c, b, o, h, _⟩, _⟩ := hi9; exact ⟨a, _, c, h⟩
      subst hv9
      have HB9 := Lib.hid hb9
      have HPN : Hid (PB.length = 2352) := Lib.hid (by rw [HPB.out, spl_len]; exact HZL.out)
      have hrd9 := hr9.rd (by rw [HPN.out]; omega)
      rw [HPN.out] at hrd9
      have hcx := run_str (P := Tryz.prog) Tryz.underlying123 Tryz.underlying5 Tryz.underlying9 hrd9
      have hc9 := (hb9.cell (p := ⟨p, 2, none⟩) HPP.out).trans HC2.out
      have HS9 := Lib.hid (HCL.out w9 hb9)
      clear hi9 hg9 hr9 hb9 hrd9 HDL
      go_wp2_with fail
      refine HS9.out.mono ?_
      rintro e w10 ⟨rfl, hb10⟩
      have HI10 := Lib.hid (HI9.out.keep hb10)
      have HB10 := Lib.hid (HB9.out.trans (hb10.mono HB9.out.size))
      clear hb10 hcx hc9 HS9
      by_cases hgl : GL = []
      · have hq := HCLN.out hgl
        rw [decide_eq_true hgl]
        rw [hq]
        have HPA10 := Lib.hid (HPA.out w10)
        clear hq
        go_wp2_with fail
        refine HPA10.out.mono ?_
        rintro e w11 ⟨rfl, hb11⟩
        have HB11 := Lib.hid (HB10.out.trans (hb11.mono HB10.out.size))
        clear hb11
        obtain ⟨bs8, hbs⟩ : ∃ b, b = w11.heap.size := ⟨_, rfl⟩
        obtain ⟨w20, hw20⟩ : ∃ w20, w20 = w11.alloc (.cells #[.int .i64 lba, .int .i64 0, .int .i64 0, .int .i64 0, .int .i64 0, .int .i64 0, .string DS] 103) := ⟨_, rfl⟩
        have hA20 := HB11.out.alloc HB11.out.size (.cells #[.int .i64 lba, .int .i64 0, .int .i64 0, .int .i64 0, .int .i64 0, .int .i64 0, .string DS] 103)
        rw [← hw20] at hA20
        have hx : Bx w20 bs8 103 [.int .i64 lba, .int .i64 0, .int .i64 0, .int .i64 0, .int .i64 0, .int .i64 0, .string DS] := by rw [hw20, hbs]; exact Bx.new w11 _ _
        have x0 := hx.cell (i := 0) rfl
        have x1 := hx.cell (i := 1) rfl
        have x3 := hx.cell (i := 6) rfl
        have HW20 : Hid (w11.alloc (.cells #[.int .i64 lba, .int .i64 0, .int .i64 0, .int .i64 0, .int .i64 0, .int .i64 0, .string DS] 103) = w20) := Lib.hid hw20.symm
        have HBS := Lib.hid hbs
        have HA20 := Lib.hid hA20
        clear hA20 hx hw20 hbs
        go_upto_region 24 with (fail)
        rw [HW20.out, ← HBS.out]
        go_wp2_with fail
        go_ret
        exact ⟨rfl, HA20.out⟩
      · rw [decide_eq_false hgl]
        have HDE10 := Lib.hid (HDE.out w10 _ HI10.out)
        clear hgl
        go_wp2_with fail
        refine HDE10.out.mono ?_
        rintro e w11 ⟨k11, rfl, hb11⟩
        have HB11 := Lib.hid (HB10.out.trans (hb11.mono HB10.out.size))
        have HPA11 := Lib.hid (HPA.out w11)
        clear hb11
        go_wp2_with fail
        refine HPA11.out.mono ?_
        rintro e w12 ⟨rfl, hb12⟩
        have HB12 := Lib.hid (HB11.out.trans (hb12.mono HB11.out.size))
        clear hb12
        obtain ⟨bs8, hbs⟩ : ∃ b, b = w12.heap.size := ⟨_, rfl⟩
        obtain ⟨w20, hw20⟩ : ∃ w20, w20 = w12.alloc (.cells #[.int .i64 lba, .int .i64 0, .int .i64 0, .int .i64 0, .int .i64 0, .int .i64 0, .string DS] 103) := ⟨_, rfl⟩
        have hA20 := HB12.out.alloc HB12.out.size (.cells #[.int .i64 lba, .int .i64 0, .int .i64 0, .int .i64 0, .int .i64 0, .int .i64 0, .string DS] 103)
        rw [← hw20] at hA20
        have hx : Bx w20 bs8 103 [.int .i64 lba, .int .i64 0, .int .i64 0, .int .i64 0, .int .i64 0, .int .i64 0, .string DS] := by rw [hw20, hbs]; exact Bx.new w12 _ _
        have x0 := hx.cell (i := 0) rfl
        have x1 := hx.cell (i := 1) rfl
        have x3 := hx.cell (i := 6) rfl
        have HW20 : Hid (w12.alloc (.cells #[.int .i64 lba, .int .i64 0, .int .i64 0, .int .i64 0, .int .i64 0, .int .i64 0, .string DS] 103) = w20) := Lib.hid hw20.symm
        have HBS := Lib.hid hbs
        have HA20 := Lib.hid hA20
        clear hA20 hx hw20 hbs
        go_upto_region 24 with (fail)
        rw [HW20.out, ← HBS.out]
        go_wp2_with fail
        go_ret
        exact ⟨rfl, HA20.out⟩
end Go.Proofs.YtflmjdjkfognjaaGreat.T7
namespace Go.Proofs.YtflmjdjkfognjaaGreat.T7
open Go Go.RowKit C9 D12
set_option linter.unusedVariables false
def imgK (bl : Nat → List UInt8) (n k : Nat) : List (List UInt8) := (List.range n).map fun i => if i < k then bl i else []
theorem imgK_len (bl : Nat → List UInt8) (n k : Nat) : (imgK bl n k).length = n := by simp [imgK]
theorem imgK_zero (bl : Nat → List UInt8) (n : Nat) : imgK bl n 0 = List.replicate n [] := by
  unfold imgK
  apply List.ext_getElem
  · simp
  · intro i h1 h2; simp
theorem imgK_at (bl : Nat → List UInt8) {n k i : Nat} (h : i < n) : atD [] (imgK bl n k) i = if i < k then bl i else [] := by simp [imgK, atD, h]
theorem imgK_step (bl : Nat → List UInt8) {n k : Nat} (h : k < n) : (imgK bl n k).set k (bl k) = imgK bl n (k + 1) := by
  apply List.ext_getElem
  · simp [imgK]
  · intro i h1 h2
    rw [List.length_set, imgK_len] at h1
    rw [List.getElem_set]
    simp only [imgK, List.getElem_map, List.getElem_range]
    by_cases e : k = i
    · subst e; rw [if_pos rfl, if_pos (by omega)]
    · rw [if_neg e]
      by_cases e2 : i < k
      · rw [if_pos e2, if_pos (by omega)]
      · rw [if_neg e2, if_neg (by omega)]
def imgL (bl : Nat → List UInt8) (n : Nat) : List (List UInt8) := (List.range n).map bl
theorem imgK_all (bl : Nat → List UInt8) (n : Nat) : imgK bl n n = imgL bl n := by
  unfold imgK imgL
  refine List.map_congr_left fun i hi => ?_
  rw [if_pos (List.mem_range.1 hi)]
theorem imgL_len (bl : Nat → List UInt8) (n : Nat) : (imgL bl n).length = n := by simp [imgL]
theorem wpList_mkImg {w : World} {ops : Array Oper} {rest : List Oper} {o : Oper} {a : Act} {Q : Exit → Act → World → Prop}
    (hg : o.guard = none) (l c : Operand) (hop : o.op = Op.makeSlice 64 l c)
    {L C : Int} (n : Nat) (hl : a.eval l = .int .i64 L) (hc : a.eval c = .int .i64 C) (hL : L = (n : Int)) (hC : C = (n : Int)) (b3 : n ≤ 1000000)
    (hK : ∀ w', w'.ownsRow w.heap.size 9 1 (.slice (some ⟨w.heap.size, 0, none⟩) n n) n (flD ssD (List.replicate n [])) → Below w.heap.size w w' → wpList Tryz.prog ops Q rest (a.put o.dst (.slice (some ⟨w.heap.size, 0, none⟩) n n)) w') :
    wpList Tryz.prog ops Q (o :: rest) a w := by
  obtain ⟨i0, hi, hz0, hz1, hz2⟩ := info_parts Tryz.infoStr9
  refine wpList_make_full w hg l c _ hop w.heap.size 9 i0 _ 1 Tryz.underlying64 hi hz0 hz1 .i64 .i64 L C n hl hc hL hC (by rw [hz2]; omega) (by unfold maxLen; omega) (Nat.le_refl _) fun w' h3 h4 => hK w' ?_ ((Below.refl _ _).grown h4 (Nat.le_refl _) (fun k hk => by cases hk))
  have e1 : (Value.string ⟨#[]⟩).cells = (ssD []).toArray := rfl
  rw [e1, made_flD ssD [] 1 n (by decide) ssD_len] at h3
  exact h3
set_option maxRecDepth 100000 in
set_option maxHeartbeats 4000000 in
theorem image7 {p n : Nat} {w : World} (bl : Nat → List UInt8) (hn : n ≤ 4096) (hc : w.cell? ⟨p, 1, none⟩ = some (.int .i64 (n : Nat)))
    (hB : ∀ i, i < n → ∀ W, Below w.heap.size w W → Calls Tryz.prog 68 #[.pointer (some ⟨p, 0, none⟩), .int .i64 (i : Nat)] W fun e w' => e = .returned (.string (str (bl i))) ∧ Below W.heap.size W w') :
    Calls Tryz.prog 22 #[.pointer (some ⟨p, 0, none⟩)] w fun e w' => ∃ g, e = .returned (.slice (some ⟨g, 0, none⟩) n n) ∧ w'.ownsRow w.heap.size 9 1 (.slice (some ⟨g, 0, none⟩) n n) n (flD ssD (imgL bl n)) ∧ Below w.heap.size w w' := by
  have HBL := Lib.hid hB
  clear hB
  go_enter Tryz.func22, Tryz.ntmps22
  go_wp2_with (refine wpList_mkImg rfl _ _ rfl n rfl rfl rfl rfl (by omega) ?_; intro w1 ho1 hb1)
  obtain ⟨g, hg⟩ : ∃ g, g = w.heap.size := ⟨_, rfl⟩
  have HG := Lib.hid hg
  rw [← hg] at ho1 hb1 ⊢
  rw [← imgK_zero bl n] at ho1
  have HO1 := Lib.hid ho1
  have HB1 := Lib.hid hb1
  clear ho1 hb1 hg hc
  go_loopw [12] (fun vk wr => ∃ k : Nat, k ≤ n ∧ vk = .int .i64 (k : Nat) ∧ wr.ownsRow g 9 1 (.slice (some ⟨g, 0, none⟩) n n) n (flD ssD (imgK bl n k)) ∧ Below g w wr) (fun vk _ => n - (RowKit.intOf vk).toNat)
  case atStart => exact ⟨0, by omega, rfl, HO1.out, HB1.out⟩
  case round =>
    obtain ⟨k, hk, rfl, hx, hb⟩ := hrel
    have HX := Lib.hid hx
    have HB := Lib.hid hb
    clear hx hb HO1 HB1
    by_cases hlt : k < n
    · have HC := Lib.hid (HBL.out k hlt wr (by rw [← HG.out]; exact HB.out))
      have HSK := Lib.hid (imgK_step bl hlt)
      have HAT := Lib.hid (imgK_at bl (k := k) hlt)
      have hix := fun w' => run_idxS Tryz.underlying64 (by kernel_rfl : (Tryz.prog.info? 9).map (·.size) = some 1) (a := some ⟨g, 0, none⟩) (n := n) (cap := n) (k := k) (b := g) (off := 0) rfl hlt (k : Int) rfl w'
      simp only [Nat.mul_one, Nat.zero_add] at hix
      generalize hs : str (bl k) = s at HC
      have HS := Lib.hid hs
      clear hs
      go_wp2_with fail
      refine HC.out.mono ?_
      rintro e w2 ⟨rfl, hb2⟩
      have hx2 := ownD_keep HX.out hb2
      have HBG := Lib.hid (HB.out.trans (hb2.mono (by rw [HG.out]; exact HB.out.size)))
      have hL : (imgK bl n k).length = n := imgK_len _ _ _
      have hf := own_free7 hx2 k
      have hr0 := (ownD_cells (d := []) ssD_len hx2 k (by omega)) 0 _ rfl
      rw [Nat.mul_one, Nat.add_zero] at hr0
      have HST := Lib.hid (ownD_fld (d := []) ssD_len hx2 k 0 (by omega) (by decide) (.string s) (bl k) (by rw [← HS.out]; rfl))
      clear hx2 hb2 hL
      go_wp2_with fail
      have h9 := HST.out
      rw [Nat.mul_one, Nat.add_zero, HSK.out] at h9
      go_roundw
      case rel => exact ⟨k + 1, by omega, by go_num, h9, HBG.out.setCell (Nat.le_refl _) _⟩
      case measure => simp [RowKit.intOf]; omega
    · obtain rfl : k = n := by omega
      go_wp2_with fail
      go_ret
      refine ⟨g, rfl, ?_, by rw [← HG.out]; exact HB.out⟩
      rw [← HG.out, ← imgK_all]
      exact HX.out
end Go.Proofs.YtflmjdjkfognjaaGreat.T7
namespace Go.Proofs.YtflmjdjkfognjaaGreat.T7
open Go Go.RowKit C9 D12
set_option linter.unusedVariables false
theorem place_nil {p : Nat} {w : World} (hc : w.cell? ⟨p, 3, none⟩ = some (.pointer none)) (x : Int) :
    Calls Tryz.prog 66 #[.pointer (some ⟨p, 0, none⟩), .int .i64 x] w fun e w' => e = .returned (.int .i64 x) ∧ Below w.heap.size w w' := by
  go_enter Tryz.func66, Tryz.ntmps66
  go_wp2_with fail
  go_ret
  exact ⟨rfl, Below.refl _ _⟩
theorem dhas7 {p : Nat} {n : Int} {w : World} (hc : w.cell? ⟨p, 1, none⟩ = some (.int .i64 n)) (x : Int) :
    Calls Tryz.prog 65 #[.pointer (some ⟨p, 0, none⟩), .int .i64 x] w fun e w' => e = .returned (.bool (decide (0 ≤ x ∧ x < n))) ∧ w = w' := by
  by_cases h0 : 0 ≤ x
  · by_cases h1 : x < n
    · rw [decide_eq_true (⟨h0, h1⟩ : 0 ≤ x ∧ x < n)]
      go_enter Tryz.func65, Tryz.ntmps65
      go_wp2_with fail
      go_ret
      exact ⟨rfl, rfl⟩
    · rw [decide_eq_false (fun h : 0 ≤ x ∧ x < n => h1 h.2)]
      go_enter Tryz.func65, Tryz.ntmps65
      go_wp2_with fail
      go_ret
      exact ⟨rfl, rfl⟩
  · rw [decide_eq_false (fun h : 0 ≤ x ∧ x < n => h0 h.1)]
    go_enter Tryz.func65, Tryz.ntmps65
    go_wp2_with fail
    go_ret
    exact ⟨rfl, rfl⟩
noncomputable def dmgR (M : Med) (n : Int) (at_ : Int) (d : Dam) : Int × Med := if 0 ≤ d.lba ∧ d.lba < n then M.damage { d with lba := at_ } else (1, M)
theorem dmgR_nil (M : Med) (d : Dam) : dmgR M M.n d.lba d = M.damage d := by
  unfold dmgR
  split
  · rfl
  · rename_i h
    unfold Med.damage
    rw [if_neg fun h2 : d.Ok M.n => h h2.1]
set_option maxRecDepth 100000 in
set_option maxHeartbeats 4000000 in
theorem ddamage7 {p pm N : Nat} {n at_ : Int} {w w0 : World} {M : Med} {X R : Nat → Prop} (hm : MedW w pm M X R) (ho : M.Ok N) (hc1 : w.cell? ⟨p, 1, none⟩ = some (.int .i64 n)) (hc2 : w.cell? ⟨p, 2, none⟩ = some (.pointer (some ⟨pm, 0, none⟩))) (vE vC : Value) (d : Dam)
    (hP : ∀ W, Below w.heap.size w W → Calls Tryz.prog 66 #[.pointer (some ⟨p, 0, none⟩), .int .i64 d.lba] W fun e w' => e = .returned (.int .i64 at_) ∧ Below W.heap.size W w')
    (hd : DamV w0 vE vC d) (h0 : Below w0.heap.size w0 w) (hX : ∀ b, X b → w0.heap.size ≤ b) (hat : In64 at_) :
    Calls Tryz.prog 20 #[.pointer (some ⟨p, 0, none⟩), damv vE vC d] w (WrP (dmgR M n at_ d) pm X R w) := by
  have hpl2 : p < w.heap.size := World.block_lt_of_cell? w _ hc1
  obtain ⟨w1, hw1⟩ : ∃ w1, w1 = w.alloc (.cells #[.int .i64 d.lba, vE, vC] 56) := ⟨_, rfl⟩
  obtain ⟨bx, hbx⟩ : ∃ b, b = w.heap.size := ⟨_, rfl⟩
  have hA := (Below.refl w.heap.size w).alloc (Nat.le_refl _) (.cells #[.int .i64 d.lba, vE, vC] 56)
  have hx : Bx w1 bx 56 [.int .i64 d.lba, vE, vC] := by rw [hw1, hbx]; exact Bx.new w _ _
  rw [← hw1] at hA
  have x0 := hx.cell (i := 0) rfl
  have HW1 : Hid (w.alloc (.cells #[.int .i64 d.lba, vE, vC] 56) = w1) := Lib.hid hw1.symm
  have HBX := Lib.hid hbx
  have HX1 := Lib.hid hx
  have HA1 := Lib.hid hA
  have d1 := (hA.cell (p := ⟨p, 1, none⟩) hpl2).trans hc1
  have d2 := (hA.cell (p := ⟨p, 2, none⟩) hpl2).trans hc2
  have HH := Lib.hid (dhas7 d1 d.lba)
  have HP1 := Lib.hid (hP w1 hA)
  have HM1 := Lib.hid (hm.below hA)
  have HM := Lib.hid hm
  have HC2 := Lib.hid hc2
  have HPP := Lib.hid hpl2
  clear hw1 hbx hA hx hP hm hc1 hc2 d1 d2
  unfold damv
  go_enter Tryz.func20, Tryz.ntmps20
  go_upto_region 1 with (fail)
  rw [HW1.out, ← HBX.out]
  go_wp2_with fail
  refine HH.out.mono ?_
  rintro e w2 ⟨rfl, rfl⟩
  by_cases hin : 0 ≤ d.lba ∧ d.lba < n
  · rw [decide_eq_true hin]
    have HR : Hid (dmgR M n at_ d = M.damage { d with lba := at_ }) := Lib.hid (by unfold dmgR; rw [if_pos hin])
    clear hin
    go_wp2_with fail
    refine HP1.out.mono ?_
    rintro e w3 ⟨rfl, hb3⟩
    have hx3 := HX1.out.call hb3
    have hf3 := hx3.free 0
    have y0 := hx3.cell (i := 0) rfl
    obtain ⟨w4, hw4⟩ : ∃ w4, w4 = w3.setCell ⟨bx, 0, none⟩ (.int .i64 at_) := ⟨_, rfl⟩
    have hx4 := hx3.set 0 (.int .i64 at_)
    have hA4 := (HA1.out.trans (hb3.mono HA1.out.size)).setCell (p := ⟨bx, 0, none⟩) (by rw [HBX.out]; exact Nat.le_refl _) (.int .i64 at_)
    rw [← hw4] at hx4 hA4
    rw [List.set_cons_zero] at hx4
    have HW4 := Lib.hid hw4.symm
    have HX4 := Lib.hid hx4
    have HA4 := Lib.hid hA4
    have hd2 := (hA4.cell (p := ⟨p, 2, none⟩) HPP.out)
    have HM4 := Lib.hid (HM.out.below hA4)
    have HDM := Lib.hid (fun W (hW : MedW W pm M X R) (hb : Below w0.heap.size w0 W) => damage12 hW ho vE vC { d with lba := at_ } ⟨hd.er, hd.ch, hat, hd.len, hd.wf⟩ hb hX)
    have H04 := Lib.hid (h0.trans (hA4.mono h0.size))
    have e0 := hx4.cell (i := 0) rfl
    have e1 := hx4.cell (i := 1) rfl
    have e2 := hx4.cell (i := 2) rfl
    have g2 := hd2.trans (by exact HC2.out)
    clear hx3 hb3 hw4 hx4 hA4 x0 hd2
    go_upto_region 4 with (fail)
    rw [HW4.out]
    clear hf3 y0
    go_still_tail 5, (by kernel_rfl)
    repeat still_step
    change wpList _ _ _ _ _ w4.drew
    have HD4 := Lib.hid (HDM.out w4.drew (HM4.out.below ((Below.refl _ _).drew)) (H04.out.drew))
    go_wp2_with fail
    refine HD4.out.mono ?_
    rintro e w5 ⟨rfl, X2, R2, hm5, hc5⟩
    have HM5 := Lib.hid hm5
    have HC5 := Lib.hid (Ch.trans (X2 := X) (R2 := R) (Ch.of (HA4.out.drew)) hc5)
    clear hm5 hc5
    go_wp2_with fail
    go_ret
    rw [HR.out]
    exact ⟨rfl, X2, R2, HM5.out, HC5.out⟩
  · rw [decide_eq_false hin]
    have HR : Hid (dmgR M n at_ d = (1, M)) := Lib.hid (by unfold dmgR; rw [if_neg hin])
    clear hin
    go_wp2_with fail
    go_ret
    rw [HR.out]
    exact WrP.same HM.out HA1.out
end Go.Proofs.YtflmjdjkfognjaaGreat.T7
