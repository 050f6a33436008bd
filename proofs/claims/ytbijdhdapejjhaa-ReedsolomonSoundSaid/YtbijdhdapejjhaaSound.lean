/- The law ReedsolomonSound: the walk. -/
import Derived.Test.YtbijdhdapejjhaaMap
import Derived.Test.YtbijdhdapejjhaaFills
namespace Go.Proofs.Ytbijdhdapejjhaa
open Go.RowKit
set_option linter.unusedVariables false

set_option maxRecDepth 100000 in
set_option maxHeartbeats 2000000 in
theorem outside_any (o p : List UInt8) (l : List Int) (N bw bl bm nm : Nat) (w : World) (hpl : p.length = N) (hol : o.length = N) (hN : N ≤ 255) (hcw : w.cell? ⟨bw, 0, none⟩ = some (.string (str p))) (hcl : w.cell? ⟨bl, 0, none⟩ = some (.map (some bm))) (hm : SetI w bm nm (G.cont l)) :
    Calls Try.prog 27 #[.string (str o), .pointer (some ⟨bw, 0, none⟩), .pointer (some ⟨bl, 0, none⟩)] w fun e w' => e = .returned (.int .i64 (G.othN p o l N)) ∧ Below w.heap.size w w' := by
  have hs := str_size p
  rw [hpl] at hs
  have HP := Lib.hid hpl; clear hpl
  have HO := Lib.hid hol; clear hol
  go_enter Try.func27, Try.ntmps27
  go_wp2_with fail
  go_loopw [5, 6, 9] (fun vo _ vk wr => ∃ k : Nat, k ≤ N ∧ vk = .int .i64 k ∧ vo = .int .i64 (G.othN p o l k) ∧ Below w.heap.size w wr) (fun _ _ vk _ => N - (intOf vk).toNat)
  case atStart => exact ⟨0, by omega, rfl, rfl, Below.refl _ _⟩
  case round =>
    obtain ⟨k, hk, rfl, rfl, hb⟩ := hrel
    by_cases hlt : k < N
    · have hcw' : wr.cell? ⟨bw, 0, none⟩ = some (.string (str p)) := (hb.cell (p := ⟨bw, 0, none⟩) (World.block_lt_of_cell? w _ hcw)).trans hcw
      have hcl' : wr.cell? ⟨bl, 0, none⟩ = some (.map (some bm)) := (hb.cell (p := ⟨bl, 0, none⟩) (World.block_lt_of_cell? w _ hcl)).trans hcl
      have hm' := hm.below hb
      have hi1 := fun wx => run_sidx (P := Try.prog) Try.underlying9 p k (by rw [HP.out]; exact hlt) _ rfl wx
      have hi2 := fun wx => run_sidx (P := Try.prog) Try.underlying9 o k (by rw [HO.out]; exact hlt) _ rfl wx
      have hlk := hm'.runD (k : Int) (by omega) (by omega)
      have h2 := G.othN_le p o l k
      obtain ⟨O1, hO⟩ : ∃ O1, O1 = G.othN p o l k := ⟨_, rfl⟩
      rw [← hO] at h2 ⊢
      have HOo := Lib.hid hO; clear hO
      cases hct : G.cont l (k : Int) with
      | true =>
        rw [hct] at hlk
        have Hct := Lib.hid hct; clear hct
        have hE : G.othN p o l (k + 1) = O1 := by
          rw [G.othN, ← HOo.out, Hct.out]; split <;> simp
        have HE := Lib.hid hE; clear hE
        go_wp2_with fail
        go_quiet (fail)
        go_wp2_with fail
        go_roundw
        case rel => exact ⟨k + 1, by omega, by go_num, by rw [HE.out], Below.drewN hb _⟩
        case measure => simp [intOf]; omega
      | false =>
        rw [hct] at hlk
        have Hct := Lib.hid hct; clear hct
        by_cases hc : G.ix p k = G.ix o k
        · have hcb : (((G.ix o k).toNat : Int) == ((G.ix p k).toNat : Int)) = true := by rw [hc]; simp
          have hcb' : (((G.ix o k).toNat : Int) != ((G.ix p k).toNat : Int)) = false := by unfold bne; rw [hcb]; rfl
          have HE : Hid (G.othN p o l (k + 1) = O1) := Lib.hid (by rw [G.othN, ← HOo.out, if_pos hc]; rfl)
          have Hc := Lib.hid hc; clear hc
          go_wp2_with fail
          go_quiet (fail)
          go_wp2_with fail
          go_roundw
          case rel => exact ⟨k + 1, by omega, by go_num, by rw [HE.out], Below.drewN hb _⟩
          case measure => simp [intOf]; omega
        · have hcb : (((G.ix o k).toNat : Int) == ((G.ix p k).toNat : Int)) = false := by
            rw [beq_eq_false_iff_ne]; intro h; apply hc; apply UInt8.toNat_inj.1; omega
          have hcb' : (((G.ix o k).toNat : Int) != ((G.ix p k).toNat : Int)) = true := by unfold bne; rw [hcb]; rfl
          have HE : Hid (G.othN p o l (k + 1) = O1 + 1) := Lib.hid (by rw [G.othN, ← HOo.out, if_neg hc, Hct.out]; rfl)
          have Hc := Lib.hid hc; clear hc
          go_wp2_with fail
          go_quiet (fail)
          go_wp2_with fail
          go_roundw
          case rel => exact ⟨k + 1, by omega, by go_num, by rw [HE.out]; go_num, Below.drewN hb _⟩
          case measure => simp [intOf]; omega
    · obtain rfl : k = N := by omega
      go_wp2_with fail
      go_ret
      exact ⟨rfl, hb⟩

theorem allN_comm (a b : List UInt8) : ∀ k, G.allN a b k = G.allN b a k
  | 0 => rfl
  | k + 1 => by
    rw [G.allN, G.allN, allN_comm a b k]
    congr 1
    by_cases h : G.ix a k = G.ix b k
    · rw [if_pos h, if_pos h.symm]
    · rw [if_neg h, if_neg (fun e => h e.symm)]
theorem othN_zero (a b : List UInt8) (l : List Int) : ∀ k : Nat, (∀ i : Nat, i < k → (i : Int) ∉ l → G.ix a i = G.ix b i) → G.othN a b l k = 0
  | 0, _ => rfl
  | k + 1, h => by
    rw [G.othN, othN_zero a b l k (fun i hi => h i (by omega))]
    by_cases hk : (k : Int) ∈ l
    · rw [(G.cont_iff l k).2 hk]; simp
    · rw [if_pos (h k (by omega) hk)]
theorem cont_take_succ (l : List Int) (k : Nat) (hk : k < l.length) : G.cont (l.take (k + 1)) = setF (G.cont (l.take k)) (ixI l k) true := by
  funext x
  unfold setF
  rw [List.take_succ_eq_append_getElem hk, G.ixI_get hk]
  by_cases e : x = l[k]
  · rw [if_pos e, G.cont_iff, List.mem_append, List.mem_singleton]
    exact .inr e
  · rw [if_neg e, Bool.eq_iff_iff, G.cont_iff, G.cont_iff, List.mem_append, List.mem_singleton]
    exact ⟨fun h => h.resolve_right e, .inl⟩

theorem sound_skip (w : World) (p : List UInt8) (n : Int) (va : Option Addr) (vc : Nat) (l : List Int) (hal : p.length ≤ 9223372036854775807) (hll : l.length ≤ 9223372036854775807) (hbig : 255 < p.length ∨ p.length ≤ 255 ∧ 20 < l.length) :
    Calls Try.prog 9 #[.string (str p), .int .i64 n, .slice va l.length vc] w fun e w' => e = .returned (.bool true) ∧ Below w.heap.size w w' := by
  have hs := str_size p
  have hB0 := (Below.refl w.heap.size w).alloc (Nat.le_refl _) (.cells #[.string (str p)] 9)
  rcases hbig with h | ⟨h, h'⟩
  · have hd : decide ((255 : Int) < p.length) = true := by rw [decide_eq_true_eq]; omega
    go_enter Try.func9, Try.ntmps9
    go_wp2_with fail
    refine (awake_any _).mono ?_
    rintro e w1 ⟨rfl, hb1⟩
    have hcw : w1.cell? ⟨w.heap.size, 0, none⟩ = some (.string (str p)) := (hb1.cell (p := ⟨w.heap.size, 0, none⟩) (by simp)).trans (by simp)
    have hB1 := hB0.trans (hb1.mono (by simp))
    go_wp2_with fail
    go_ret
    exact ⟨rfl, hB1⟩
  · have hd : decide ((255 : Int) < p.length) = false := by rw [decide_eq_false_iff_not]; omega
    have hd2 : decide ((20 : Int) < l.length) = true := by rw [decide_eq_true_eq]; omega
    go_enter Try.func9, Try.ntmps9
    go_wp2_with fail
    refine (awake_any _).mono ?_
    rintro e w1 ⟨rfl, hb1⟩
    have hcw : w1.cell? ⟨w.heap.size, 0, none⟩ = some (.string (str p)) := (hb1.cell (p := ⟨w.heap.size, 0, none⟩) (by simp)).trans (by simp)
    have hB1 := hB0.trans (hb1.mono (by simp))
    go_wp2_with fail
    go_ret
    exact ⟨rfl, hB1⟩

set_option maxRecDepth 100000 in
set_option maxHeartbeats 8000000 in
theorem sound_walk (w : World) (p : List UInt8) (n : Int) (va : Option Addr) (vc : Nat) (l : List Int) (hv : RdI w (.slice va l.length vc) l) (hpl : p.length ≤ 255) (hll : l.length ≤ 20) (h1 : -9223372036854775808 ≤ n) (h2 : n ≤ 9223372036854775807) :
    Calls Try.prog 9 #[.string (str p), .int .i64 n, .slice va l.length vc] w fun e w' => e = .returned (.bool true) ∧ Below w.heap.size w w' := by
  have hs := str_size p
  obtain ⟨N, hN⟩ : ∃ N, N = p.length := ⟨_, rfl⟩
  have hpl' : p.length = N := hN.symm
  rw [← hN] at hs hpl
  clear hN
  have hN : N ≤ 255 := hpl
  have HPl := Lib.hid hpl'; clear hpl'
  clear hpl
  have hmm := @run_makeMap Try.prog
  have hd : decide ((255 : Int) < N) = false := by rw [decide_eq_false_iff_not]; omega
  have hd2 : decide ((20 : Int) < l.length) = false := by rw [decide_eq_false_iff_not]; omega
  have hB0 := (Below.refl w.heap.size w).alloc (Nat.le_refl _) (.cells #[.string (str p)] 9)
  obtain ⟨_, ⟨a', cap', b, off, hsl, hcap, hcell⟩, hrng⟩ := id hv
  simp only [Value.slice.injEq, true_and] at hsl
  obtain ⟨rfl, rfl⟩ := hsl
  have HCc := Lib.hid hcell; clear hcell
  have HRg := Lib.hid hrng; clear hrng
  -- what Fill and Decode give
  have hfs := G.fill_sound p n l
  have hfb := G.fill_bad2 p n l
  have hds := G.decode_sound p n l
  have hdb := G.decode_bad2 p n l
  obtain ⟨⟨fo, fc⟩, hfo⟩ : ∃ x, x = G.fill p n l := ⟨_, rfl⟩
  obtain ⟨⟨dO, dn, dc⟩, hdo⟩ : ∃ x, x = G.decode p n l := ⟨_, rfl⟩
  rw [← hfo, HPl.out] at hfs
  rw [← hfo] at hfb
  rw [← hdo, HPl.out] at hds
  rw [← hdo] at hdb
  dsimp only at hfs hfb hds hdb
  have HFs := Lib.hid hfs; clear hfs
  have HFb := Lib.hid hfb; clear hfb
  have HDs := Lib.hid hds; clear hds
  have HDb := Lib.hid hdb; clear hdb
  have HF := Lib.hid hfo; clear hfo
  have HD := Lib.hid hdo; clear hdo
  go_enter Try.func9, Try.ntmps9
  go_wp2_with fail
  refine (awake_any _).mono ?_
  rintro e w1 ⟨rfl, hb1⟩
  have hcw : w1.cell? ⟨w.heap.size, 0, none⟩ = some (.string (str p)) := (hb1.cell (p := ⟨w.heap.size, 0, none⟩) (by simp)).trans (by simp)
  have hB1 := hB0.trans (hb1.mono (by simp))
  have hlt1 := World.block_lt_of_cell? w1 _ hcw
  clear hb1 hB0
  have hB1s := hB1.size
  go_wp2_with fail
  -- the map of erased positions
  have hmk : SetI ((w1.alloc (.map #[] 0)).alloc (.cells #[.map (some w1.heap.size)] 36)) w1.heap.size 0 (G.cont (l.take 0)) := by
    have h := (SetI.made w1).below ((Below.refl _ _).alloc (Nat.le_refl _) (.cells #[.map (some w1.heap.size)] 36))
    exact h
  have hB2 := (hB1.alloc hB1s (.map #[] 0)).alloc (by have := hB1s; simp; omega) (.cells #[.map (some w1.heap.size)] 36)
  have hcw2 : ((w1.alloc (.map #[] 0)).alloc (.cells #[.map (some w1.heap.size)] 36)).cell? ⟨w.heap.size, 0, none⟩ = some (.string (str p)) := (((Below.refl w1.heap.size w1).alloc (Nat.le_refl _) (.map #[] 0)).alloc (by simp) (.cells #[.map (some w1.heap.size)] 36)).cell (p := ⟨w.heap.size, 0, none⟩) hlt1 |>.trans hcw
  have hcl2 : ((w1.alloc (.map #[] 0)).alloc (.cells #[.map (some w1.heap.size)] 36)).cell? ⟨w1.heap.size + 1, 0, none⟩ = some (.map (some w1.heap.size)) := by
    have := (Boxed.new (w1.alloc (.map #[] 0)) 36 (.map (some w1.heap.size))).cell
    rwa [World.size_alloc] at this
  generalize (w1.alloc (.map #[] 0)).alloc (.cells #[.map (some w1.heap.size)] 36) = w2 at hmk hB2 hcw2 hcl2 ⊢
  go_loopw [9, 29] (fun _ vk wr => ∃ k : Nat, k ≤ l.length ∧ vk = .int .i64 k ∧ SetI wr w1.heap.size k (G.cont (l.take k)) ∧ wr.cell? ⟨w.heap.size, 0, none⟩ = some (.string (str p)) ∧ wr.cell? ⟨w1.heap.size + 1, 0, none⟩ = some (.map (some w1.heap.size)) ∧ Below w.heap.size w wr) (fun _ vk _ => l.length - (intOf vk).toNat)
  case atStart => exact ⟨0, by omega, rfl, hmk, hcw2, hcl2, hB2⟩
  case round =>
    clear hmk hcw2 hcl2 hB2 hcw hB1
    obtain ⟨k, hk, rfl, hset, hcw, hcl, hb⟩ := hrel
    by_cases hlt : k < l.length
    · obtain ⟨hax, hcp⟩ := HCc.out k hlt
      have hcx : wr.cell? ⟨b, off + k, none⟩ = some (.int .i64 (ixI l k)) := (hb.cell (p := ⟨b, off + k, none⟩) (World.block_lt_of_cell? w _ hcp)).trans hcp
      have hix := run_idx (P := Try.prog) Try.underlying34 Try.sizeInt (cap := vc) hax hlt _ rfl wr
      have Ha := Lib.hid hax; clear hax hcp
      have hrg := HRg.out k hlt
      have HS := Lib.hid (cont_take_succ l k hlt)
      obtain ⟨x, hx⟩ : ∃ x, x = ixI l k := ⟨_, rfl⟩
      rw [← hx] at hcx hrg
      have Hx := Lib.hid hx; clear hx
      have hbs := hb.size
      go_wp2_with (at_mapUpdate; refine wpList_setI rfl _ _ _ rfl hset rfl rfl rfl hrg.1 hrg.2 (by omega) ?_; intro w5 hset5 hgr5)
      go_roundw
      case rel =>
        refine ⟨k + 1, by omega, by go_num, ?_, ?_, ?_, hb.grown hgr5 hbs (fun g hg => by obtain rfl := Option.some.inj hg; omega)⟩
        · rw [HS.out, ← Hx.out]; exact hset5
        · rw [← hcw]; exact World.cell?_of_block (hgr5.block w.heap.size (World.block_lt_of_cell? wr _ hcw) (by intro e; have := Option.some.inj e; omega))
        · rw [← hcl]; exact World.cell?_of_block (hgr5.block (w1.heap.size + 1) (World.block_lt_of_cell? wr _ hcl) (by intro e; have := Option.some.inj e; omega))
      case measure => simp [intOf]; omega
    · obtain rfl : k = l.length := by omega
      rw [List.take_length] at hset
      go_wp2_with fail
      refine (fill_any p n _ l _ (by rw [HPl.out]; omega) (hv.keepW (fun k hk => hb.block k hk)) (by omega)).mono ?_
      rintro e w3 ⟨rfl, hb3⟩
      rw [← HF.out]
      have hcw3 : w3.cell? ⟨w.heap.size, 0, none⟩ = some (.string (str p)) := (hb3.cell (p := ⟨w.heap.size, 0, none⟩) (World.block_lt_of_cell? wr _ hcw)).trans hcw
      have hcl3 : w3.cell? ⟨w1.heap.size + 1, 0, none⟩ = some (.map (some w1.heap.size)) := (hb3.cell (p := ⟨w1.heap.size + 1, 0, none⟩) (World.block_lt_of_cell? wr _ hcl)).trans hcl
      have hm3 := hset.below hb3
      have hB3 := hb.trans (hb3.mono hb.size)
      clear hcw hcl hset hb hb3
      cases hfc : decide (fc = 0) with
      | false =>
        have hne : fc ≠ 0 := by simpa using hfc
        obtain rfl := HFb.out hne
        have hcc : (fc == 0) = false := by simpa using hne
        have hcc' : (fc != 0) = true := by unfold bne; rw [hcc]; rfl
        have HNe := Lib.hid hne; clear hne hfc
        rw [show str [] = ByteArray.empty from rfl]
        go_wp2_with fail
        have hcwW := hcw3; have hclW := hcl3; have hmW := hm3; have hBW := hB3
        clear hcw3 hcl3 hm3 hB3
        have hvD : RdI w3 (.slice va l.length vc) l := hv.keepW (fun k hk => hBW.block k hk)
        refine (decode_any p n _ l _ (by rw [HPl.out]; omega) hvD (by omega)).mono ?_
        rintro e w7 ⟨rfl, hb7⟩
        have hcw7 : w7.cell? ⟨w.heap.size, 0, none⟩ = some (.string (str p)) := (hb7.cell (p := ⟨w.heap.size, 0, none⟩) (World.block_lt_of_cell? w3 _ hcwW)).trans hcwW
        have hcl7 : w7.cell? ⟨w1.heap.size + 1, 0, none⟩ = some (.map (some w1.heap.size)) := (hb7.cell (p := ⟨w1.heap.size + 1, 0, none⟩) (World.block_lt_of_cell? w3 _ hclW)).trans hclW
        have hm7 := hmW.below hb7
        have hB7 := hBW.trans (hb7.mono hBW.size)
        clear hcwW hclW hmW hBW hb7 hvD
        rw [← HD.out]
        cases hdc : decide (dc = 0) with
        | false =>
          have hne : dc ≠ 0 := by simpa using hdc
          have hdo := (HDb.out hne)
          obtain ⟨rfl, rfl⟩ := hdo
          have hcc : (dc == 0) = false := by simpa using hne
          have hcc' : (dc != 0) = true := by unfold bne; rw [hcc]; rfl
          have HNe := Lib.hid hne; clear hne hdc
          rw [show str [] = ByteArray.empty from rfl]
          go_wp2_with fail
          go_ret
          exact ⟨rfl, hB7⟩
        | true =>
          obtain rfl : dc = 0 := by simpa using hdc
          clear hdc
          obtain ⟨m, hnm, hdl, hdv, _, hle, hdn⟩ := HDs.out rfl
          subst hnm
          have hdos := str_size dO
          rw [hdl] at hdos
          have HDv := Lib.hid hdv; clear hdv
          have HDl := Lib.hid hdl; clear hdl
          rw [hdn]
          have hath := G.allN_le p dO N
          have hoth := G.othN_le p dO l N
          obtain ⟨OT, hOT⟩ : ∃ OT, OT = G.othN p dO l N := ⟨_, rfl⟩
          rw [← hOT] at hle hoth
          have HOT := Lib.hid hOT; clear hOT
          obtain ⟨AL, hAL⟩ : ∃ AL, AL = G.allN p dO N := ⟨_, rfl⟩
          rw [← hAL] at hath ⊢
          have HAL := Lib.hid hAL; clear hAL hdn
          go_wp2_with fail
          refine (valid_any dO m _ (by rw [HDl.out]; omega)).mono ?_
          rintro e w8 ⟨rfl, hb8⟩
          rw [HDv.out]
          have hcw8 : w8.cell? ⟨w.heap.size, 0, none⟩ = some (.string (str p)) := (hb8.cell (p := ⟨w.heap.size, 0, none⟩) (World.block_lt_of_cell? w7 _ hcw7)).trans hcw7
          have hcl8 : w8.cell? ⟨w1.heap.size + 1, 0, none⟩ = some (.map (some w1.heap.size)) := (hb8.cell (p := ⟨w1.heap.size + 1, 0, none⟩) (World.block_lt_of_cell? w7 _ hcl7)).trans hcl7
          have hm8 := hm7.below hb8
          have hB8 := hB7.trans (hb8.mono hB7.size)
          clear hcw7 hcl7 hm7 hB7 hb8
          go_wp2_with fail
          refine (outside_any dO p l N _ _ _ _ _ HPl.out HDl.out hN hcw8 hcl8 hm8).mono ?_
          rintro e w9 ⟨rfl, hb9⟩
          rw [← HOT.out]
          have hcw9 : w9.cell? ⟨w.heap.size, 0, none⟩ = some (.string (str p)) := (hb9.cell (p := ⟨w.heap.size, 0, none⟩) (World.block_lt_of_cell? w8 _ hcw8)).trans hcw8
          have hB9 := hB8.trans (hb9.mono hB8.size)
          clear hcw8 hcl8 hm8 hB8 hb9
          have hdle : decide (2 * (OT : Int) + l.length ≤ m) = true := by rw [decide_eq_true_eq]; omega
          go_wp2_with fail
          refine (differ_any dO p _ (by rw [HPl.out, HDl.out]) (by rw [HDl.out]; omega)).mono ?_
          rintro e w10 ⟨rfl, hb10⟩
          have hB10 := hB9.trans (hb10.mono hB9.size)
          rw [HDl.out, allN_comm, ← HAL.out]
          go_wp2_with fail
          go_ret
          exact ⟨rfl, hB10⟩
      | true =>
        obtain rfl : fc = 0 := by simpa using hfc
        clear hfc
        obtain ⟨m, hnm, hfl, hfv, _, hfm, hfi⟩ := HFs.out rfl
        subst hnm
        have hfos := str_size fo
        rw [hfl] at hfos
        have HFv := Lib.hid hfv; clear hfv
        have HFl := Lib.hid hfl; clear hfl
        have HF0 := Lib.hid (othN_zero p fo l N hfi); clear hfi
        go_wp2_with fail
        refine (valid_any fo m _ (by rw [HFl.out]; omega)).mono ?_
        rintro e w4 ⟨rfl, hb4⟩
        rw [HFv.out]
        have hcw4 : w4.cell? ⟨w.heap.size, 0, none⟩ = some (.string (str p)) := (hb4.cell (p := ⟨w.heap.size, 0, none⟩) (World.block_lt_of_cell? w3 _ hcw3)).trans hcw3
        have hcl4 : w4.cell? ⟨w1.heap.size + 1, 0, none⟩ = some (.map (some w1.heap.size)) := (hb4.cell (p := ⟨w1.heap.size + 1, 0, none⟩) (World.block_lt_of_cell? w3 _ hcl3)).trans hcl3
        have hm4 := hm3.below hb4
        have hB4 := hB3.trans (hb4.mono hB3.size)
        clear hcw3 hcl3 hm3 hB3 hb4
        go_wp2_with fail
        refine (outside_any fo p l N _ _ _ _ _ HPl.out HFl.out hN hcw4 hcl4 hm4).mono ?_
        rintro e w5 ⟨rfl, hb5⟩
        rw [HF0.out]
        have hcw5 : w5.cell? ⟨w.heap.size, 0, none⟩ = some (.string (str p)) := (hb5.cell (p := ⟨w.heap.size, 0, none⟩) (World.block_lt_of_cell? w4 _ hcw4)).trans hcw4
        have hcl5 : w5.cell? ⟨w1.heap.size + 1, 0, none⟩ = some (.map (some w1.heap.size)) := (hb5.cell (p := ⟨w1.heap.size + 1, 0, none⟩) (World.block_lt_of_cell? w4 _ hcl4)).trans hcl4
        have hm5 := hm4.below hb5
        have hB5 := hB4.trans (hb5.mono hB4.size)
        clear hcw4 hcl4 hm4 hB4 hb5
        have hlm : decide ((m : Int) < l.length) = false := by rw [decide_eq_false_iff_not]; omega
        go_wp2_with fail
        have hcwW := hcw5; have hclW := hcl5; have hmW := hm5; have hBW := hB5
        clear hcw5 hcl5 hm5 hB5
        have hvD : RdI w5 (.slice va l.length vc) l := hv.keepW (fun k hk => hBW.block k hk)
        refine (decode_any p m _ l _ (by rw [HPl.out]; omega) hvD (by omega)).mono ?_
        rintro e w7 ⟨rfl, hb7⟩
        have hcw7 : w7.cell? ⟨w.heap.size, 0, none⟩ = some (.string (str p)) := (hb7.cell (p := ⟨w.heap.size, 0, none⟩) (World.block_lt_of_cell? w5 _ hcwW)).trans hcwW
        have hcl7 : w7.cell? ⟨w1.heap.size + 1, 0, none⟩ = some (.map (some w1.heap.size)) := (hb7.cell (p := ⟨w1.heap.size + 1, 0, none⟩) (World.block_lt_of_cell? w5 _ hclW)).trans hclW
        have hm7 := hmW.below hb7
        have hB7 := hBW.trans (hb7.mono hBW.size)
        clear hcwW hclW hmW hBW hb7 hvD
        rw [← HD.out]
        cases hdc : decide (dc = 0) with
        | false =>
          have hne : dc ≠ 0 := by simpa using hdc
          have hdo := (HDb.out hne)
          obtain ⟨rfl, rfl⟩ := hdo
          have hcc : (dc == 0) = false := by simpa using hne
          have hcc' : (dc != 0) = true := by unfold bne; rw [hcc]; rfl
          have HNe := Lib.hid hne; clear hne hdc
          rw [show str [] = ByteArray.empty from rfl]
          go_wp2_with fail
          go_ret
          exact ⟨rfl, hB7⟩
        | true =>
          obtain rfl : dc = 0 := by simpa using hdc
          clear hdc
          obtain ⟨m2, hnm, hdl, hdv, _, hle, hdn⟩ := HDs.out rfl
          obtain rfl : m = m2 := by omega
          clear hnm
          have hdos := str_size dO
          rw [hdl] at hdos
          have HDv := Lib.hid hdv; clear hdv
          have HDl := Lib.hid hdl; clear hdl
          rw [hdn]
          have hath := G.allN_le p dO N
          have hoth := G.othN_le p dO l N
          obtain ⟨OT, hOT⟩ : ∃ OT, OT = G.othN p dO l N := ⟨_, rfl⟩
          rw [← hOT] at hle hoth
          have HOT := Lib.hid hOT; clear hOT
          obtain ⟨AL, hAL⟩ : ∃ AL, AL = G.allN p dO N := ⟨_, rfl⟩
          rw [← hAL] at hath ⊢
          have HAL := Lib.hid hAL; clear hAL hdn
          go_wp2_with fail
          refine (valid_any dO m _ (by rw [HDl.out]; omega)).mono ?_
          rintro e w8 ⟨rfl, hb8⟩
          rw [HDv.out]
          have hcw8 : w8.cell? ⟨w.heap.size, 0, none⟩ = some (.string (str p)) := (hb8.cell (p := ⟨w.heap.size, 0, none⟩) (World.block_lt_of_cell? w7 _ hcw7)).trans hcw7
          have hcl8 : w8.cell? ⟨w1.heap.size + 1, 0, none⟩ = some (.map (some w1.heap.size)) := (hb8.cell (p := ⟨w1.heap.size + 1, 0, none⟩) (World.block_lt_of_cell? w7 _ hcl7)).trans hcl7
          have hm8 := hm7.below hb8
          have hB8 := hB7.trans (hb8.mono hB7.size)
          clear hcw7 hcl7 hm7 hB7 hb8
          go_wp2_with fail
          refine (outside_any dO p l N _ _ _ _ _ HPl.out HDl.out hN hcw8 hcl8 hm8).mono ?_
          rintro e w9 ⟨rfl, hb9⟩
          rw [← HOT.out]
          have hcw9 : w9.cell? ⟨w.heap.size, 0, none⟩ = some (.string (str p)) := (hb9.cell (p := ⟨w.heap.size, 0, none⟩) (World.block_lt_of_cell? w8 _ hcw8)).trans hcw8
          have hB9 := hB8.trans (hb9.mono hB8.size)
          clear hcw8 hcl8 hm8 hB8 hb9
          have hdle : decide (2 * (OT : Int) + l.length ≤ m) = true := by rw [decide_eq_true_eq]; omega
          go_wp2_with fail
          refine (differ_any dO p _ (by rw [HPl.out, HDl.out]) (by rw [HDl.out]; omega)).mono ?_
          rintro e w10 ⟨rfl, hb10⟩
          have hB10 := hB9.trans (hb10.mono hB9.size)
          rw [HDl.out, allN_comm, ← HAL.out]
          go_wp2_with fail
          go_ret
          exact ⟨rfl, hB10⟩
theorem sound_law (w : World) (s : ByteArray) (hs : s.size ≤ maxLen) (n : Int) (wn : (Lit.int .i64 n).wf = true) (v : Value) (l : List Int) (hv : CameI w v l) :
    Calls Try.prog 9 #[.string s, .int .i64 n, v] w fun e w' => e = .returned (.bool true) ∧ Below w.heap.size w w' := by
  have h := bd_i64 wn
  obtain ⟨hv1, hv2, a, c, rfl⟩ := hv
  have hd := str_data s hs
  rw [str_list s]
  by_cases h1 : s.data.toList.length ≤ 255
  · by_cases h2 : l.length ≤ 20
    · exact sound_walk w _ n a c l (hv1 (by omega)) h1 h2 h.1 h.2
    · exact sound_skip w _ n a c l hd hv2 (.inr ⟨h1, by omega⟩)
  · exact sound_skip w _ n a c l hd hv2 (.inl (by omega))
end Go.Proofs.Ytbijdhdapejjhaa
