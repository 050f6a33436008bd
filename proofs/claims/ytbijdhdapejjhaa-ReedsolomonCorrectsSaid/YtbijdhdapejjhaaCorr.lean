/- The law ReedsolomonCorrects: the walk. -/
import Derived.Test.YtbijdhdapejjhaaMapE
import Derived.Test.YtbijdhdapejjhaaFills
namespace Go.Proofs.Ytbijdhdapejjhaa
open Go.RowKit
set_option linter.unusedVariables false

theorem cont_take_succ (l : List Int) (k : Nat) (hk : k < l.length) : G.cont (l.take (k + 1)) = setF (G.cont (l.take k)) (ixI l k) true := by
  funext x
  unfold setF
  rw [List.take_succ_eq_append_getElem hk, G.ixI_get hk]
  by_cases e : x = l[k]
  · rw [if_pos e, G.cont_iff, List.mem_append, List.mem_singleton]
    exact .inr e
  · rw [if_neg e, Bool.eq_iff_iff, G.cont_iff, G.cont_iff, List.mem_append, List.mem_singleton]
    exact ⟨fun h => h.resolve_right e, .inl⟩

theorem byte_of (v : Int) (h : 0 ≤ v) : ∃ c : UInt8, IntKind.u8.wrap v = (c.toNat : Int) ∧ (c.toNat : Int) = v % 256 := by
  have e : IntKind.u8.wrap v = v % 256 := by simp [IntKind.wrap, IntKind.signed, IntKind.bits]
  refine ⟨UInt8.ofNat (v % 256).toNat, ?_⟩
  rw [e, G.toNat_of (by omega)]
  omega

/-- the map of errors says which positions outside the erased ones differ -/
def ErrF (f : Int → Bool) (R c : List UInt8) (l : List Int) : Prop := ∀ i : Nat, f i = (!G.cont l (i : Int) && !(G.ix R i == G.ix c i))
theorem ErrF.count {f : Int → Bool} {R c : List UInt8} {l : List Int} (h : ErrF f R c l) (left : Lit → Bool) (hl : ∀ z, left z = false) : ∀ n, cntE left f n = G.othN R c l n
  | 0 => rfl
  | n + 1 => by
    rw [cntE, G.othN, ErrF.count h left hl n, hl, h n]
    congr 1
    by_cases e : G.ix R n = G.ix c n
    · simp [e]
    · cases hc : G.cont l (n : Int) <;> simp [e]

/-- inputs at which the law says nothing -/
theorem corrects_skip (w : World) (a : List UInt8) (n : Int) (vu : Option Addr) (cu : Nat) (u : List Int) (va : Option Addr) (vc : Nat) (l : List Int) (hal : a.length ≤ 9223372036854775807) (hul : u.length ≤ 9223372036854775807) (hll : l.length ≤ 9223372036854775807) (hbig : 100 < a.length ∨ (a.length ≤ 100 ∧ 8 < u.length) ∨ (a.length ≤ 100 ∧ u.length ≤ 8 ∧ 16 < l.length)) :
    Calls Try.prog 5 #[.string (str a), .int .i64 n, .slice vu u.length cu, .slice va l.length vc] w fun e w' => e = .returned (.bool true) ∧ Below w.heap.size w w' := by
  have hs := str_size a
  rcases hbig with h | ⟨h, h'⟩ | ⟨h, h', h''⟩
  · have hd : decide ((100 : Int) < a.length) = true := by rw [decide_eq_true_eq]; omega
    go_enter Try.func5, Try.ntmps5
    go_wp2_with fail
    refine (awake_any _).mono ?_
    rintro e w1 ⟨rfl, hb1⟩
    go_wp2_with fail
    go_ret
    exact ⟨rfl, hb1⟩
  · have hd : decide ((100 : Int) < a.length) = false := by rw [decide_eq_false_iff_not]; omega
    have hd2 : decide ((8 : Int) < u.length) = true := by rw [decide_eq_true_eq]; omega
    go_enter Try.func5, Try.ntmps5
    go_wp2_with fail
    refine (awake_any _).mono ?_
    rintro e w1 ⟨rfl, hb1⟩
    go_wp2_with fail
    go_ret
    exact ⟨rfl, hb1⟩
  · have hd : decide ((100 : Int) < a.length) = false := by rw [decide_eq_false_iff_not]; omega
    have hd2 : decide ((8 : Int) < u.length) = false := by rw [decide_eq_false_iff_not]; omega
    have hd3 : decide ((16 : Int) < l.length) = true := by rw [decide_eq_true_eq]; omega
    go_enter Try.func5, Try.ntmps5
    go_wp2_with fail
    refine (awake_any _).mono ?_
    rintro e w1 ⟨rfl, hb1⟩
    go_wp2_with fail
    go_ret
    exact ⟨rfl, hb1⟩

set_option maxRecDepth 100000 in
set_option maxHeartbeats 8000000 in
theorem corrects_walk (w : World) (a : List UInt8) (n : Int) (vu : Option Addr) (cu : Nat) (u : List Int) (hu : RdU w (.slice vu u.length cu) u) (va : Option Addr) (vc : Nat) (l : List Int) (hv : RdI w (.slice va l.length vc) l) (hal : a.length ≤ 100) (hul : u.length ≤ 8) (hll : l.length ≤ 16) (h1 : -9223372036854775808 ≤ n) (h2 : n ≤ 9223372036854775807) :
    Calls Try.prog 5 #[.string (str a), .int .i64 n, .slice vu u.length cu, .slice va l.length vc] w fun e w' => e = .returned (.bool true) ∧ Below w.heap.size w w' := by
  have hs := str_size a
  have hd : decide ((100 : Int) < a.length) = false := by rw [decide_eq_false_iff_not]; omega
  have hd2 : decide ((8 : Int) < u.length) = false := by rw [decide_eq_false_iff_not]; omega
  have hd3 : decide ((16 : Int) < l.length) = false := by rw [decide_eq_false_iff_not]; omega
  have hmm := @run_makeMap Try.prog
  cases he : G.encB a n with
  | false =>
    have hE := G.encR_bad he
    have HE := Lib.hid hE; clear hE he
    go_enter Try.func5, Try.ntmps5
    go_wp2_with fail
    refine (awake_any _).mono ?_
    rintro e w1 ⟨rfl, hb1⟩
    go_wp2_with fail
    refine (encode_any a n _ (by omega) h1 h2).mono ?_
    rintro e w2 ⟨rfl, hb2⟩
    rw [HE.out]
    have hB2 := hb1.trans (hb2.mono hb1.size)
    go_wp2_with fail
    go_ret
    exact ⟨rfl, hB2⟩
  | true =>
    obtain ⟨g1, g2, g3, g4⟩ := (G.encB_iff a n).1 he
    obtain ⟨m, rfl⟩ : ∃ m : Nat, n = m := ⟨n.toNat, by omega⟩
    have hE := G.encR_ok he
    rw [Int.toNat_natCast] at hE
    have hV : G.validB (G.enc a m) m = true := by have := G.enc_valid a m he; rwa [Int.toNat_natCast] at this
    have hcl : (G.enc a m).length = a.length + m := G.enc_length a m
    have hcs := str_size (G.enc a m)
    rw [hcl] at hcs
    obtain ⟨c, hc⟩ : ∃ c, c = G.enc a m := ⟨_, rfl⟩
    rw [← hc] at hE hV hcl hcs
    obtain ⟨N, hN⟩ : ∃ N, N = a.length + m := ⟨_, rfl⟩
    rw [← hN] at hcl hcs
    have hN2 : N ≤ 116 := by omega
    have hN1 : 1 ≤ N := by omega
    have HE := Lib.hid hE; clear hE he
    have HV := Lib.hid hV; clear hV
    clear hc
    have HCl := Lib.hid hcl; clear hcl
    clear hN g3
    have hcz : (str c).data.toList = c := rfl
    have HCz := Lib.hid hcz; clear hcz
    cases hp : G.posB N l with
    | false =>
      have HP := Lib.hid hp; clear hp
      go_enter Try.func5, Try.ntmps5
      go_wp2_with fail
      refine (awake_any _).mono ?_
      rintro e w1 ⟨rfl, hb1⟩
      go_wp2_with fail
      refine (encode_any a m _ (by omega) h1 h2).mono ?_
      rintro e w2 ⟨rfl, hb2⟩
      rw [HE.out]
      have hB2 := hb1.trans (hb2.mono hb1.size)
      clear hb1 hb2
      go_wp2_with fail
      refine (positions_any (str c) N _ l _ hcs (by omega) (hv.keep hB2)).mono ?_
      rintro e w3 ⟨rfl, hb3⟩
      rw [HP.out]
      have hB3 := hB2.trans (hb3.mono hB2.size)
      go_wp2_with fail
      go_ret
      exact ⟨rfl, hB3⟩
    | true =>
      have hpat := fun k (hk : k < l.length) => G.posN_at N l hk hp
      have HPa := Lib.hid hpat; clear hpat
      have HP := Lib.hid hp; clear hp
      obtain ⟨_, ⟨a', cap', b, off, hsl, hcap, hcell⟩, hrng⟩ := id hv
      simp only [Value.slice.injEq, true_and] at hsl
      obtain ⟨rfl, rfl⟩ := hsl
      have HCc := Lib.hid hcell; clear hcell
      clear hrng
      obtain ⟨_, ⟨a2, cap2, b2, off2, hsl, hcap2, hcell⟩, hrng⟩ := id hu
      simp only [Value.slice.injEq, true_and] at hsl
      obtain ⟨rfl, rfl⟩ := hsl
      have HUc := Lib.hid hcell; clear hcell
      have HUr := Lib.hid hrng; clear hrng
      go_enter Try.func5, Try.ntmps5
      go_wp2_with fail
      refine (awake_any _).mono ?_
      rintro e w1 ⟨rfl, hb1⟩
      go_wp2_with fail
      refine (encode_any a m _ (by omega) h1 h2).mono ?_
      rintro e w2 ⟨rfl, hb2⟩
      rw [HE.out]
      have hB2 := hb1.trans (hb2.mono hb1.size)
      clear hb1 hb2
      go_wp2_with fail
      refine (positions_any (str c) N _ l _ hcs (by omega) (hv.keep hB2)).mono ?_
      rintro e w3 ⟨rfl, hb3⟩
      rw [HP.out]
      have hB3 := hB2.trans (hb3.mono hB2.size)
      clear hB2 hb3
      have hB3s := hB3.size
      go_wp2_with (refine wpList_bytes rfl _ rfl Try.underlying9 Try.underlying26 Try.underlying5 rfl ?_; intro w4 cap hr4 hb4 hcap4; have hB4 := hB3.trans (hb4.mono hB3s))
      rw [HCz.out] at hr4
      have hw4 := hr4.lt
      have hr4' := hr4.below ((Below.refl _ _).alloc (Nat.le_refl _) (.map #[] 0))
      have hB4' := hB4.alloc hB4.size (.map #[] 0)
      have hmk := SetI.made w4
      have hw4s := hB4.size
      clear hr4 hB4 hb4 hB3

      go_loopw [13, 14, 56] (fun _ _ vk wr => ∃ (k : Nat) (R : List UInt8), k ≤ l.length ∧ vk = .int .i64 k ∧ Row wr 5 w3.heap.size cap R ∧ SetI wr w4.heap.size k (G.cont (l.take k)) ∧ Hid (R.length = N) ∧ Hid (∀ j : Nat, (j : Int) ∉ l → G.ix R j = G.ix c j) ∧ Below w.heap.size w wr) (fun _ _ vk _ => l.length - (intOf vk).toNat)
      case atStart => exact ⟨0, c, by omega, rfl, hr4', hmk, HCl, Lib.hid (fun j h => rfl), hB4'⟩
      case round =>
        clear hr4' hB4' hmk
        obtain ⟨k, R, hk, rfl, hr, hset, HR, HD, hb⟩ := hrel
        by_cases hlt : k < l.length
        · obtain ⟨hax, hcp⟩ := HCc.out k hlt
          have hcw : wr.cell? ⟨b, off + k, none⟩ = some (.int .i64 (ixI l k)) := (hb.cell (p := ⟨b, off + k, none⟩) (World.block_lt_of_cell? w _ hcp)).trans hcp
          have hix := run_idx (P := Try.prog) Try.underlying34 Try.sizeInt (cap := vc) hax hlt _ rfl wr
          have Ha := Lib.hid hax; clear hax hcp
          obtain ⟨g5, g6, _⟩ := HPa.out k hlt
          obtain ⟨t, ht⟩ : ∃ t : Nat, ixI l k = t := ⟨(ixI l k).toNat, by omega⟩
          rw [ht] at hcw
          have htN : t < N := by omega
          clear g5 g6
          obtain ⟨cc, hc1, hc2⟩ := byte_of (37 * ((k : Int) + 1)) (by omega)
          have hcc := hc2.symm
          clear hc1 hc2
          have hxb := xorB (G.ix R t) cc
          have HT : Hid ((t : Int) ∈ l) := Lib.hid (by rw [← ht]; exact ixI_mem hlt)
          have HS := cont_take_succ l k hlt
          rw [ht] at HS
          have HS := Lib.hid HS
          have Ht := Lib.hid ht; clear ht
          have hbs := hb.size
          go_wp2_with (at_mapUpdate; refine wpList_setI rfl _ _ _ rfl hset rfl rfl rfl (by omega) (by omega) (by omega) ?_; intro w5 hset5 hgr5; have hr5 := hr.keep (hgr5.block w3.heap.size hr.lt (by intro e; have := Option.some.inj e; omega)); have hcs5 := hr5.cell t (by rw [HR.out]; omega); have hfs5 := hr5.frozen t (by have := hr5.le; have := HR.out; omega))
          have Hst := Lib.hid (hr5.store t (G.ix R t ^^^ cc) (by rw [HR.out]; omega))
          have hset6 := SetI.kept (w' := w5.setCell ⟨w3.heap.size, t, none⟩ (B (G.ix R t ^^^ cc))) hset5 (Below.heap_setCell _ _ _ _ (by simp; omega))
          have hB6 := (hb.grown hgr5 hbs (fun g hg => by obtain rfl := Option.some.inj hg; omega)).setCell (p := ⟨w3.heap.size, t, none⟩) hB3s (B (G.ix R t ^^^ cc))
          go_roundw
          case rel =>
            refine ⟨k + 1, R.set t (G.ix R t ^^^ cc), by omega, by go_num, Hst.out, by rw [HS.out]; exact hset6, Lib.hid (by rw [List.length_set, HR.out]), Lib.hid fun j hj => ?_, hB6⟩
            by_cases e : j = t
            · exact absurd (by rw [e]; exact HT.out) hj
            · rw [ix_set_ne _ _ e]; exact HD.out j hj
          case measure => simp [intOf]; omega
        · obtain rfl : k = l.length := by omega
          rw [List.take_length] at hset
          obtain ⟨w5, hw5⟩ : ∃ w5, w5 = wr.alloc (.map #[] 0) := ⟨_, rfl⟩
          have hr5 := hr.below ((Below.refl _ _).alloc (Nat.le_refl _) (.map #[] 0))
          have hset5 := hset.below ((Below.refl _ _).alloc (Nat.le_refl _) (.map #[] 0))
          have hb5 := hb.alloc hb.size (.map #[] 0)
          have hmk := SetE.made wr N
          have hwrs := hb.size
          have hlt4 := hset.lt
          have hltx := hr.lt
          have HErr : Hid (ErrF (fun _ => false) R c l) := Lib.hid (fun i => by
            by_cases hi : (i : Int) ∈ l
            · rw [(G.cont_iff l i).2 hi]; rfl
            · rw [HD.out i hi]; simp)
          obtain ⟨wo, rfl⟩ : ∃ wo : World, wo = wr := ⟨_, rfl⟩
          clear hw5 hr hset hb HD
          go_wp2_with fail
          go_loopw [17, 18, 77] (fun _ _ vk wr => ∃ (k : Nat) (R : List UInt8) (nn : Nat) (f : Int → Bool), k ≤ u.length ∧ vk = .int .i64 k ∧ Row wr 5 w3.heap.size cap R ∧ SetI wr w4.heap.size l.length (G.cont l) ∧ SetE wr wo.heap.size nn N f ∧ nn ≤ k ∧ Hid (R.length = N) ∧ Hid (ErrF f R c l) ∧ Below w.heap.size w wr) (fun _ _ vk _ => u.length - (intOf vk).toNat)
          case atStart => exact ⟨0, R, 0, _, by omega, rfl, hr5, hset5, hmk, by omega, HR, HErr, hb5⟩
          case round =>
            clear hr5 hset5 hb5 hmk HErr HR R
            obtain ⟨k, R, nn, f, hk, rfl, hr, hset, herr, hnn, HR, HErr, hb⟩ := hrel
            by_cases hlt : k < u.length
            · obtain ⟨hax, hcp⟩ := HUc.out k hlt
              have hcw : wr.cell? ⟨b2, off2 + k, none⟩ = some (.int .u16 (ixI u k)) := (hb.cell (p := ⟨b2, off2 + k, none⟩) (World.block_lt_of_cell? w _ hcp)).trans hcp
              have hix := run_idx (P := Try.prog) Try.underlying33 Try.sizeU16 (cap := cu) hax hlt _ rfl wr
              have Ha := Lib.hid hax; clear hax hcp
              have hzr := HUr.out k hlt
              obtain ⟨z, hz⟩ : ∃ z : Nat, ixI u k = z := ⟨(ixI u k).toNat, by omega⟩
              rw [hz] at hcw hzr
              have Hz := Lib.hid hz; clear hz
              obtain ⟨t, ht⟩ : ∃ t : Nat, t = z / 256 % N := ⟨_, rfl⟩
              have htN : t < N := by rw [ht]; exact Nat.mod_lt _ (by omega)
              have hat : (z : Int) / 256 % (N : Int) = (t : Int) := by rw [ht]; simp
              clear ht
              obtain ⟨cc, hc1, hc2⟩ := byte_of (z : Int) (by omega)
              have hcc := hc2.symm
              clear hc1 hc2
              have hlk := hset.run (t : Int) (by omega) (by omega)
              cases hct : G.cont l (t : Int) with
              | true =>
                rw [hct] at hlk
                have Hct := Lib.hid hct; clear hct
                go_wp2_with fail
                go_roundw
                case rel => exact ⟨k + 1, R, nn, f, by omega, by go_num, hr, hset, herr, by omega, HR, HErr, hb⟩
                case measure => simp [intOf]; omega
              | false =>
                rw [hct] at hlk
                have Hct := Lib.hid hct; clear hct
                by_cases hc0 : cc = 0
                · have hcb : ((cc.toNat : Int) == 0) = true := by rw [hc0]; rfl
                  have hcb' : ((cc.toNat : Int) != 0) = false := by rw [hc0]; rfl
                  have Hc0 := Lib.hid hc0; clear hc0
                  go_wp2_with fail
                  go_roundw
                  case rel => exact ⟨k + 1, R, nn, f, by omega, by go_num, hr, hset, herr, by omega, HR, HErr, hb⟩
                  case measure => simp [intOf]; omega
                · have hcb : ((cc.toNat : Int) == 0) = false := by rw [byte_beq0]; simpa using hc0
                  have hcb' : ((cc.toNat : Int) != 0) = true := by unfold bne; rw [hcb]; rfl
                  have Hc0 := Lib.hid hc0; clear hc0
                  have hxb := xorB (G.ix R t) cc
                  have hcs5 := hr.cell t (by rw [HR.out]; omega)
                  have hfs5 := hr.frozen t (by have := hr.le; have := HR.out; omega)
                  obtain ⟨dd, hdd⟩ : ∃ dd, dd = G.ix R t ^^^ cc := ⟨_, rfl⟩
                  rw [← hdd] at hxb
                  have hr6 := hr.store t dd (by rw [HR.out]; omega)
                  have hset6 := SetI.kept (w' := wr.setCell ⟨w3.heap.size, t, none⟩ (B dd)) hset (Below.heap_setCell _ _ _ _ (by simp; omega))
                  have herr6 := SetE.kept (w' := wr.setCell ⟨w3.heap.size, t, none⟩ (B dd)) herr (Below.heap_setCell _ _ _ _ (by simp; omega))
                  have hB6 := hb.setCell (p := ⟨w3.heap.size, t, none⟩) hB3s (B dd)
                  have hdl : (R.set t dd).length = N := by rw [List.length_set, HR.out]
                  have hix6 : G.ix (R.set t dd) t = dd := ix_set_self _ _ (by rw [HR.out]; exact htN)
                  have hcs6 := hr6.cell t (by rw [hdl]; exact htN)
                  rw [hix6] at hcs6
                  have HDl := Lib.hid hdl; clear hdl
                  have HI6 := Lib.hid hix6; clear hix6
                  have HDd := Lib.hid hdd; clear hdd
                  go_wp2_with fail
                  rw [hat]
                  have hi1 := fun wx => run_sidx (P := Try.prog) Try.underlying9 c t (by rw [HCl.out]; exact htN) _ rfl wx
                  obtain ⟨V, hV⟩ : ∃ V, V = !(dd == G.ix c t) := ⟨_, rfl⟩
                  have hVb : ((dd.toNat : Int) != ((G.ix c t).toNat : Int)) = V := by
                    rw [hV]
                    by_cases e : dd = G.ix c t
                    · rw [e]; simp
                    · have e2 : ¬ ((dd.toNat : Int) = ((G.ix c t).toNat : Int)) := fun h => e (UInt8.toNat_inj.1 (by omega))
                      unfold bne; rw [beq_eq_false_iff_ne.2 e, beq_eq_false_iff_ne.2 e2]
                  have HVv := Lib.hid hV; clear hV
                  have hwo6 : wo.heap.size < (wr.setCell ⟨w3.heap.size, t, none⟩ (B dd)).heap.size := herr6.lt
                  clear hat hlk hcs5 hfs5 hcw hix hcb hcb' hxb hcc hr hset herr
                  have hB6s := hB6.size
                  change Code.wp _ _ _ _ (wr.setCell ⟨w3.heap.size, t, none⟩ (B dd))
                  generalize wr.setCell ⟨w3.heap.size, t, none⟩ (B dd) = w6 at hr6 hset6 herr6 hB6 hcs6 hwo6 hB6s ⊢
                  go_still_tail 10, (by kernel_rfl)
                  change wpList _ _ _ _ _ w6.drew
                  have hr7 : Row w6.drew 5 w3.heap.size cap (R.set t dd) := hr6.keep rfl
                  have hset7 := SetI.kept (w' := w6.drew) hset6 rfl
                  have herr7 := SetE.kept (w' := w6.drew) herr6 rfl
                  have hB7 := hB6.drew
                  generalize w6.drew = w7 at hr7 hset7 herr7 hB7 ⊢
                  have hB7s := hB7.size
                  go_wp2_with (at_mapUpdate; refine wpList_setE rfl _ _ _ rfl herr7 rfl rfl rfl htN (by omega) (by omega) ?_; intro w8 herr8 hgr8)
                  have hr8 := hr7.keep (hgr8.block w3.heap.size hr7.lt (by intro e; have := Option.some.inj e; omega))
                  have hset8 := hset7.kept (hgr8.block w4.heap.size hset7.lt (by intro e; have := Option.some.inj e; omega))
                  have hB8 := hB7.grown hgr8 hB7s (fun g hg => by obtain rfl := Option.some.inj hg; omega)
                  go_roundw
                  case rel =>
                    refine ⟨k + 1, R.set t dd, nn + 1, setF f t V, by omega, by go_num, hr8, hset8, herr8, by omega, HDl, Lib.hid fun i => ?_, hB8⟩
                    unfold setF
                    by_cases e : i = t
                    · subst e
                      rw [if_pos rfl, HI6.out, Hct.out, HVv.out]; rfl
                    · rw [if_neg (by omega), ix_set_ne _ _ e]; exact HErr.out i
                  case measure => simp [intOf]; omega
            · obtain ⟨D, hown, hDf, hDk⟩ := herr
              have hXlt := hr.lt
              have hbs := hb.size
              obtain ⟨wq, rfl⟩ : ∃ wq : World, wq = wr := ⟨_, rfl⟩
              have hwoq := hown.lt
              go_wp2_with (at_range; refine wpList_range_own _ rfl _ 36 rfl 3 4 lawInt Try.underlying36 _ wo.heap.size nn _ rfl hown ?_; intro w9 hrg9 hg9 hs9)
              go_frame
              have hr9 := hr.keep (hg9.block w3.heap.size hr.lt (by simp))
              have hB9 := hb.grown hg9 hbs (by simp)
              have hC0 : cntE (Maps.has D) f N = 0 := cntE_none D f hDf N (by omega)
              go_loopw [19, 21] (fun vn _ wr => ∃ (left : Lit → Bool) (cnt : Nat), wr.ranges Try.prog 3 (plainElem Try.prog 4) wo.heap.size wq.heap.size nn D left cnt ∧ vn = .int .i64 (cntE left f N) ∧ Row wr 5 w3.heap.size cap R ∧ Hid (∀ z, left z = true → Maps.has D z = true) ∧ Below w.heap.size w wr) (fun _ _ wr => wr.rangeLeft wo.heap.size wq.heap.size)
              case atStart => exact ⟨_, _, hrg9, by rw [hC0]; rfl, hr9, Lib.hid (fun z h => h), hB9⟩
              case round =>
                clear hr9 hB9 hrg9 hg9 hs9 hC0 hr hb
                obtain ⟨left, cnt, hrg, rfl, hr, HLf, hb⟩ := hrel
                have hcl := cntE_le left f N
                go_wp2_with (at_next; refine wpList_next_ranges _ rfl _ rfl 3 lawInt (plainElem Try.prog 4) (Value.int .i64) (fun q : Nat => Value.bool (q == 1)) (fun key kl hkey => by obtain ⟨x, rfl, _⟩ := Maps.keyOf_int_inv Try.underlying3 hkey; exact ⟨x, rfl⟩) (fun v y hv => by obtain ⟨c, rfl, _⟩ := plainElem_bool_inv Try.underlying4 hv; exact ⟨if c then 1 else 0, by cases c <;> rfl⟩) wo.heap.size wq.heap.size nn _ _ _ rfl hrg ?_ ?_)
                · intro _ hl0
                  have hcount := HErr.out.count left hl0 N
                  rw [hcount]
                  rw [hcount] at hcl
                  obtain ⟨O, hO⟩ : ∃ O, O = G.othN R c l N := ⟨_, rfl⟩
                  rw [← hO] at hcl ⊢
                  have HO := Lib.hid hO; clear hO
                  clear hcount hrg
                  have hrd : Rd wr (.slice (some ⟨w3.heap.size, 0, none⟩) N cap) R := by
                    have := hr.rd (by rw [HR.out]; omega)
                    rwa [HR.out] at this
                  have hcx := run_str (P := Try.prog) Try.underlying26 Try.underlying5 Try.underlying9 hrd
                  by_cases hbig : 2 * O + l.length ≤ m
                  · have hdb : decide ((m : Int) < 2 * (O : Int) + l.length) = false := by rw [decide_eq_false_iff_not]; omega
                    have hdec : G.decode R m l = (c, (G.allN R c N : Int), 0) := by
                      have := G.decode_spec R c m l (by rw [HR.out, HCl.out]) HV.out (by rw [HR.out]; exact HP.out) (by rw [HR.out, ← HO.out]; exact hbig)
                      rwa [HR.out] at this
                    have HDec := Lib.hid hdec; clear hdec
                    have hall := G.allN_le R c N
                    go_wp2_with fail
                    refine (decode_any R m _ l _ (by rw [HR.out]; omega) (hv.keepW (fun k hk => hb.block k hk)) (by omega)).mono ?_
                    rintro e w10 ⟨rfl, hb10⟩
                    rw [HDec.out]
                    have hB10 := hb.trans (hb10.mono hb.size)
                    have hrd10 := hrd.keep hb10
                    have hcx10 := run_str (P := Try.prog) Try.underlying26 Try.underlying5 Try.underlying9 hrd10
                    clear hcx hrd hr hb hb10
                    obtain ⟨AL, hAL⟩ : ∃ AL, AL = G.allN R c N := ⟨_, rfl⟩
                    rw [← hAL] at hall ⊢
                    have HAL := Lib.hid hAL; clear hAL
                    go_wp2_with fail
                    refine (differ_any R c _ (by rw [HR.out, HCl.out]) (by rw [HR.out]; omega)).mono ?_
                    rintro e w11 ⟨rfl, hb11⟩
                    rw [HR.out, ← HAL.out]
                    have hB11 := hB10.trans (hb11.mono hB10.size)
                    go_wp2_with fail
                    go_ret
                    exact ⟨rfl, hB11⟩
                  · have hdb : decide ((m : Int) < 2 * (O : Int) + l.length) = true := by rw [decide_eq_true_eq]; omega
                    go_wp2_with fail
                    go_ret
                    exact ⟨rfl, hb⟩
                · intro x cq kl y1 y2 w10 cnt10 hkx hlx hvy hat hrg10 hlt10 hg10 hs10 hen
                  obtain ⟨x', ex, rfl, hwx⟩ := Maps.keyOf_int_inv Try.underlying3 hkx
                  obtain rfl : x = x' := by simpa using ex
                  obtain ⟨cv, ec, hy⟩ := plainElem_bool_inv Try.underlying4 hvy
                  have hcv : (cq == 1) = cv := by simpa using ec
                  rw [hcv] at hen ⊢
                  clear hvy ec hcv
                  have hat : ∀ zd, D.atKey (.int .i64 x) zd = .lit (.bool cv) := fun zd => by
                    have := hat zd
                    simp only [Prod.mk.injEq] at hy
                    rw [this, hy.1]
                  clear hy
                  obtain ⟨gx1, gx2⟩ := hDk x (HLf.out _ hlx)
                  obtain ⟨t, rfl⟩ : ∃ t : Nat, x = t := ⟨x.toNat, by omega⟩
                  have htN : t < N := by omega
                  have hft : f t = cv := by
                    have h1 := hat (.lit (.bool false))
                    have h2 := hDf t (by omega) (by omega)
                    rw [h2] at h1
                    simpa using h1
                  have hstep := cntE_step left f t hlx N
                  have HLf' : Hid (∀ z, (left z && !z.sameKey (.int .i64 (t : Int))) = true → Maps.has D z = true) := Lib.hid (fun z h => HLf.out z (by rw [Bool.and_eq_true] at h; exact h.1))
                  have hr10 := hr.keep (hg10.block w3.heap.size hr.lt (by intro e; have := Option.some.inj e; omega))
                  have hB10 := hb.grown hg10 hb.size (fun g hg => by obtain rfl := Option.some.inj hg; omega)
                  have hleft := hrg.left_eq
                  have HLe := Lib.hid hleft; clear hleft
                  clear hat hkx ex hlx gx1 gx2 hwx hrg hr hb
                  cases cv with
                  | true =>
                    rw [if_pos ⟨htN, hft⟩] at hstep
                    have HSt := Lib.hid hstep; clear hstep hft
                    go_wp2_with fail
                    go_roundw
                    case rel => exact ⟨_, cnt10, hrg10, by rw [HSt.out]; go_num, hr10, HLf', hB10⟩
                    case measure => rw [hrg10.left_eq, HLe.out]; exact hlt10
                  | false =>
                    rw [if_neg (by rw [hft]; simp)] at hstep
                    have HSt := Lib.hid hstep; clear hstep hft
                    go_wp2_with fail
                    go_roundw
                    case rel => exact ⟨_, cnt10, hrg10, by rw [HSt.out]; simp, hr10, HLf', hB10⟩
                    case measure => rw [hrg10.left_eq, HLe.out]; exact hlt10

theorem corrects_law (w : World) (s : ByteArray) (hs : s.size ≤ maxLen) (n : Int) (wn : (Lit.int .i64 n).wf = true) (vu : Value) (u : List Int) (hu : CameU w vu u) (v : Value) (l : List Int) (hv : CameI w v l) :
    Calls Try.prog 5 #[.string s, .int .i64 n, vu, v] w fun e w' => e = .returned (.bool true) ∧ Below w.heap.size w w' := by
  have h := bd_i64 wn
  obtain ⟨hv1, hv2, a, c, rfl⟩ := hv
  obtain ⟨hu1, hu2, a2, c2, rfl⟩ := hu
  have hd := str_data s hs
  rw [str_list s]
  by_cases h1 : s.data.toList.length ≤ 100
  · by_cases h3 : u.length ≤ 8
    · by_cases h2 : l.length ≤ 16
      · exact corrects_walk w _ n a2 c2 u (hu1 (by omega)) a c l (hv1 (by omega)) h1 h3 h2 h.1 h.2
      · exact corrects_skip w _ n a2 c2 u a c l hd hu2 hv2 (.inr (.inr ⟨h1, h3, by omega⟩))
    · exact corrects_skip w _ n a2 c2 u a c l hd hu2 hv2 (.inr (.inl ⟨h1, by omega⟩))
  · exact corrects_skip w _ n a2 c2 u a c l hd hu2 hv2 (.inl (by omega))
end Go.Proofs.Ytbijdhdapejjhaa
