/- The law ReedsolomonFills: the walk. -/
import Derived.Test.YtbijdhdapejjhaaCodes
import Derived.Test.YtbijdhdapejjhaaDecP
import Derived.Test.YtbijdhdapejjhaaOpenI
namespace Go.Proofs.Ytbijdhdapejjhaa
open Go.RowKit
set_option linter.unusedVariables false

theorem str_data (s : ByteArray) (hs : s.size ≤ maxLen) : s.data.toList.length ≤ 9223372036854775807 := by
  unfold maxLen at hs
  rw [Array.length_toList]; exact hs
theorem fill_many_eq (x : List UInt8) (n : Nat) (l : List Int) (hs : G.shapedB x n = true) (hp : G.posB x.length l = true) (hl : n < l.length) : G.fill x n l = ([], 11) := by
  unfold G.fill
  rw [if_neg (by simp [hs]), if_neg (by simp [hp]), if_pos (by omega)]

/-- inputs at which the law says nothing -/
theorem fills_skip (w : World) (a : List UInt8) (n : Int) (va : Option Addr) (vc : Nat) (l : List Int) (hal : a.length ≤ 9223372036854775807) (hll : l.length ≤ 9223372036854775807) (h1 : -9223372036854775808 ≤ n) (h2 : n ≤ 9223372036854775807) (hbig : 100 < a.length ∨ a.length ≤ 100 ∧ 16 < l.length) :
    Calls Try.prog 10 #[.string (str a), .int .i64 n, .slice va l.length vc] w fun e w' => e = .returned (.bool true) ∧ Below w.heap.size w w' := by
  have hs := str_size a
  rcases hbig with h | ⟨h, h'⟩
  · have hd : decide ((100 : Int) < a.length) = true := by rw [decide_eq_true_eq]; omega
    go_enter Try.func10, Try.ntmps10
    go_wp2_with fail
    refine (awake_any _).mono ?_
    rintro e w1 ⟨rfl, hb1⟩
    go_wp2_with fail
    go_ret
    exact ⟨rfl, hb1⟩
  · have hd : decide ((100 : Int) < a.length) = false := by rw [decide_eq_false_iff_not]; omega
    have hd2 : decide ((16 : Int) < l.length) = true := by rw [decide_eq_true_eq]; omega
    go_enter Try.func10, Try.ntmps10
    go_wp2_with fail
    refine (awake_any _).mono ?_
    rintro e w1 ⟨rfl, hb1⟩
    go_wp2_with fail
    go_ret
    exact ⟨rfl, hb1⟩

/-- what one erased position becomes -/
theorem byte_91 (k : Nat) (hk : k < 16) : ∃ c : UInt8, IntKind.u8.wrap (91 * (k : Int)) = (c.toNat : Int) := by
  have e : IntKind.u8.wrap (91 * (k : Int)) = (91 * (k : Int)) % 256 := by simp [IntKind.wrap, IntKind.signed, IntKind.bits]
  refine ⟨UInt8.ofNat ((91 * k) % 256), ?_⟩
  rw [e, G.toNat_of (Nat.mod_lt _ (by omega))]
  omega

set_option maxRecDepth 100000 in
set_option maxHeartbeats 4000000 in
theorem fills_walk (w : World) (a : List UInt8) (n : Int) (va : Option Addr) (vc : Nat) (l : List Int) (hv : RdI w (.slice va l.length vc) l) (hal : a.length ≤ 100) (hll : l.length ≤ 16) (h1 : -9223372036854775808 ≤ n) (h2 : n ≤ 9223372036854775807) :
    Calls Try.prog 10 #[.string (str a), .int .i64 n, .slice va l.length vc] w fun e w' => e = .returned (.bool true) ∧ Below w.heap.size w w' := by
  have hs := str_size a
  have hd : decide ((100 : Int) < a.length) = false := by rw [decide_eq_false_iff_not]; omega
  have hd2 : decide ((16 : Int) < l.length) = false := by rw [decide_eq_false_iff_not]; omega
  cases he : G.encB a n with
  | false =>
    have hE := G.encR_bad he
    have HE := Lib.hid hE; clear hE he
    go_enter Try.func10, Try.ntmps10
    go_wp2_with fail
    refine (awake_any _).mono ?_
    rintro e w1 ⟨rfl, hb1⟩
    go_wp2_with fail
    refine (encode_any a n _ (by omega) h1 h2).mono ?_
    rintro e w2 ⟨rfl, hb2⟩
    rw [HE.out]
    have hB2 := hb1.trans (hb2.mono hb1.size)
    go_wp2_with fail
    go_ret
    exact ⟨rfl, hB2⟩
  | true =>
    obtain ⟨g1, g2, g3, g4⟩ := (G.encB_iff a n).1 he
    obtain ⟨m, rfl⟩ : ∃ m : Nat, n = m := ⟨n.toNat, by omega⟩
    have hE := G.encR_ok he
    rw [Int.toNat_natCast] at hE
    have hV : G.validB (G.enc a m) m = true := by have := G.enc_valid a m he; rwa [Int.toNat_natCast] at this
    have hcl : (G.enc a m).length = a.length + m := G.enc_length a m
    have hcs := str_size (G.enc a m)
    rw [hcl] at hcs
    obtain ⟨c, hc⟩ : ∃ c, c = G.enc a m := ⟨_, rfl⟩
    rw [← hc] at hE hV hcl hcs
    obtain ⟨N, hN⟩ : ∃ N, N = a.length + m := ⟨_, rfl⟩
    rw [← hN] at hcl hcs
    have hN2 : N ≤ 116 := by omega
    have HE := Lib.hid hE; clear hE he
    have HV := Lib.hid hV; clear hV
    have HC := Lib.hid hc; clear hc
    have HCl := Lib.hid hcl; clear hcl
    have HNn := Lib.hid hN; clear hN
    clear g3
    have hcz : (str c).data.toList = c := rfl
    have HCz := Lib.hid hcz; clear hcz
    cases hp : G.posB N l with
    | false =>
      have HP := Lib.hid hp; clear hp
      go_enter Try.func10, Try.ntmps10
      go_wp2_with fail
      refine (awake_any _).mono ?_
      rintro e w1 ⟨rfl, hb1⟩
      go_wp2_with fail
      refine (encode_any a m _ (by omega) h1 h2).mono ?_
      rintro e w2 ⟨rfl, hb2⟩
      rw [HE.out]
      have hB2 := hb1.trans (hb2.mono hb1.size)
      clear hb1 hb2
      go_wp2_with fail
      refine (positions_any (str c) N _ l _ hcs (by omega) (hv.keep hB2)).mono ?_
      rintro e w3 ⟨rfl, hb3⟩
      rw [HP.out]
      have hB3 := hB2.trans (hb3.mono hB2.size)
      go_wp2_with fail
      go_ret
      exact ⟨rfl, hB3⟩
    | true =>
      have hpat := fun k (hk : k < l.length) => G.posN_at N l hk hp
      have HPa := Lib.hid hpat; clear hpat
      have HP := Lib.hid hp; clear hp
      obtain ⟨_, ⟨a', cap', b, off, hsl, hcap, hcell⟩, hrng⟩ := id hv
      simp only [Value.slice.injEq, true_and] at hsl
      obtain ⟨rfl, rfl⟩ := hsl
      have HCc := Lib.hid hcell; clear hcell
      clear hrng
      go_enter Try.func10, Try.ntmps10
      go_wp2_with fail
      refine (awake_any _).mono ?_
      rintro e w1 ⟨rfl, hb1⟩
      go_wp2_with fail
      refine (encode_any a m _ (by omega) h1 h2).mono ?_
      rintro e w2 ⟨rfl, hb2⟩
      rw [HE.out]
      have hB2 := hb1.trans (hb2.mono hb1.size)
      clear hb1 hb2
      go_wp2_with fail
      refine (positions_any (str c) N _ l _ hcs (by omega) (hv.keep hB2)).mono ?_
      rintro e w3 ⟨rfl, hb3⟩
      rw [HP.out]
      have hB3 := hB2.trans (hb3.mono hB2.size)
      clear hB2 hb3
      have hB3s := hB3.size
      go_wp2_with (refine wpList_bytes rfl _ rfl Try.underlying9 Try.underlying26 Try.underlying5 rfl ?_; intro w4 cap hr4 hb4 hcap4; have hB4 := hB3.trans (hb4.mono hB3s))
      rw [HCz.out] at hr4
      go_loopw [10, 11, 41] (fun _ _ vk wr => ∃ (k : Nat) (R : List UInt8), k ≤ l.length ∧ vk = .int .i64 k ∧ Row wr 5 w3.heap.size cap R ∧ Hid (R.length = N) ∧ Hid (∀ j, G.ix R j ≠ G.ix c j → (j : Int) ∈ l) ∧ Below w.heap.size w wr) (fun _ _ vk _ => l.length - (intOf vk).toNat)
      case atStart => exact ⟨0, c, by omega, rfl, hr4, HCl, Lib.hid (fun j h => absurd rfl h), hB4⟩
      case round =>
        clear hr4 hB4 hb4
        obtain ⟨k, R, hk, rfl, hr, HR, HD, hb⟩ := hrel
        by_cases hlt : k < l.length
        · obtain ⟨hax, hcp⟩ := HCc.out k hlt
          have hcw : wr.cell? ⟨b, off + k, none⟩ = some (.int .i64 (ixI l k)) := (hb.cell (p := ⟨b, off + k, none⟩) (World.block_lt_of_cell? w _ hcp)).trans hcp
          have hix := run_idx (P := Try.prog) Try.underlying34 Try.sizeInt (cap := vc) hax hlt _ rfl wr
          have Ha := Lib.hid hax; clear hax hcp
          obtain ⟨g5, g6, _⟩ := HPa.out k hlt
          obtain ⟨t, ht⟩ : ∃ t : Nat, ixI l k = t := ⟨(ixI l k).toNat, by omega⟩
          rw [ht] at hcw
          have htN : t < N := by omega
          clear g5 g6
          obtain ⟨cc, hcc⟩ := byte_91 k (by omega)
          have HT : Hid ((t : Int) ∈ l) := Lib.hid (by rw [← ht]; exact ixI_mem hlt)
          have Ht := Lib.hid ht; clear ht
          have hRl := HR.out
          have hcs4 := hr.cell t (by omega)
          have hfs4 := hr.frozen t (by have := hr.le; omega)
          have Hst := Lib.hid (hr.store t cc (by omega))
          clear hRl
          go_wp2_with fail
          go_roundw
          case rel =>
            refine ⟨k + 1, R.set t cc, by omega, by go_num, Hst.out, Lib.hid (by rw [List.length_set, HR.out]), Lib.hid fun j hj => ?_, hb.setCell (p := ⟨w3.heap.size, t, none⟩) hB3s _⟩
            by_cases e : j = t
            · rw [e]; exact HT.out
            · rw [ix_set_ne _ _ e] at hj; exact HD.out j hj
          case measure => simp [intOf]; omega
        · have hrd : Rd wr (.slice (some ⟨w3.heap.size, 0, none⟩) N cap) R := by
            have := hr.rd (by rw [HR.out]; omega)
            rwa [HR.out] at this
          have hcx := run_str (P := Try.prog) Try.underlying26 Try.underlying5 Try.underlying9 hrd
          go_wp2_with fail
          refine (fill_any R m _ l _ (by rw [HR.out]; omega) (hv.keepW (fun k hk => hb.block k hk)) (by omega)).mono ?_
          rintro e w5 ⟨rfl, hb5⟩
          have hB5 := hb.trans (hb5.mono hb.size)
          clear hb hb5 hr
          by_cases hlm : l.length ≤ m
          · have hf : G.fill R m l = (c, 0) := G.fill_spec R c m l (by rw [HR.out, HCl.out]) HV.out (by rw [HR.out]; exact HP.out) hlm HD.out
            rw [hf]
            clear hf
            have hdl : decide ((m : Int) < l.length) = false := by rw [decide_eq_false_iff_not]; omega
            go_wp2_with fail
            go_ret
            exact ⟨rfl, hB5⟩
          · have hf : G.fill R m l = ([], 11) := fill_many_eq R m l (by
              have := ((G.validB_iff c m).1 HV.out).1
              rwa [← G.shapedB_len m (show R.length = c.length by rw [HR.out, HCl.out])] at this) (by rw [HR.out]; exact HP.out) (by omega)
            rw [hf]
            clear hf
            rw [show str [] = ByteArray.empty from rfl]
            have hdl : decide ((m : Int) < l.length) = true := by rw [decide_eq_true_eq]; omega
            go_wp2_with fail
            go_ret
            exact ⟨rfl, hB5⟩

theorem fills_law (w : World) (s : ByteArray) (hs : s.size ≤ maxLen) (n : Int) (wn : (Lit.int .i64 n).wf = true) (v : Value) (l : List Int) (hv : CameI w v l) :
    Calls Try.prog 10 #[.string s, .int .i64 n, v] w fun e w' => e = .returned (.bool true) ∧ Below w.heap.size w w' := by
  have h := bd_i64 wn
  obtain ⟨hv1, hv2, a, c, rfl⟩ := hv
  have hd := str_data s hs
  rw [str_list s]
  by_cases h1 : s.data.toList.length ≤ 100
  · by_cases h2 : l.length ≤ 16
    · exact fills_walk w _ n a c l (hv1 (by omega)) h1 h2 h.1 h.2
    · exact fills_skip w _ n a c l hd hv2 h.1 h.2 (.inr ⟨h1, by omega⟩)
  · exact fills_skip w _ n a c l hd hv2 h.1 h.2 (.inl (by omega))
end Go.Proofs.Ytbijdhdapejjhaa
