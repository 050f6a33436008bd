/- The law SubchannelDetects walked: it returns true. -/
import Derived.Test.YtenbafolmmemgaaQld
import Derived.Test.YtenbafolmmemgaaQdt
import Derived.Test.YtenbafolmmemgaaRow
namespace Go.Proofs.Ytenbafolmmemgaa.W10
open Go.RowKit
set_option linter.unusedVariables false

theorem xor_by (x : UInt8) {c : Int} (h0 : 0 ≤ c) (h1 : c < 256) : bits .xor .u8 (x.toNat : Int) c = ((x ^^^ by8 c).toNat : Int) := by
  have e : c = ((by8 c).toNat : Int) := (by8_nat h0 h1).symm
  have h2 : bits .xor .u8 (x.toNat : Int) ((by8 c).toNat : Int) = ((x.toNat ^^^ (by8 c).toNat : Nat) : Int) := u8_xor_nat x.toNat (by8 c).toNat x.toNat_lt (by8 c).toNat_lt
  rw [← e] at h2
  rw [h2, UInt8.toNat_xor]
theorem by8_zero {c : Int} (h0 : 0 ≤ c) (h1 : c < 256) (h : by8 c = 0) : c = 0 := by
  have := by8_nat h0 h1
  rw [h] at this
  simpa using this.symm
set_option maxRecDepth 100000 in
set_option maxHeartbeats 4000000 in
theorem detects_skip (q : Q.Fr) (a c : Int) (w : World) (h : encC q ≠ 0 ∨ c = 0) :
    Calls Try.prog 8 #[fagg q, .int .u8 a, .int .u16 c] w (RB true w) := by
  rcases encC_01 q with hc | ⟨hc, _⟩
  · have h0 : c = 0 := by
      rcases h with h | h
      · exact (h hc).elim
      · exact h
    subst h0
    have hc1 : (encC q == 0) = true := by rw [hc]; rfl
    have hc2 : (encC q != 0) = false := by rw [hc]; rfl
    clear hc h
    go_enter Try.func8, Try.ntmps8
    go_wp2_with fail
    refine (awake_any _).mono ?_
    rintro e w1 ⟨rfl, hb1⟩
    have hq1 : FB w1 w.heap.size q := (Bx.new w 27 (fcs q)).call hb1
    have hle1 := ((Below.refl w.heap.size w).alloc (Nat.le_refl _) (fobj q)).trans (hb1.mono (by simp))
    clear hb1
    obtain ⟨p0, p1, p2, p3, p4, p5, p6, p7, p8⟩ := fcs_cells hq1
    clear hq1
    go_wp2_with fail
    refine (enc_any q _).mono ?_
    rintro e w2 ⟨rfl, hb2⟩
    have hle2 := hle1.trans (hb2.mono hle1.size)
    clear hb2 p0 p1 p2 p3 p4 p5 p6 p7 p8
    go_wp2_with fail
    go_ret
    exact ⟨ret_t rfl, hle2⟩
  · have hc1 : (encC q == 0) = false := by rw [hc]; rfl
    have hc2 : (encC q != 0) = true := by rw [hc]; rfl
    clear hc h
    go_enter Try.func8, Try.ntmps8
    go_wp2_with fail
    refine (awake_any _).mono ?_
    rintro e w1 ⟨rfl, hb1⟩
    have hq1 : FB w1 w.heap.size q := (Bx.new w 27 (fcs q)).call hb1
    have hle1 := ((Below.refl w.heap.size w).alloc (Nat.le_refl _) (fobj q)).trans (hb1.mono (by simp))
    clear hb1
    obtain ⟨p0, p1, p2, p3, p4, p5, p6, p7, p8⟩ := fcs_cells hq1
    clear hq1
    go_wp2_with fail
    refine (enc_any q _).mono ?_
    rintro e w2 ⟨rfl, hb2⟩
    have hle2 := hle1.trans (hb2.mono hle1.size)
    clear hb2 p0 p1 p2 p3 p4 p5 p6 p7 p8
    go_wp2_with fail
    go_ret
    exact ⟨ret_t rfl, hle2⟩
set_option maxRecDepth 100000 in
set_option maxHeartbeats 4000000 in
theorem detects_do (q : Q.Fr) (a c : Int) (w : World) (hf : frB q = true) (a0 : 0 ≤ a) (a1 : a ≤ 255) (c0 : 0 ≤ c) (c1 : c ≤ 65535) (hne : c ≠ 0) :
    Calls Try.prog 8 #[fagg q, .int .u8 a, .int .u16 c] w (RB true w) := by
  have HEN := Lib.hid (fun W => enc_yes q W hf)
  have hl : (encL q).length = 12 := encL_length q
  have hchk : chk ((encL q).take 10) = (encL q).drop 10 := rfl
  generalize encL q = l at HEN hl hchk
  obtain ⟨k, hk⟩ : ∃ k : Nat, (k : Int) = a % 11 := ⟨(a % 11).toNat, by omega⟩
  have hk11 : k < 11 := by omega
  have hlo : 0 ≤ c % 256 ∧ c % 256 < 256 := by omega
  have hhi : 0 ≤ c / 256 ∧ c / 256 < 256 := by omega
  have hdet := detect l k (by8 (c % 256)) (by8 (c / 256)) hl hk11 (fun h => by
    have h1 := by8_zero hlo.1 hlo.2 h.1
    have h2 := by8_zero hhi.1 hhi.2 h.2
    omega) hchk
  have hupl := upd_length l k (by8 (c % 256)) (by8 (c / 256))
  have HDE := Lib.hid (fun W => dec_any (upd l k (by8 (c % 256)) (by8 (c / 256))) W (by rw [hupl, hl]; omega))
  rw [decR_chk (hupl.trans hl) hdet] at HDE
  have hsz : (str l).size = 12 := by rw [str_size, hl]
  have hc2 : (c == 0) = false := by simpa using hne
  have hw8 : IntKind.u8.wrap c = c % 256 := by rw [IntKind.wrap_u8']
  have hw9 : IntKind.u8.wrap (c / 256) = c / 256 := by rw [IntKind.wrap_u8']; omega
  have hx1 := xor_by (G.ix l k) hlo.1 hlo.2
  have hx2 := xor_by (G.ix l (k + 1)) hhi.1 hhi.2
  have HL := Lib.hid hl
  have HK := Lib.hid hk.symm
  clear hl hchk hdet hupl hne hk hlo hhi
  go_enter Try.func8, Try.ntmps8
  go_wp2_with fail
  refine (awake_any _).mono ?_
  rintro e w1 ⟨rfl, hb1⟩
  have hq1 : FB w1 w.heap.size q := (Bx.new w 27 (fcs q)).call hb1
  have hle1 := ((Below.refl w.heap.size w).alloc (Nat.le_refl _) (fobj q)).trans (hb1.mono (by simp))
  clear hb1
  obtain ⟨p0, p1, p2, p3, p4, p5, p6, p7, p8⟩ := fcs_cells hq1
  clear hq1
  go_wp2_with fail
  refine (HEN.out _).mono ?_
  rintro e w2 ⟨rfl, hb2⟩
  have hle2 := hle1.trans (hb2.mono hle1.size)
  clear hb2 p0 p1 p2 p3 p4 p5 p6 p7 p8 hle1
  go_upto_region 9 with (fail)
  rw [HK.out]
  have hB2s := hle2.size
  go_upto_region 10 with (refine wpList_bytes rfl _ rfl Try.underlying9 Try.underlying49 Try.underlying5 rfl ?_; intro w3 cap hr3 hb3 hcap3; have hB3 := hle2.trans (hb3.mono hB2s))
  obtain ⟨g, hg⟩ : ∃ g, g = w2.heap.size := ⟨_, rfl⟩
  simp only [← hg]
  have hr : Row w3 5 g cap l := by rw [hg]; exact hr3
  have hgB : w.heap.size ≤ g := by omega
  clear hg hr3 hb3 hB2s hle2
  have hl := HL.out
  have hk0 := hr.cell k (by omega)
  have hk1 := hr.cell (k + 1) (by omega)
  have hf0 := hr.frozen k (by have := hr.le; omega)
  have hf1 := hr.frozen (k + 1) (by have := hr.le; omega)
  have hlt := hr.lt
  have hr4 := hr.store k (G.ix l k ^^^ by8 (c % 256)) (by omega)
  have hr5 := hr4.store (k + 1) (G.ix l (k + 1) ^^^ by8 (c / 256)) (by simp; omega)
  have hle5 := (hB3.setCell (p := ⟨g, k, none⟩) hgB (B (G.ix l k ^^^ by8 (c % 256)))).setCell (p := ⟨g, k + 1, none⟩) hgB (B (G.ix l (k + 1) ^^^ by8 (c / 256)))
  have hrd := hr5.rd (by simp; omega)
  have hcap : 12 ≤ cap := by have := hr.le; omega
  have HR5 := Lib.hid hrd; have HLE5 := Lib.hid hle5
  clear hr hr4 hr5 hrd hle5 hB3 hcap3 hl
  go_upto_region 12 with (fail)
  change Code.wp _ _ _ _ ((w3.setCell ⟨g, k, none⟩ (B (G.ix l k ^^^ by8 (c % 256)))).setCell ⟨g, k + 1, none⟩ (B (G.ix l (k + 1) ^^^ by8 (c / 256))))
  generalize (w3.setCell ⟨g, k, none⟩ (B (G.ix l k ^^^ by8 (c % 256)))).setCell ⟨g, k + 1, none⟩ (B (G.ix l (k + 1) ^^^ by8 (c / 256))) = w5 at HR5 HLE5 ⊢
  clear hk0 hk1 hf0 hf1 hlt hx1 hx2
  have hst := run_str (dst := 9) Try.underlying49 Try.underlying5 Try.underlying9 HR5.out
  have hup : (((l.set k (G.ix l k ^^^ by8 (c % 256))).set (k + 1) (G.ix l (k + 1) ^^^ by8 (c / 256))).length) = 12 := by simp [HL.out]
  rw [hup] at hst
  have e : (l.set k (G.ix l k ^^^ by8 (c % 256))).set (k + 1) (G.ix l (k + 1) ^^^ by8 (c / 256)) = upd l k (by8 (c % 256)) (by8 (c / 256)) := rfl
  rw [e] at hst
  clear e hup HR5
  go_wp2_with fail
  refine (HDE.out _).mono ?_
  rintro e w6 ⟨rfl, hb6⟩
  have hle6 := HLE5.out.trans (hb6.mono HLE5.out.size)
  have hX : FB (w6.alloc (fobj Q.z)) w6.heap.size Q.z := Bx.new _ _ _
  have hle7 := hle6.alloc hle6.size (fobj Q.z)
  clear hb6 hle6 hst
  go_upto_region 13 with (fail)
  change Code.wp _ _ _ _ (w6.alloc (fobj Q.z))
  obtain ⟨t0, t1, t2, t3, t4, t5, t6, t7, t8⟩ := fcs_cells hX
  clear hX
  generalize w6.alloc (fobj Q.z) = w7 at *
  simp only [Q.z] at t0 t1 t2 t3 t4 t5 t6 t7 t8
  go_wp2_with fail
  go_ret
  exact ⟨ret_t rfl, hle7⟩
theorem wf_u8 {a : Int} (h : (Lit.int .u8 a).wf = true) : 0 ≤ a ∧ a ≤ 255 := by
  simpa [Lit.wf, IntKind.min, IntKind.max, IntKind.signed, IntKind.bits] using h
theorem wf_u16 {a : Int} (h : (Lit.int .u16 a).wf = true) : 0 ≤ a ∧ a ≤ 65535 := by
  simpa [Lit.wf, IntKind.min, IntKind.max, IntKind.signed, IntKind.bits] using h
theorem detects_law (w : World) (v : Value) (q : Q.Fr) (h : CameF w v q) (a : Int) (ha : (Lit.int .u8 a).wf = true) (c : Int) (hc : (Lit.int .u16 c).wf = true) :
    Calls Try.prog 8 #[v, .int .u8 a, .int .u16 c] w fun e w' => e = .returned (.bool true) ∧ Below w.heap.size w w' := by
  obtain rfl := h
  by_cases h0 : encC q ≠ 0 ∨ c = 0
  · exact detects_skip q a c w h0
  · have h1 : encC q = 0 := by
      by_cases h1 : encC q = 0
      · exact h1
      · exact (h0 (.inl h1)).elim
    have a8 := wf_u8 ha
    have c8 := wf_u16 hc
    exact detects_do q a c w (encS_ok h1).1 a8.1 a8.2 c8.1 c8.2 (fun e => h0 (.inr e))
end Go.Proofs.Ytenbafolmmemgaa.W10
