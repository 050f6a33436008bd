/- The law SubchannelTables walked: it returns true. -/
import Derived.Test.YtenbafolmmemgaaQcw
import Derived.Test.YtenbafolmmemgaaQaw
import Derived.Test.YtenbafolmmemgaaQof
import Derived.Test.YtenbafolmmemgaaQpl
import Derived.Test.YtenbafolmmemgaaQla
namespace Go.Proofs.Ytenbafolmmemgaa.W10
open Go.RowKit
set_option linter.unusedVariables false

theorem wf_entB {c pt n : Int} (hc : 0 ≤ c ∧ c ≤ 15) (hp : 0 ≤ pt ∧ pt ≤ 200) (h0 : -150 ≤ n) (h1 : n ≤ 449849) : WfF (Q.entB c pt n) := by
  have := Q.parts_valid (n := n + 150) (by omega) (by omega)
  unfold WfF In64 Q.entB Q.entF
  simp only
  omega
theorem wf_ent {t : List T.Trk} {c : Int} (hs : Q.Sess t) (h0 : 0 ≤ c) (h1 : c ≤ 15) : ∀ i, i < (Q.entL t c t.length).length → WfF (fr (Q.entL t c t.length) i) := by
  intro i hi
  rw [Q.entL_length] at hi
  have hn := hs.1
  have ha := hs.at (i := 0) (by omega)
  have hb := hs.at (i := t.length - 1) (by omega)
  have he := endL_bd hs
  match i, hi with
  | 0, _ =>
    show WfF (Q.entF c 160 (T.tr t 0).num 0 0)
    unfold WfF In64 Q.entF
    simp only; omega
  | 1, _ =>
    show WfF (Q.entF c 161 (T.tr t (t.length - 1)).num 0 0)
    unfold WfF In64 Q.entF
    simp only; omega
  | 2, _ =>
    show WfF (Q.entB c 162 (Q.endL t))
    exact wf_entB ⟨h0, h1⟩ (by omega) (by omega) (by omega)
  | j + 3, hj =>
    have hd := hs.at (i := j) (by omega)
    rw [fr_ent t c t.length j (by omega)]
    exact wf_entB ⟨h0, h1⟩ (by omega) (by omega) (by omega)
/-- whose frame it is -/
def Whose (l : List T.Trk) (ctl lba : Int) (q : Q.Fr) : Prop :=
  q.ctl = ctl ∧ ((q.trk = 170 ∧ Q.endL l ≤ lba) ∨ (q.trk ≠ 170 ∧ lba < Q.endL l ∧ (T.tr l 0).num ≤ q.trk ∧ q.trk ≤ (T.tr l (l.length - 1)).num))
theorem whose {l : List T.Trk} (hS : Q.Sess l) (ctl lba : Int) : Whose l ctl lba (Q.progF l ctl lba (Q.firstP l lba l.length)) := by
  have hn := hS.1
  cases hi : Q.firstP l lba l.length with
  | none =>
    have h := firstP_spec' hi
    have hE : Q.endL l ≤ lba := by have := h (l.length - 1) (by omega); unfold Q.endL; omega
    exact ⟨rfl, .inl ⟨rfl, hE⟩⟩
  | some i =>
    obtain ⟨h1, h2, h3⟩ := firstP_spec hi
    have hat := hS.at h1
    have hen := hS.ends h1
    have m1 := (hS.mono 0 i (by omega)).1
    have m2 := (hS.mono i (l.length - 1 - i) (by omega)).1
    rw [Nat.zero_add] at m1
    rw [show i + (l.length - 1 - i) = l.length - 1 by omega] at m2
    have key : (T.tr l i).num ≠ 170 ∧ lba < Q.endL l ∧ (T.tr l 0).num ≤ (T.tr l i).num ∧ (T.tr l i).num ≤ (T.tr l (l.length - 1)).num := by omega
    unfold Q.progF
    simp only
    split
    · exact ⟨rfl, .inr key⟩
    · exact ⟨rfl, .inr key⟩
set_option maxRecDepth 100000 in
set_option maxHeartbeats 4000000 in
theorem tables_no (v : Value) (l : List T.Trk) (ctl lba : Int) (w : World) (hr : RdK w v l) (hn : l.length ≤ 120) (hwf : WfL l) (hE : Q.entR l ctl = ([], 1)) :
    Calls Try.prog 9 #[v, .int .i64 ctl, .int .i64 lba] w (RB true w) := by
  have HE := Lib.hid (fun W (hb : Below w.heap.size w W) => entries_any v l ctl W (hr.keep hb) hn hwf)
  rw [hE] at HE
  clear hE
  obtain ⟨a, c, rfl, hac⟩ := RdS.form hr
  clear hr hwf
  go_enter Try.func9, Try.ntmps9
  go_wp2_with fail
  refine (awake_any _).mono ?_
  rintro e w1 ⟨rfl, hb1⟩
  go_wp2_with fail
  refine (HE.out w1 hb1).mono ?_
  rintro e w2 ⟨v2, rfl, hr2, hb2⟩
  have hle2 := hb1.trans (hb2.mono hb1.size)
  obtain ⟨a2, c2, rfl, hac2⟩ := RdD.form hr2
  clear hb2 hb1 hr2
  go_wp2_with fail
  go_ret
  exact ⟨ret_t rfl, hle2⟩
set_option maxRecDepth 100000 in
set_option maxHeartbeats 4000000 in
theorem tables_many (v : Value) (l : List T.Trk) (ctl lba : Int) (w : World) (hr : RdK w v l) (hn : 120 < l.length) (hx : l.length ≤ 9223372036854775807) :
    Calls Try.prog 9 #[v, .int .i64 ctl, .int .i64 lba] w (RB true w) := by
  obtain ⟨a, c, rfl, hac⟩ := RdS.form hr
  clear hr
  go_enter Try.func9, Try.ntmps9
  go_wp2_with fail
  refine (awake_any _).mono ?_
  rintro e w1 ⟨rfl, hb1⟩
  go_wp2_with fail
  go_ret
  exact ⟨ret_t rfl, hb1⟩
set_option maxRecDepth 100000 in
set_option maxHeartbeats 4000000 in
theorem tables_do (v : Value) (l : List T.Trk) (ctl lba : Int) (w : World) (hr : RdK w v l) (hn : l.length ≤ 120) (hwf : WfL l) (hS : Q.Sess l) (c0 : 0 ≤ ctl) (c1 : ctl ≤ 15) :
    Calls Try.prog 9 #[v, .int .i64 ctl, .int .i64 lba] w (RB true w) := by
  have hnl := hS.1
  have hnl2 := hS.2.1
  have hE : Q.entR l ctl = (Q.entL l ctl l.length, 0) := by
    unfold Q.entR
    rw [if_neg (by rw [Q.sessB_true.2 hS]; simp only [not_or]; exact ⟨by decide, by omega, by omega⟩)]
  have HE := Lib.hid (fun W (hb : Below w.heap.size w W) => entries_any v l ctl W (hr.keep hb) hn hwf)
  rw [hE] at HE
  have hlen := Q.entL_length l ctl l.length
  have HCo := Lib.hid (fun u W (h : RdF W u (Q.entL l ctl l.length)) => col_any u _ W h (by rw [hlen]; omega) (wf_ent hS c0 c1))
  rw [col_ent hS c0 c1] at HCo
  have HP := Lib.hid (fun W (hb : Below w.heap.size w W) => program_any v l ctl lba W (hr.keep hb) hn hwf)
  have hP : Q.progR l ctl lba = if lba < 0 ∨ 449849 < lba then (Q.z, 2) else (Q.progF l ctl lba (Q.firstP l lba l.length), 0) := by
    unfold Q.progR
    rw [if_neg (by rw [Q.sessB_true.2 hS]; simp only [not_or]; exact ⟨by decide, by omega, by omega⟩)]
  rw [hP] at HP
  have HW := Lib.hid (whose hS ctl lba)
  have HR := Lib.hid hr
  obtain ⟨a, c, rfl, hac⟩ := RdS.form hr
  obtain ⟨b, off, hcell⟩ := RdK.cells hr
  have HC := Lib.hid (fun i (hi : i < l.length) => (hcell i hi).2)
  obtain ⟨ha, _⟩ := hcell 0 (by omega)
  subst ha
  have hlast : Q.endL l = (T.tr l (l.length - 1)).st + (T.tr l (l.length - 1)).len := rfl
  have hlb := hS.at (i := l.length - 1) (by omega)
  have HLast := Lib.hid hlast
  have HSt : Hid (∀ i, i < l.length → -1000000 ≤ (T.tr l i).st ∧ (T.tr l i).st ≤ 1000000) := Lib.hid fun i hi => by have := hS.at hi; omega
  generalize Q.entL l ctl l.length = L at HE HCo hlen
  have HLen := Lib.hid hlen
  clear hr hwf hS hE hP hcell hlast hlen
  go_enter Try.func9, Try.ntmps9
  go_wp2_with fail
  refine (awake_any _).mono ?_
  rintro e w1 ⟨rfl, hb1⟩
  go_wp2_with fail
  refine (HE.out w1 hb1).mono ?_
  rintro e w2 ⟨v2, rfl, hr2, hb2⟩
  have hle2 := hb1.trans (hb2.mono hb1.size)
  have Hr2 := Lib.hid hr2
  obtain ⟨a2, c2, rfl, hac2⟩ := RdD.form hr2
  have hd0 : ((l.length : Int) == 0) = false := beq_eq_false_iff_ne.2 (by omega)
  have hd1 : (l.length == 0) = false := beq_eq_false_iff_ne.2 (by omega)
  clear hb2 hb1 hr2 HE
  go_wp2_with fail
  refine (HCo.out _ w2 Hr2.out).mono ?_
  rintro e w3 ⟨v3, rfl, hr3, hb3⟩
  have hle3 := hle2.trans (hb3.mono hle2.size)
  obtain ⟨a3, c3, rfl, hac3⟩ := RdD.form hr3
  have Hr3 := Lib.hid hr3
  clear hb3 hle2 hr3 HCo Hr2
  have hrgl := range_call (HC.out (l.length - 1) (by omega)) hle3
  have hix := fun w' => run_idxS Try.underlying22 Try.sizeTrack (cap := c) (b := b) (off := off) rfl (by omega : l.length - 1 < l.length) ((l.length : Int) - 1) (by omega) w'
  have hlw : IntKind.i64.wrap ((l.length : Int) - 1) = (l.length : Int) - 1 := IntWalk.i64_in _ (by omega)
  obtain ⟨y0, y1, y2, y3, y4, y5, y6⟩ := rd7 hrgl
  have hmap : ((List.range l.length).map fun i => (T.tr l i).st).length = l.length := by simp
  rw [hmap]
  obtain ⟨x, hx⟩ : ∃ x, x = T.tr l (l.length - 1) := ⟨_, rfl⟩
  have HX := Lib.hid hx
  rw [← hx] at y0 y1 y2 y3 y4 y5 y6 hlb HLast
  clear hx hrgl hmap
  go_upto_region 10 with (fail)
  change Code.wp _ _ _ _ (w3.alloc (tobj x))
  obtain ⟨gx, hgx⟩ : ∃ g, g = w3.heap.size := ⟨_, rfl⟩
  have hX : Bx (w3.alloc (tobj x)) gx 53 (tcs x) := by rw [hgx]; exact Bx.new _ _ _
  have hgw : w.heap.size ≤ gx := by rw [hgx]; exact hle3.size
  have hal := (Below.refl w3.heap.size w3).alloc (Nat.le_refl _) (tobj x)
  have hle4 := hle3.trans (hal.mono hle3.size)
  have Hr4 := Lib.hid (RdD.keep Hr3.out hal)
  simp only [← hgx]
  clear hgx hal hle3 Hr3 y0 y1 y2 y3 y4 y5 y6 hix hlw
  generalize w3.alloc (tobj x) = w4 at hX hle4 Hr4 ⊢
  clear w3
  have z2 := hX.cell (i := 2) rfl
  have z3 := hX.cell (i := 3) rfl
  have hsum : x.st + x.len = Q.endL l := HLast.out.symm
  have hsw : IntKind.i64.wrap (x.st + x.len) = Q.endL l := by rw [hsum]; exact IntWalk.i64_in _ (by omega)
  have hee : (Q.endL l != Q.endL l) = false := by simp
  have HX4 := Lib.hid hX
  clear hX
  go_upto_region 12 with (fail)
  clear z2 z3 hsum hsw hee
  go_wp2_with fail
  go_loopw [72] (fun vk wr => ∃ (k : Nat), k ≤ l.length ∧ vk = .int .i64 k ∧ Hid (Bx wr gx 53 (tcs x)) ∧ Hid (RdN wr (.slice a3 ((List.range l.length).map fun i => (T.tr l i).st).length c3) ((List.range l.length).map fun i => (T.tr l i).st)) ∧ Below w.heap.size w wr) (fun vk _ => l.length - (intOf vk).toNat)
  case atStart => exact ⟨0, by omega, rfl, HX4, Hr4, hle4⟩
  case round =>
    clear HX4 Hr4 hle4
    obtain ⟨k, hk, rfl, HXr, Hrr, hle⟩ := hrel
    by_cases hlt : k < l.length
    · obtain ⟨y0, y1, y2, y3, y4, y5, y6⟩ := rd7 (range_call (HC.out k hlt) hle)
      have hix := fun w' => run_idxS Try.underlying22 Try.sizeTrack (cap := c) (b := b) (off := off) rfl hlt (k : Int) rfl w'
      obtain ⟨b3, off3, hcell3⟩ := RdD.at Hrr.out
      obtain ⟨ha3, hst⟩ := hcell3 k (by simpa using hlt)
      have hat : atD 0 ((List.range l.length).map fun i => (T.tr l i).st) k = (T.tr l k).st := by unfold atD; rw [List.getElem?_map, List.getElem?_range hlt]; rfl
      rw [hat] at hst
      generalize T.tr l k = t at *
      have HST := Lib.hid hst
      have Ha3 := Lib.hid ha3
      clear hcell3 hat hst ha3
      go_upto_region 15 with (fail)
      change Code.wp _ _ _ _ (wr.alloc (tobj t))
      obtain ⟨gt, hgt⟩ : ∃ g, g = wr.heap.size := ⟨_, rfl⟩
      have hT : Bx (wr.alloc (tobj t)) gt 53 (tcs t) := by rw [hgt]; exact Bx.new _ _ _
      have hal := (Below.refl wr.heap.size wr).alloc (Nat.le_refl _) (tobj t)
      have hle5 := hle.trans (hal.mono hle.size)
      have HX5 := Lib.hid (HXr.out.alloc (tobj t))
      have Hr5 := Lib.hid (RdD.keep Hrr.out hal)
      have hst5 := range_call HST.out hal 0 _ rfl
      simp only [Nat.mul_one, Nat.add_zero] at hst5
      simp only [← hgt]
      clear hgt hal hle HXr Hrr HST y0 y1 y2 y3 y4 y5 y6 hix
      generalize wr.alloc (tobj t) = W at hT hle5 HX5 Hr5 hst5 ⊢
      have hix3 := fun w' => run_idxS Try.underlying41 Try.sizeInt (n := l.length) (cap := c3) Ha3.out hlt (k : Int) rfl w'
      simp only [Nat.mul_one] at hix3
      have z2 := hT.cell (i := 2) rfl
      have htt : (t.st != t.st) = false := by simp
      clear hT
      go_quiet (fail)
      go_wp2_with fail
      go_roundw
      case rel => exact ⟨k + 1, by omega, by go_num, HX5, Hr5, Go.Proofs.Ytenbafolmmemgaa.Below.drewN hle5 _⟩
      case measure => simp [intOf]; omega
    · obtain rfl : k = l.length := by omega
      have HAll := Lib.hid (hle)
      by_cases hb : lba < 0 ∨ 449849 < lba
      · rw [if_pos hb] at HP
        have HB := Lib.hid hb
        clear hb
        go_wp2_with fail
        refine (HP.out wr HAll.out).mono ?_
        rintro e w5 ⟨rfl, hb5⟩
        have hle5 := HAll.out.trans (hb5.mono HAll.out.size)
        have hle6 := hle5.alloc hle5.size (fobj Q.z)
        clear hb5 hle5 hle HXr Hrr
        rcases HB.out with h | h
        · go_wp2_with fail
          go_ret
          exact ⟨ret_t rfl, hle6⟩
        · have h2 : decide (lba < 0) = false := decide_eq_false (by omega)
          go_wp2_with fail
          go_ret
          exact ⟨ret_t rfl, hle6⟩
      · rw [if_neg hb] at HP
        clear hb
        generalize Q.progF l ctl lba (Q.firstP l lba l.length) = q at HP HW
        go_wp2_with fail
        refine (HP.out wr HAll.out).mono ?_
        rintro e w5 ⟨rfl, hb5⟩
        have hle5 := HAll.out.trans (hb5.mono HAll.out.size)
        have hXq := HXr.out.call hb5
        obtain ⟨gq, hgq⟩ : ∃ g, g = w5.heap.size := ⟨_, rfl⟩
        have hq : FBq (w5.alloc (fobj q)) gq q := by rw [hgq]; exact Bx.new _ _ _
        have hXq2 := hXq.alloc (fobj q)
        have hle6 := hle5.alloc hle5.size (fobj q)
        clear hle hb5 hle5 HXr Hrr HAll hXq
        go_upto_region 21 with (fail)
        change Code.wp _ _ _ _ (w5.alloc (fobj q))
        simp only [← hgq]
        clear hgq
        generalize w5.alloc (fobj q) = W at hq hXq2 hle6 ⊢
        obtain ⟨p0, p1, p2, p3, p4, p5, p6, p7, p8⟩ := fcs_cells hq
        have z0 := hXq2.cell (i := 0) rfl
        obtain ⟨n0, _⟩ := rd7 (range_call (HC.out 0 (by omega)) hle6)
        have hix0 := fun w' => run_idxS Try.underlying22 Try.sizeTrack (cap := c) (b := b) (off := off) rfl (by omega : 0 < l.length) 0 rfl w'
        simp only [Nat.zero_mul, Nat.add_zero] at hix0 n0
        obtain ⟨hqc, hwho⟩ := HW.out
        rw [← HX.out] at hwho
        have hcc : (q.ctl == ctl) = true := by rw [hqc]; simp
        have hcn : (q.ctl != ctl) = false := by rw [hqc]; simp
        have hl0 : (0 : Int) < l.length := by omega
        clear hq hXq2 hqc
        rcases hwho with ⟨ht, he⟩ | ⟨ht, he, hm1, hm2⟩
        · have d1 : (q.trk == 170) = true := by rw [ht]; rfl
          have d2 : decide (Q.endL l ≤ lba) = true := decide_eq_true he
          clear ht he
          go_quiet (fail)
          go_wp2_with fail
          go_ret
          exact ⟨ret_t rfl, Go.Proofs.Ytenbafolmmemgaa.Below.drewN hle6 _⟩
        · have d1 : (q.trk == 170) = false := beq_eq_false_iff_ne.2 ht
          have d2 : decide (Q.endL l ≤ lba) = false := decide_eq_false (by omega)
          have d3 : decide ((T.tr l 0).num ≤ q.trk) = true := decide_eq_true hm1
          have d4 : decide (q.trk ≤ x.num) = true := decide_eq_true hm2
          clear ht he hm1 hm2
          go_quiet (fail)
          go_wp2_with fail
          go_ret
          exact ⟨ret_t rfl, Go.Proofs.Ytenbafolmmemgaa.Below.drewN hle6 _⟩
theorem tables_law (w : World) (v : Value) (l : List T.Trk) (h : CameK w v l) (ctl : Int) (hc : (Lit.int .i64 ctl).wf = true) (lba : Int) (hl : (Lit.int .i64 lba).wf = true) :
    Calls Try.prog 9 #[v, .int .i64 ctl, .int .i64 lba] w fun e w' => e = .returned (.bool true) ∧ Below w.heap.size w w' := by
  by_cases hn : l.length ≤ 120
  · by_cases hg : Q.sessB l = true ∧ 0 ≤ ctl ∧ ctl ≤ 15
    · exact tables_do v l ctl lba w h.1 hn h.2.2 (Q.sessB_true.1 hg.1) hg.2.1 hg.2.2
    · refine tables_no v l ctl lba w h.1 hn h.2.2 ?_
      unfold Q.entR
      rw [if_pos]
      cases hs : Q.sessB l with
      | false => exact .inl rfl
      | true => exact .inr (by
          by_cases h0 : ctl < 0
          · exact .inl h0
          · exact .inr (by
              by_cases h1 : 15 < ctl
              · exact h1
              · exact (hg ⟨hs, by omega, by omega⟩).elim))
  · exact tables_many v l ctl lba w h.1 (by omega) h.2.1
end Go.Proofs.Ytenbafolmmemgaa.W10
