/- Shaken out of XQs XQco XTkLi XQaw -/
import Derived.Test.YtflmjdjkfognjaaGreatTp45
import Derived.Test.YtflmjdjkfognjaaGreatTp24
import Derived.Test.YtflmjdjkfognjaaGreatTp42
import Derived.Test.YtflmjdjkfognjaaGreatTp40
import Derived.Test.YtflmjdjkfognjaaGreatTp29
namespace Go.Proofs.YtflmjdjkfognjaaGreat.W10
open Go.RowKit
set_option linter.unusedVariables false
theorem Tryz.sizeFr : (Tryz.prog.info? 38).map (·.size) = some 9 := by kernel_rfl
def fr (l : List Q.Fr) (i : Nat) : Q.Fr := atD Q.z l i
/-- a slice of frames that is only read -/
def RdF (w : World) (v : Value) (l : List Q.Fr) : Prop := RdD Q.z fcs 9 w v l
theorem RdF.cells {w : World} {a : Option Addr} {n c : Nat} {l : List Q.Fr} (h : RdF w (.slice a n c) l) : ∃ b off, ∀ i, i < l.length → a = some ⟨b, off, none⟩ ∧ w.rangeAt b (off + i * 9) (fcs (fr l i)) := RdD.at h
theorem rd9 {w : World} {b o : Nat} {x : Q.Fr} (h : w.rangeAt b o (fcs x)) :
    w.cell? ⟨b, o, none⟩ = some (.int .i64 x.ctl) ∧ w.cell? ⟨b, o + 1, none⟩ = some (.int .i64 x.trk) ∧ w.cell? ⟨b, o + 2, none⟩ = some (.int .i64 x.pt) ∧ w.cell? ⟨b, o + 3, none⟩ = some (.int .i64 x.rm) ∧
    w.cell? ⟨b, o + 4, none⟩ = some (.int .i64 x.rs) ∧ w.cell? ⟨b, o + 5, none⟩ = some (.int .i64 x.rf) ∧ w.cell? ⟨b, o + 6, none⟩ = some (.int .i64 x.am) ∧ w.cell? ⟨b, o + 7, none⟩ = some (.int .i64 x.as) ∧ w.cell? ⟨b, o + 8, none⟩ = some (.int .i64 x.af) :=
  ⟨h 0 _ rfl, h 1 _ rfl, h 2 _ rfl, h 3 _ rfl, h 4 _ rfl, h 5 _ rfl, h 6 _ rfl, h 7 _ rfl, h 8 _ rfl⟩
theorem fr_cases (x y : Q.Fr) : x = y ∨ ((x.ctl == y.ctl) = false) ∨ (x.ctl = y.ctl ∧ (x.trk == y.trk) = false) ∨ (x.ctl = y.ctl ∧ x.trk = y.trk ∧ (x.pt == y.pt) = false) ∨ (x.ctl = y.ctl ∧ x.trk = y.trk ∧ x.pt = y.pt ∧ (x.rm == y.rm) = false) ∨ (x.ctl = y.ctl ∧ x.trk = y.trk ∧ x.pt = y.pt ∧ x.rm = y.rm ∧ (x.rs == y.rs) = false) ∨ (x.ctl = y.ctl ∧ x.trk = y.trk ∧ x.pt = y.pt ∧ x.rm = y.rm ∧ x.rs = y.rs ∧ (x.rf == y.rf) = false) ∨ (x.ctl = y.ctl ∧ x.trk = y.trk ∧ x.pt = y.pt ∧ x.rm = y.rm ∧ x.rs = y.rs ∧ x.rf = y.rf ∧ (x.am == y.am) = false) ∨ (x.ctl = y.ctl ∧ x.trk = y.trk ∧ x.pt = y.pt ∧ x.rm = y.rm ∧ x.rs = y.rs ∧ x.rf = y.rf ∧ x.am = y.am ∧ (x.as == y.as) = false) ∨ (x.ctl = y.ctl ∧ x.trk = y.trk ∧ x.pt = y.pt ∧ x.rm = y.rm ∧ x.rs = y.rs ∧ x.rf = y.rf ∧ x.am = y.am ∧ x.as = y.as ∧ (x.af == y.af) = false) := by
  obtain ⟨x0, x1, x2, x3, x4, x5, x6, x7, x8⟩ := x
  obtain ⟨y0, y1, y2, y3, y4, y5, y6, y7, y8⟩ := y
  simp only [Q.Fr.mk.injEq, beq_eq_false_iff_ne, ne_eq]
  by_cases h0 : x0 = y0
  rotate_left
  · exact .inr (.inl h0)
  by_cases h1 : x1 = y1
  rotate_left
  · exact .inr (.inr (.inl ⟨h0, h1⟩))
  by_cases h2 : x2 = y2
  rotate_left
  · exact .inr (.inr (.inr (.inl ⟨h0, h1, h2⟩)))
  by_cases h3 : x3 = y3
  rotate_left
  · exact .inr (.inr (.inr (.inr (.inl ⟨h0, h1, h2, h3⟩))))
  by_cases h4 : x4 = y4
  rotate_left
  · exact .inr (.inr (.inr (.inr (.inr (.inl ⟨h0, h1, h2, h3, h4⟩)))))
  by_cases h5 : x5 = y5
  rotate_left
  · exact .inr (.inr (.inr (.inr (.inr (.inr (.inl ⟨h0, h1, h2, h3, h4, h5⟩))))))
  by_cases h6 : x6 = y6
  rotate_left
  · exact .inr (.inr (.inr (.inr (.inr (.inr (.inr (.inl ⟨h0, h1, h2, h3, h4, h5, h6⟩)))))))
  by_cases h7 : x7 = y7
  rotate_left
  · exact .inr (.inr (.inr (.inr (.inr (.inr (.inr (.inr (.inl ⟨h0, h1, h2, h3, h4, h5, h6, h7⟩))))))))
  by_cases h8 : x8 = y8
  rotate_left
  · exact .inr (.inr (.inr (.inr (.inr (.inr (.inr (.inr (.inr (⟨h0, h1, h2, h3, h4, h5, h6, h7, h8⟩)))))))))
  exact .inl ⟨h0, h1, h2, h3, h4, h5, h6, h7, h8⟩
theorem fr_list {l m : List Q.Fr} (h : l.length = m.length) : l = m ↔ ∀ j, j < l.length → fr l j = fr m j := by
  constructor
  · rintro rfl j _; rfl
  · intro hj
    apply List.ext_getElem h
    intro i h1 h2
    have := hj i h1
    simpa [fr, atD, h1, h2] using this
set_option maxRecDepth 100000 in
set_option maxHeartbeats 4000000 in
theorem sequal_any (v u : Value) (l m : List Q.Fr) (w : World) (hr : RdF w v l) (hs : RdF w u m) (hn : l.length ≤ 1000000) (hlm : l.length = m.length) :
    Calls Tryz.prog 10 #[v, u] w (RB (decide (l = m)) w) := by
  obtain ⟨a, c, b, off, rfl, hac, hcell⟩ := hr
  obtain ⟨a2, c2, b2, off2, rfl, hac2, hcell2⟩ := hs
  have HC := Lib.hid hcell; clear hcell
  have HC2 := Lib.hid hcell2; clear hcell2
  have HLM := Lib.hid (fr_list hlm)
  rw [← hlm] at *
  clear hlm
  go_enter Tryz.func10, Tryz.ntmps10
  go_wp2_with fail
  go_loopw [13] (fun vi wr => ∃ (i : Nat), i ≤ l.length ∧ vi = .int .i64 i ∧ Hid (∀ j, j < i → fr l j = fr m j) ∧ ∃ n, wr = w.drewN n) (fun vi _ => l.length - (intOf vi).toNat)
  case atStart => exact ⟨0, by omega, rfl, Lib.hid fun j hj => by omega, 0, rfl⟩
  case round =>
    obtain ⟨i, hi, rfl, HE, n, rfl⟩ := hrel
    by_cases hlt : i < l.length
    · obtain ⟨ha, hrange⟩ := HC.out i hlt
      obtain ⟨ha2, hrange2⟩ := HC2.out i hlt
      have HF : Hid (fr l i ≠ fr m i → decide (l = m) = false) := Lib.hid fun h => decide_eq_false fun e => h (HLM.out.1 e i hlt)
      have HT : Hid (fr l i = fr m i → ∀ j, j < i + 1 → fr l j = fr m j) := Lib.hid fun h j hj => by
        by_cases e : j < i
        · exact HE.out j e
        · obtain rfl : j = i := by omega
          exact h
      replace hrange : w.rangeAt b (off + i * 9) (fcs (fr l i)) := hrange
      replace hrange2 : w.rangeAt b2 (off2 + i * 9) (fcs (fr m i)) := hrange2
      generalize fr l i = x at hrange HF HT
      generalize fr m i = y at hrange2 HF HT
      have hix := fun w' => run_idxS Tryz.underlying29 Tryz.sizeFr (cap := c) ha hlt _ rfl w'
      have hix2 := fun w' => run_idxS Tryz.underlying29 Tryz.sizeFr (cap := c2) ha2 hlt _ rfl w'
      have Ha := Lib.hid ha; clear ha
      have Ha2 := Lib.hid ha2; clear ha2
      rcases fr_cases x y with rfl | h0 | ⟨e0, h1⟩ | ⟨e0, e1, h2⟩ | ⟨e0, e1, e2, h3⟩ | ⟨e0, e1, e2, e3, h4⟩ | ⟨e0, e1, e2, e3, e4, h5⟩ | ⟨e0, e1, e2, e3, e4, e5, h6⟩ | ⟨e0, e1, e2, e3, e4, e5, e6, h7⟩ | ⟨e0, e1, e2, e3, e4, e5, e6, e7, h8⟩
      · obtain ⟨hc0, hc1, hc2, hc3, hc4, hc5, hc6, hc7, hc8⟩ := rd9 hrange
        obtain ⟨hf0, hf1, hf2, hf3, hf4, hf5, hf6, hf7, hf8⟩ := rd9 hrange2
        clear hrange hrange2
        go_wp2_with fail
        go_quiet (fail)
        go_wp2_with fail
        go_roundw
        case rel => exact ⟨i + 1, by omega, by go_num, Lib.hid (by first | exact HT.out rfl | exact HT.out trivial), _, rfl⟩
        case measure => simp [intOf]; omega
      · have HN : Hid (x ≠ y) := Lib.hid fun e => by rw [e] at h0; simp at h0
        obtain ⟨hc0, hc1, hc2, hc3, hc4, hc5, hc6, hc7, hc8⟩ := rd9 hrange
        obtain ⟨hf0, hf1, hf2, hf3, hf4, hf5, hf6, hf7, hf8⟩ := rd9 hrange2
        clear hrange hrange2
        go_wp2_with fail
        go_quiet (fail)
        go_wp2_with fail
        go_ret
        exact ⟨ret_f (HF.out HN.out), Go.Proofs.YtflmjdjkfognjaaGreat.Below.drewN (Go.Proofs.YtflmjdjkfognjaaGreat.Below.drewN (Below.refl _ _) _) _⟩
      · have HN : Hid (x ≠ y) := Lib.hid fun e => by rw [e] at h1; simp at h1
        obtain ⟨hc0, hc1, hc2, hc3, hc4, hc5, hc6, hc7, hc8⟩ := rd9 hrange
        obtain ⟨hf0, hf1, hf2, hf3, hf4, hf5, hf6, hf7, hf8⟩ := rd9 hrange2
        clear hrange hrange2
        go_wp2_with fail
        go_quiet (fail)
        go_wp2_with fail
        go_ret
        exact ⟨ret_f (HF.out HN.out), Go.Proofs.YtflmjdjkfognjaaGreat.Below.drewN (Go.Proofs.YtflmjdjkfognjaaGreat.Below.drewN (Below.refl _ _) _) _⟩
      · have HN : Hid (x ≠ y) := Lib.hid fun e => by rw [e] at h2; simp at h2
        obtain ⟨hc0, hc1, hc2, hc3, hc4, hc5, hc6, hc7, hc8⟩ := rd9 hrange
        obtain ⟨hf0, hf1, hf2, hf3, hf4, hf5, hf6, hf7, hf8⟩ := rd9 hrange2
        clear hrange hrange2
        go_wp2_with fail
        go_quiet (fail)
        go_wp2_with fail
        go_ret
        exact ⟨ret_f (HF.out HN.out), Go.Proofs.YtflmjdjkfognjaaGreat.Below.drewN (Go.Proofs.YtflmjdjkfognjaaGreat.Below.drewN (Below.refl _ _) _) _⟩
      · have HN : Hid (x ≠ y) := Lib.hid fun e => by rw [e] at h3; simp at h3
        obtain ⟨hc0, hc1, hc2, hc3, hc4, hc5, hc6, hc7, hc8⟩ := rd9 hrange
        obtain ⟨hf0, hf1, hf2, hf3, hf4, hf5, hf6, hf7, hf8⟩ := rd9 hrange2
        clear hrange hrange2
        go_wp2_with fail
        go_quiet (fail)
        go_wp2_with fail
        go_ret
        exact ⟨ret_f (HF.out HN.out), Go.Proofs.YtflmjdjkfognjaaGreat.Below.drewN (Go.Proofs.YtflmjdjkfognjaaGreat.Below.drewN (Below.refl _ _) _) _⟩
      · have HN : Hid (x ≠ y) := Lib.hid fun e => by rw [e] at h4; simp at h4
        obtain ⟨hc0, hc1, hc2, hc3, hc4, hc5, hc6, hc7, hc8⟩ := rd9 hrange
        obtain ⟨hf0, hf1, hf2, hf3, hf4, hf5, hf6, hf7, hf8⟩ := rd9 hrange2
        clear hrange hrange2
        go_wp2_with fail
        go_quiet (fail)
        go_wp2_with fail
        go_ret
        exact ⟨ret_f (HF.out HN.out), Go.Proofs.YtflmjdjkfognjaaGreat.Below.drewN (Go.Proofs.YtflmjdjkfognjaaGreat.Below.drewN (Below.refl _ _) _) _⟩
      · have HN : Hid (x ≠ y) := Lib.hid fun e => by rw [e] at h5; simp at h5
        obtain ⟨hc0, hc1, hc2, hc3, hc4, hc5, hc6, hc7, hc8⟩ := rd9 hrange
        obtain ⟨hf0, hf1, hf2, hf3, hf4, hf5, hf6, hf7, hf8⟩ := rd9 hrange2
        clear hrange hrange2
        go_wp2_with fail
        go_quiet (fail)
        go_wp2_with fail
        go_ret
        exact ⟨ret_f (HF.out HN.out), Go.Proofs.YtflmjdjkfognjaaGreat.Below.drewN (Go.Proofs.YtflmjdjkfognjaaGreat.Below.drewN (Below.refl _ _) _) _⟩
      · have HN : Hid (x ≠ y) := Lib.hid fun e => by rw [e] at h6; simp at h6
        obtain ⟨hc0, hc1, hc2, hc3, hc4, hc5, hc6, hc7, hc8⟩ := rd9 hrange
        obtain ⟨hf0, hf1, hf2, hf3, hf4, hf5, hf6, hf7, hf8⟩ := rd9 hrange2
        clear hrange hrange2
        go_wp2_with fail
        go_quiet (fail)
        go_wp2_with fail
        go_ret
        exact ⟨ret_f (HF.out HN.out), Go.Proofs.YtflmjdjkfognjaaGreat.Below.drewN (Go.Proofs.YtflmjdjkfognjaaGreat.Below.drewN (Below.refl _ _) _) _⟩
      · have HN : Hid (x ≠ y) := Lib.hid fun e => by rw [e] at h7; simp at h7
        obtain ⟨hc0, hc1, hc2, hc3, hc4, hc5, hc6, hc7, hc8⟩ := rd9 hrange
        obtain ⟨hf0, hf1, hf2, hf3, hf4, hf5, hf6, hf7, hf8⟩ := rd9 hrange2
        clear hrange hrange2
        go_wp2_with fail
        go_quiet (fail)
        go_wp2_with fail
        go_ret
        exact ⟨ret_f (HF.out HN.out), Go.Proofs.YtflmjdjkfognjaaGreat.Below.drewN (Go.Proofs.YtflmjdjkfognjaaGreat.Below.drewN (Below.refl _ _) _) _⟩
      · have HN : Hid (x ≠ y) := Lib.hid fun e => by rw [e] at h8; simp at h8
        obtain ⟨hc0, hc1, hc2, hc3, hc4, hc5, hc6, hc7, hc8⟩ := rd9 hrange
        obtain ⟨hf0, hf1, hf2, hf3, hf4, hf5, hf6, hf7, hf8⟩ := rd9 hrange2
        clear hrange hrange2
        go_wp2_with fail
        go_quiet (fail)
        go_wp2_with fail
        go_ret
        exact ⟨ret_f (HF.out HN.out), Go.Proofs.YtflmjdjkfognjaaGreat.Below.drewN (Go.Proofs.YtflmjdjkfognjaaGreat.Below.drewN (Below.refl _ _) _) _⟩
    · obtain rfl : i = l.length := by omega
      go_wp2_with fail
      go_ret
      exact ⟨ret_t (decide_eq_true (HLM.out.2 HE.out)), Go.Proofs.YtflmjdjkfognjaaGreat.Below.drewN (Below.refl _ _) _⟩
end Go.Proofs.YtflmjdjkfognjaaGreat.W10
namespace Go.Proofs.YtflmjdjkfognjaaGreat.W10
open Go.RowKit
set_option linter.unusedVariables false
end Go.Proofs.YtflmjdjkfognjaaGreat.W10
namespace Go.Proofs.YtflmjdjkfognjaaGreat
open Go.RowKit
set_option linter.unusedVariables false
theorem of_wf {cap cl : Int} {fin : Bool} {l : List T.Trk} (hv : T.validR cap cl fin l) (s : Int) : W10.WfL (T.of l s l.length) := by
  intro i hi
  obtain ⟨m, hm, he⟩ := T.of_mem _ (T.tr_mem hi)
  rw [he]
  have := (few_of_valid hv).2 m hm
  unfold smT sm at this
  unfold W10.WfT In64
  omega
set_option maxRecDepth 100000 in
set_option maxHeartbeats 4000000 in
theorem leadin_closed (cap cl : Int) (fin : Bool) (sv : Value) (l : List T.Trk) (j : Nat) (s : Int) (w : World) (hr : RdK w sv l) (hv : T.validR cap cl fin l) (hs : s = (j : Int) + 1) (hj : j < (T.sess cl l l.length).length) (hc : s ≤ cl) :
    Calls Tryz.prog 8 #[.int .i64 cap, tval cl fin sv, .int .i64 s, .int .i64 4] w (W10.EntP (Q.entL (T.of l s l.length) 4 (T.of l s l.length).length, 0) w) := by
  have hS : Q.Sess (T.of l s l.length) := by rw [hs]; exact T.sess_of hv hj
  have hent : Q.entR (T.of l s l.length) 4 = (Q.entL (T.of l s l.length) 4 (T.of l s l.length).length, 0) := by
    unfold Q.entR
    rw [if_neg (by rw [Q.sessB_true.2 hS]; decide)]
  have hn := hv.2.2.1
  have HTr := Lib.hid (fun W (hb : Below w.heap.size w W) => tracks_any cl fin sv l s W (hr.keep hb) (by omega))
  have HV := Lib.hid (fun W (hb : Below w.heap.size w W) => valid_ok cap cl fin sv l W (hr.keep hb) (few_of_valid hv) hv.1 hv.2.1 hv.2.2.1 hv.2.2.2.1 hv.2.2.2.2.1 (fun h => by have := (hv.2.2.2.2.2.2.2 h.1).1; omega))
  have HE := Lib.hid (fun u W (h : W10.RdK W u (T.of l s l.length)) => W10.entries_any u (T.of l s l.length) 4 W h (by have := T.of_len l s l.length; omega) (of_wf hv s))
  rw [hent] at HE
  have hl1 := hS.1
  have hvB : T.validB cap cl fin l = true := decide_eq_true hv
  have HVB := Lib.hid hvB
  obtain ⟨a, c, rfl, hac⟩ := RdS.form hr
  generalize T.of l s l.length = F at *
  clear hr hv hs hj hS hent hvB
  have hd0 : ((F.length : Int) == 0) = false := beq_eq_false_iff_ne.2 (by omega)
  have hd1 : (F.length == 0) = false := beq_eq_false_iff_ne.2 (by omega)
  go_enter Tryz.func8, Tryz.ntmps8
  go_wp2_with fail
  have hb0 := (Below.refl w.heap.size w).alloc (Nat.le_refl _) (.cells #[.int .i64 cl, .bool fin, .slice a l.length c] 24)
  have HX := Lib.hid (Bx.new w 24 [.int .i64 cl, .bool fin, .slice a l.length c])
  have HL0 := Lib.hid hb0
  refine (HTr.out _ hb0).mono ?_
  rintro e w1 ⟨v1, rfl, hr1, hb1⟩
  have hX1 := HX.out.call hb1
  have hle1 := HL0.out.trans (hb1.mono HL0.out.size)
  obtain ⟨a1, c1, rfl, _⟩ := RdS.form hr1
  have Hr1 := Lib.hid hr1
  have q0 := hX1.cell (i := 0) rfl
  have q1 := hX1.cell (i := 1) rfl
  have q2 := hX1.cell (i := 2) rfl
  have HX1 := Lib.hid hX1
  clear hb1 hb0 HX HL0 hr1 hX1
  go_wp2_with fail
  refine (HV.out _ hle1).mono ?_
  rintro e w2 ⟨rfl, hb2⟩
  rw [HVB.out]
  have hX2 := HX1.out.call hb2
  have hle2 := hle1.trans (hb2.mono hle1.size)
  have Hr2 := Lib.hid (Hr1.out.keep hb2)
  have q0 := hX2.cell (i := 0) rfl
  have HX2 := Lib.hid hX2
  clear hb2 hle1 HX1 Hr1 hX2
  go_wp2_with fail
  refine (HE.out _ w2 Hr2.out).mono ?_
  rintro e w3 ⟨v3, rfl, hr3, hb3⟩
  have hle3 := hle2.trans (hb3.mono hle2.size)
  obtain ⟨a3, c3, rfl, _⟩ := RdD.form hr3
  have HR3 := Lib.hid hr3; have HL3 := Lib.hid hle3
  clear hb3 hle2 hr3 hle3
  go_wp2_with fail
  go_ret2
  exact ⟨_, rfl, HR3.out, HL3.out⟩
end Go.Proofs.YtflmjdjkfognjaaGreat
namespace Go.Proofs.YtflmjdjkfognjaaGreat.W10
open Go.RowKit
set_option linter.unusedVariables false
def q0 : Q.Fr := ⟨4, 1, 1, 0, 0, 0, 0, 2, 0⟩
def x0 : T.Trk := ⟨1, 0, 0, 300, 0, 0, 0⟩
theorem ext_str (l : List UInt8) (n : Nat) : (str l).extract 0 n = str (l.take n) := by
  apply ByteArray.ext
  rw [ByteArray.data_extract]
  simp [str]
end Go.Proofs.YtflmjdjkfognjaaGreat.W10
