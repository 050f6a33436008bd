/- The law 'masterdisc/masterdisclaw14.TocAtomic' returns true for every input, and leaves its arguments as they were. -/
import Derived.Test.YtiioojlihapdaaaEnP7
import Derived.Test.YtiioojlihapdaaaTkStep
import Derived.Test.YtiioojlihapdaaaTkAps
import Derived.Outline
import Derived.RegionTactic
import Derived.BigRegion
import Derived.Test.YtiioojlihapdaaaRows
import Derived.Test.YtiioojlihapdaaaOpen
/- Chapter 14: TocAtomic, plain. -/
namespace Go.Proofs.Ytiioojlihapdaaa.E1
open Go.RowKit W10
set_option linter.unusedVariables false

theorem okD_nil (cap : Int) : okD cap [] = false := by
  rw [Bool.eq_false_iff]
  intro h
  have := (okD_iff.1 h).1.1
  simp at this
/-- the current slot 'c' with the number 'q', and the other one -/
structure Cur (cap : Int) (c o : List UInt8) (q : Nat) (cl : Int) (fin : Bool) (l : List T.Trk) : Prop where
  v : T.validR cap cl fin l
  hc : c = encE q cl fin l
  hq : q ≤ 1000
  ho : okD cap o = true → seqD o < q
  n : o.length ≤ 3000
section
variable {cap : Int} {c o : List UInt8} {q : Nat} {cl : Int} {fin : Bool} {l : List T.Trk}
theorem Cur.read (h : Cur cap c o q cl fin l) : okD cap c = true ∧ seqD c = q ∧ (clD c : Int) = cl ∧ finD c = fin ∧ tksD c (cntD c) = l ∧ c.length = 16 + 20 * l.length := by
  have h1 := okD_enc (q := q) h.v (by omega) (by have := h.hq; omega)
  rw [← h.hc] at h1
  exact ⟨h1.1, by have := h1.2.1; omega, h1.2.2.1, h1.2.2.2.1, h1.2.2.2.2.2.1, h1.2.2.2.2.2.2⟩
theorem Cur.len (h : Cur cap c o q cl fin l) : c.length ≤ 3000 := by
  have := h.read.2.2.2.2.2
  have := h.v.2.2.1
  omega
theorem Cur.first (h : Cur cap c o q cl fin l) : curA cap c o = true ∧ curO cap c o = true ∧ curS cap c o = c := by
  have h1 := h.read
  have hA : curA cap c o = true := by
    unfold curA
    rw [h1.1, Bool.true_and]
    cases ho : okD cap o with
    | false => rfl
    | true =>
      have := h.ho ho
      simp
      omega
  refine ⟨hA, by unfold curO; rw [h1.1]; rfl, by unfold curS; rw [if_pos hA]⟩
theorem Cur.second (h : Cur cap c o q cl fin l) : curA cap o c = false ∧ curO cap o c = true ∧ curS cap o c = c := by
  have h1 := h.read
  have hA : curA cap o c = false := by
    unfold curA
    cases ho : okD cap o with
    | false => rfl
    | true =>
      have := h.ho ho
      rw [h1.1]
      simp
      omega
  refine ⟨hA, by unfold curO; rw [h1.1]; simp, by unfold curS; rw [if_neg (by rw [hA]; decide)]⟩
theorem Cur.load (h : Cur cap c o q cl fin l) : loadR cap c o = ((⟨cl, fin, l, 0⟩ : Res), (q : Int)) ∧ loadR cap o c = ((⟨cl, fin, l, 0⟩ : Res), (q : Int)) := by
  obtain ⟨_, f2, f3⟩ := h.first
  obtain ⟨_, s2, s3⟩ := h.second
  obtain ⟨r1, r2, r3, r4, r5, _⟩ := h.read
  have hcap : ¬ ¬ (1 ≤ cap ∧ cap ≤ 449849) := not_not_intro ⟨h.v.1, h.v.2.1⟩
  unfold loadR
  rw [if_neg hcap, if_neg hcap, f2, s2, f3, s3, r2, r3, r4, r5]
  exact ⟨rfl, rfl⟩
/-- another table is saved -/
theorem Cur.save (h : Cur cap c o q cl fin l) {cl' : Int} {fin' : Bool} {l' : List T.Trk} (hv : T.validR cap cl' fin' l') (hq : q < 1000) :
    saveR cap c o cl' fin' l' = ((c, encE (q + 1 : Nat) cl' fin' l'), 0) ∧ saveR cap o c cl' fin' l' = ((encE (q + 1 : Nat) cl' fin' l', c), 0) ∧ Cur cap (encE (q + 1 : Nat) cl' fin' l') c (q + 1) cl' fin' l' ∧ encE (q + 1 : Nat) cl' fin' l' ≠ o := by
  obtain ⟨f1, f2, f3⟩ := h.first
  obtain ⟨s1, s2, s3⟩ := h.second
  obtain ⟨r1, r2, r3, r4, r5, r6⟩ := h.read
  have hB : ¬ T.validB cap cl' fin' l' = false := by rw [T.validB_true.2 hv]; decide
  have hn1 : nextQ cap c o = (q + 1 : Nat) := by unfold nextQ; rw [if_pos f2, f3, r2]; simp
  have hn2 : nextQ cap o c = (q + 1 : Nat) := by unfold nextQ; rw [if_pos s2, s3, r2]; simp
  have hC : Cur cap (encE (q + 1 : Nat) cl' fin' l') c (q + 1) cl' fin' l' := ⟨hv, rfl, by omega, fun _ => by omega, h.len⟩
  refine ⟨?_, ?_, hC, fun e => ?_⟩
  · unfold saveR
    rw [if_neg hB, hn1, if_neg (by omega), if_pos f1]
  · unfold saveR
    rw [if_neg hB, hn2, if_neg (by omega), if_neg (by rw [s1]; decide)]
  · have h2 := hC.read
    rw [e] at h2
    have := h.ho h2.1
    omega
/-- the other slot is torn -/
theorem Cur.torn (h : Cur cap c o q cl fin l) {t : List UInt8} (ht : okD cap t = false) (hn : t.length ≤ 3000) : Cur cap c t q cl fin l := ⟨h.v, h.hc, h.hq, fun h1 => (by rw [ht] at h1; cases h1), hn⟩
end
/-- what is left of a torn slot -/
def halfE (k : Nat) (s torn : List UInt8) : List UInt8 := if k % 2 = 0 ∨ s.length < 2 then torn else s.take (s.length / 2)
theorem half_no {cap : Int} {k : Nat} {s torn : List UInt8} {n : Nat} (h : s.length = 16 + 20 * n) (ht : okD cap torn = false) : okD cap (halfE k s torn) = false := by
  unfold halfE
  split
  · exact ht
  · exact half_bad h
theorem half_len {k : Nat} {s torn : List UInt8} (h : s.length ≤ 3000) (ht : torn.length ≤ 300) : (halfE k s torn).length ≤ 3000 := by
  unfold halfE
  split
  · omega
  · rw [List.length_take]; omega
/-- a slot alone -/
theorem load_torn (cap : Int) (t : List UInt8) (h1 : 1 ≤ cap) (h2 : cap ≤ 449849) : (okD cap t = true → (loadR cap t []).1.code = 0) ∧ (okD cap t = false → loadR cap t [] = (Res.bad 6, 0)) := by
  have hcap : ¬ ¬ (1 ≤ cap ∧ cap ≤ 449849) := not_not_intro ⟨h1, h2⟩
  unfold loadR
  rw [if_neg hcap]
  constructor
  · intro h
    rw [if_neg (by unfold curO; rw [h]; simp)]
  · intro h
    rw [if_pos (by unfold curO; rw [h, okD_nil]; rfl)]
/-- the first table is saved -/
theorem save_first {cap : Int} (h1 : 1 ≤ cap) (h2 : cap ≤ 449849) : saveR cap [] [] 0 false [] = ((encE (0 : Nat) 0 false [], []), 0) ∧ Cur cap (encE (0 : Nat) 0 false []) [] 0 0 false [] := by
  have hv := T.valid_nil h1 h2
  have hB : ¬ T.validB cap 0 false [] = false := by rw [T.validB_true.2 hv]; decide
  have hO : curO cap [] [] = false := by unfold curO; rw [okD_nil]; rfl
  have hA : curA cap [] [] = false := by unfold curA; rw [okD_nil]; rfl
  have hn : nextQ cap [] [] = 0 := by unfold nextQ; rw [if_neg (by rw [hO]; decide)]
  refine ⟨?_, hv, rfl, by omega, fun h => (by rw [okD_nil] at h; cases h), by simp⟩
  unfold saveR
  rw [if_neg hB, hn, if_neg (by omega), if_neg (by rw [hA]; decide)]
  rfl
end Go.Proofs.Ytiioojlihapdaaa.E1
/- Chapter 14: the law TocAtomic walked. -/
namespace Go.Proofs.Ytiioojlihapdaaa.E1
open Go.RowKit W10
set_option linter.unusedVariables false

set_option maxRecDepth 100000 in
theorem half_any (S torn : List UInt8) (k gK gN : Nat) (w : World) (hk : w.cell? ⟨gK, 0, none⟩ = some (.int .i64 k)) (hn : w.cell? ⟨gN, 0, none⟩ = some (.string (str torn))) (h2 : 2 ≤ S.length) (h3 : S.length ≤ 1000000) :
    Calls Try.prog 27 #[.string (str S), .pointer (some ⟨gK, 0, none⟩), .pointer (some ⟨gN, 0, none⟩)] w fun e w' => e = .returned (.string (str (halfE k S torn))) ∧ w = w' := by
  have hs := str_size S
  have hcut := fun W => run_stoE (P := Try.prog) Try.underlying9 S (S.length / 2) (by omega) ((S.length : Int) / 2) (by omega) W
  by_cases hp : k % 2 = 0
  · have e : halfE k S torn = torn := by unfold halfE; rw [if_pos (.inl hp)]
    rw [e]
    have hb : ((k : Int) % 2 == 0) = true := by rw [beq_iff_eq]; omega
    clear e hp hcut
    obtain ⟨n, hn1⟩ : ∃ n, n = S.length := ⟨_, rfl⟩
    rw [← hn1] at hs h2 h3
    clear hn1
    go_enter Try.func27, Try.ntmps27
    go_wp2_with fail
    go_ret
    exact ⟨rfl, rfl⟩
  · have e : halfE k S torn = S.take (S.length / 2) := by unfold halfE; rw [if_neg (by omega)]
    rw [e]
    have hb : ((k : Int) % 2 == 0) = false := by rw [beq_eq_false_iff_ne]; omega
    clear e hp
    obtain ⟨T, hT⟩ : ∃ T, T = S.take (S.length / 2) := ⟨_, rfl⟩
    rw [← hT] at hcut ⊢
    obtain ⟨n, hn1⟩ : ∃ n, n = S.length := ⟨_, rfl⟩
    rw [← hn1] at hs h2 h3 hcut
    have hnl : ¬ n < 2 := by omega
    clear hn1 hT
    go_enter Try.func27, Try.ntmps27
    go_wp2_with fail
    go_ret
    exact ⟨rfl, rfl⟩
/-- what the law holds -/
structure AtW (w0 : World) (gT gS : Nat) (torn : List UInt8) (cl : Int) (fin : Bool) (sv : Value) (l : List T.Trk) (A B : List UInt8) (W : World) : Prop where
  n : Bx W w0.heap.size 9 [.string (str torn)]
  t : Bx W gT 24 [.int .i64 cl, .bool fin, sv]
  s : Bx W gS 54 [.string (str A), .string (str B)]
  rd : RdK W sv l
  le : Below w0.heap.size w0 W
  g1 : w0.heap.size < gT
  g2 : gT < gS
theorem AtW.call {w0 W W' : World} {gT gS : Nat} {torn : List UInt8} {cl : Int} {fin : Bool} {sv : Value} {l : List T.Trk} {A B : List UInt8} (h : AtW w0 gT gS torn cl fin sv l A B W) (hb : Below W.heap.size W W') : AtW w0 gT gS torn cl fin sv l A B W' :=
  ⟨h.n.call hb, h.t.call hb, h.s.call hb, h.rd.keep hb, h.le.trans (hb.mono h.le.size), h.g1, h.g2⟩
theorem AtW.cells {w0 W : World} {gT gS : Nat} {torn : List UInt8} {cl : Int} {fin : Bool} {sv : Value} {l : List T.Trk} {A B : List UInt8} (h : AtW w0 gT gS torn cl fin sv l A B W) :
    W.cell? ⟨w0.heap.size, 0, none⟩ = some (.string (str torn)) ∧ W.cell? ⟨gT, 0, none⟩ = some (.int .i64 cl) ∧ W.cell? ⟨gT, 1, none⟩ = some (.bool fin) ∧ W.cell? ⟨gT, 2, none⟩ = some sv ∧ W.cell? ⟨gS, 0, none⟩ = some (.string (str A)) ∧ W.cell? ⟨gS, 1, none⟩ = some (.string (str B)) ∧ gS < W.heap.size :=
  ⟨h.n.cell (i := 0) rfl, h.t.cell (i := 0) rfl, h.t.cell (i := 1) rfl, h.t.cell (i := 2) rfl, h.s.cell (i := 0) rfl, h.s.cell (i := 1) rfl, h.s.lt⟩
theorem AtW.putS {w0 W : World} {gT gS : Nat} {torn : List UInt8} {cl : Int} {fin : Bool} {sv : Value} {l : List T.Trk} {A B : List UInt8} (h : AtW w0 gT gS torn cl fin sv l A B W) (A' B' : List UInt8) :
    AtW w0 gT gS torn cl fin sv l A' B' ((W.setCell ⟨gS, 0, none⟩ (.string (str A'))).setCell ⟨gS, 1, none⟩ (.string (str B'))) :=
  have h1 := h.g1
  have h2 := h.g2
  ⟨(h.n.far (by simp only; omega) _).far (by simp only; omega) _, (h.t.far (by simp only; omega) _).far (by simp only; omega) _, (h.s.set 0 _).set 1 _, RdK.far (RdK.far h.rd h.s (by simp) 0 _) (h.s.set 0 _) (by simp) 1 _, (h.le.setCell (by simp only; omega) _).setCell (by simp only; omega) _, h1, h2⟩
section
variable {w0 W : World} {gT gS : Nat} {torn : List UInt8} {cl : Int} {fin : Bool} {sv : Value} {l : List T.Trk} {A B : List UInt8}
theorem AtW.far (h : AtW w0 gT gS torn cl fin sv l A B W) {g : Nat} {t : TypeId} {cs : List Value} (hb : Bx W g t cs) (hc : cs.length < 7) (hg : gS < g) (i : Nat) (u : Value) : AtW w0 gT gS torn cl fin sv l A B (W.setCell ⟨g, i, none⟩ u) :=
  have h1 := h.g1
  have h2 := h.g2
  ⟨h.n.far (by simp only; omega) _, h.t.far (by simp only; omega) _, h.s.far (by simp only; omega) _, RdK.far h.rd hb (by simpa using hc) i u, h.le.setCell (by simp only; omega) _, h1, h2⟩
theorem AtW.drew (h : AtW w0 gT gS torn cl fin sv l A B W) : AtW w0 gT gS torn cl fin sv l A B W.drew := ⟨h.n, h.t, h.s, h.rd, h.le.drew, h.g1, h.g2⟩
theorem AtW.putT (h : AtW w0 gT gS torn cl fin sv l A B W) {cl' : Int} {fin' : Bool} {sv' : Value} {l' : List T.Trk} (hr : RdK W sv' l') :
    AtW w0 gT gS torn cl' fin' sv' l' A B (((W.setCell ⟨gT, 0, none⟩ (.int .i64 cl')).setCell ⟨gT, 1, none⟩ (.bool fin')).setCell ⟨gT, 2, none⟩ sv') :=
  have h1 := h.g1
  have h2 := h.g2
  ⟨((h.n.far (by simp only; omega) _).far (by simp only; omega) _).far (by simp only; omega) _, ((h.t.set 0 _).set 1 _).set 2 _, ((h.s.far (by simp only; omega) _).far (by simp only; omega) _).far (by simp only; omega) _,
    RdK.far (RdK.far (RdK.far hr h.t (by simp) 0 _) (h.t.set 0 _) (by simp) 1 _) ((h.t.set 0 _).set 1 _) (by simp) 2 _, ((h.le.setCell (by simp only; omega) _).setCell (by simp only; omega) _).setCell (by simp only; omega) _, h1, h2⟩
/-- the table and the slots are replaced, in either order -/
theorem AtW.turn (h : AtW w0 gT gS torn cl fin sv l A B W) {cl' : Int} {fin' : Bool} {sv' : Value} {l' : List T.Trk} (hr : RdK W sv' l') (A' B' : List UInt8) :
    AtW w0 gT gS torn cl' fin' sv' l' A' B' (((((W.setCell ⟨gT, 0, none⟩ (.int .i64 cl')).setCell ⟨gT, 1, none⟩ (.bool fin')).setCell ⟨gT, 2, none⟩ sv').setCell ⟨gS, 0, none⟩ (.string (str A'))).setCell ⟨gS, 1, none⟩ (.string (str B'))).drew ∧
    AtW w0 gT gS torn cl' fin' sv' l' A' B' (((((W.setCell ⟨gS, 0, none⟩ (.string (str A'))).setCell ⟨gS, 1, none⟩ (.string (str B'))).setCell ⟨gT, 0, none⟩ (.int .i64 cl')).setCell ⟨gT, 1, none⟩ (.bool fin')).setCell ⟨gT, 2, none⟩ sv').drew :=
  ⟨((h.putT hr).putS A' B').drew, ((h.putS A' B').putT (RdK.far (RdK.far hr h.s (by simp) 0 _) (h.s.set 0 _) (by simp) 1 _)).drew⟩
end
set_option maxRecDepth 100000 in
set_option maxHeartbeats 8000000 in
theorem atomic_ok (cap : Int) (l : List Ac) (av : Value) (torn : List UInt8) (w : World) (h1 : 1 ≤ cap) (h2 : cap ≤ 449849) (hr : RdA w av l) (hn : l.length ≤ 40) (ht : torn.length ≤ 300) :
    Calls Try.prog 8 #[.int .i64 cap, av, .string (str torn)] w (RB true w) := by
  obtain ⟨⟨sa, sc, ab, ao, rfl, hac, hcell⟩, hwf⟩ := hr
  have HC := Lib.hid hcell; clear hcell
  have HWF := Lib.hid hwf; clear hwf
  have hst := str_size torn
  obtain ⟨m, hm⟩ : ∃ m, m = torn.length := ⟨_, rfl⟩
  have hmb : m ≤ 300 := by omega
  rw [← hm] at hst
  have HM := Lib.hid hm
  have HFS := Lib.hid (save_first h1 h2)
  have HSV := Lib.hid (fun W => psave_any cap [] [] 0 false (.slice none 0 0) [] W (RdK.nil W) (.inl ⟨by simp, fun i hi => by simp at hi⟩) (by omega) (by simp) (by simp))
  rw [HFS.out.1] at HSV
  have HBN := Lib.hid (Bx.new w 9 [.string (str torn)])
  have hbe := (Below.refl w.heap.size w).alloc (Nat.le_refl _) (.cells #[.string (str torn)] 9)
  clear hm ht
  go_enter Try.func8, Try.ntmps8
  go_wp2_with fail
  refine (awake_any _).mono ?_
  rintro e w1 ⟨rfl, hb1⟩
  have hN := HBN.out.call hb1
  have hle := hbe.trans (hb1.mono hbe.size)
  clear hb1 hbe
  have hn0 := hN.cell (i := 0) rfl
  go_upto_region 6 with (fail)
  have HW0 : AtW w w1.heap.size (w1.heap.size + 1) torn 0 false (.slice none 0 0) [] [] [] ((w1.alloc (.cells #[.int .i64 0, .bool false, .slice none 0 0] 24)).alloc (.cells #[.string ⟨#[]⟩, .string ⟨#[]⟩] 54)) :=
    ⟨(hN.alloc _).alloc _, (Bx.new w1 _ _).alloc _, by have := Bx.new (w1.alloc (.cells #[.int .i64 0, .bool false, .slice none 0 0] 24)) 54 [.string ⟨#[]⟩, .string ⟨#[]⟩]; rw [World.size_alloc] at this; exact this,
      RdK.nil _, (hle.alloc hle.size _).alloc (by simp; have := hle.size; omega) _, hN.lt, by omega⟩
  obtain ⟨gT, hgT⟩ : ∃ gT, gT = w1.heap.size := ⟨_, rfl⟩
  obtain ⟨gS, hgS⟩ : ∃ gS, gS = w1.heap.size + 1 := ⟨_, rfl⟩
  rw [← hgS, ← hgT] at HW0
  simp only [← hgS]
  simp only [← hgT]
  generalize (w1.alloc (.cells #[.int .i64 0, .bool false, .slice none 0 0] 24)).alloc (.cells #[.string ⟨#[]⟩, .string ⟨#[]⟩] 54) = w2 at HW0 ⊢
  clear hgT hgS hN hle hn0
  obtain ⟨n0, t0, t1, t2, s0, s1, hgl⟩ := HW0.cells
  have s0' : w2.cell? ⟨gS, 0, none⟩ = some (.string ⟨#[]⟩) := s0
  have s1' : w2.cell? ⟨gS, 1, none⟩ = some (.string ⟨#[]⟩) := s1
  clear s0 s1
  go_wp2_with fail
  refine (HSV.out _).mono ?_
  rintro e w3 ⟨rfl, hb3⟩
  have HW3 := HW0.call hb3
  clear HW0 hb3 n0 t0 t1 t2 s0' s1' hgl HSV
  obtain ⟨E0, hE0⟩ : ∃ E, E = encE (0 : Nat) 0 false [] := ⟨_, rfl⟩
  simp only
  rw [← hE0]
  have HC0 := HFS.out.2
  rw [← hE0] at HC0
  have HC0h := Lib.hid HC0
  clear hE0 HC0 HFS
  obtain ⟨n0, t0, t1, t2, s0, s1, hgl⟩ := HW3.cells
  have hsf := HW3.s.free
  go_wp2_with fail
  clear n0 t0 t1 t2 s0 s1 hsf
  generalize Value.bool (decide (40 < (l.length : Int))) = b28
  generalize Value.bool (decide (cap < 1)) = b31
  generalize Value.bool (decide (40 < (l.length : Int)) || decide (cap < 1)) = b32
  generalize Value.bool (decide (449849 < cap)) = b35
  generalize Value.bool (decide (40 < (l.length : Int)) || decide (cap < 1) || decide (449849 < cap)) = b36
  generalize Value.bool (decide (300 < (m : Int))) = b40
  generalize Value.bool (decide (40 < (l.length : Int)) || decide (cap < 1) || decide (449849 < cap) || decide (300 < (m : Int))) = b41
  have HW4 := HW3.putS E0 []
  go_loopw [55] (fun vi wr => ∃ (k : Nat) (cl : Int) (fin : Bool) (sv : Value) (tl : List T.Trk) (c o : List UInt8) (q : Nat) (A B : List UInt8), k ≤ l.length ∧ vi = .int .i64 k ∧ Cur cap c o q cl fin tl ∧ q ≤ k ∧ (c = A ∧ o = B ∨ c = B ∧ o = A) ∧ AtW w gT gS torn cl fin sv tl A B wr) (fun vi _ => l.length - (intOf vi).toNat)
  case atStart => exact ⟨0, 0, false, _, [], E0, [], 0, E0, [], by omega, rfl, HC0h.out, by omega, .inl ⟨rfl, rfl⟩, HW4⟩
  case round =>
    clear HW3 HW4 hgl
    obtain ⟨k, cl, fin, sv, tl, c, o, q, A, B, hk, rfl, hC, hq, hAB, HW⟩ := hrel
    obtain ⟨wo, rfl⟩ : ∃ wo : World, wo = wr := ⟨_, rfl⟩
    by_cases hlt : k < l.length
    · have hq1k : q < 1000 := by omega
      rcases hAB with hAB | hAB
      · obtain ⟨h01, h02⟩ := hAB
        subst h01 h02
        obtain ⟨ta, tc, rfl, htac⟩ := RdS.form HW.rd
        obtain ⟨ha, hrange⟩ := HC.out k hlt
        obtain ⟨_, wfa, wfb⟩ := HWF.out k hlt
        have hrg : wo.rangeAt ab (ao + k * 4) (acs (ac l k)) := fun j u hu => (HW.le.cell (p := ⟨ab, ao + k * 4 + j, none⟩) (World.block_lt_of_cell? w _ (hrange j u hu))).trans (hrange j u hu)
        clear hrange
        generalize ac l k = x at hrg wfa wfb
        obtain ⟨xk, xa, xb, xf⟩ := x
        simp only at wfa wfb
        obtain ⟨hc0, hc1, hc2, hc3⟩ := rd4 hrg
        clear hrg
        simp only at hc0 hc1 hc2 hc3
        have hix := fun w' => run_idxS Try.underlying35 Try.sizeAct (cap := sc) ha hlt _ rfl w'
        have Ha := Lib.hid ha; clear ha
        have HWF2 := Lib.hid (And.intro wfa wfb)
        clear wfa wfb
        go_upto_region 12 with (fail)
        clear hc0 hc1 hc2 hc3 hix
        have hSlt := HW.s.lt
        have hbe := ((Below.refl wo.heap.size wo).alloc (Nat.le_refl _) (.cells #[.int .i64 k] 3)).alloc (by simp) (.cells #[.int .i64 xk, .int .i64 xa, .int .i64 xb, .bool xf] 26)
        have hK_0 := (Bx.new wo 3 [.int .i64 k]).alloc (.cells #[.int .i64 xk, .int .i64 xa, .int .i64 xb, .bool xf] 26)
        have hAc : Bx ((wo.alloc (.cells #[.int .i64 k] 3)).alloc (.cells #[.int .i64 xk, .int .i64 xa, .int .i64 xb, .bool xf] 26)) (wo.heap.size + 1) 26 [.int .i64 xk, .int .i64 xa, .int .i64 xb, .bool xf] := by
          have := Bx.new (wo.alloc (.cells #[.int .i64 k] 3)) 26 [.int .i64 xk, .int .i64 xa, .int .i64 xb, .bool xf]
          rw [World.size_alloc] at this; exact this
        have HW_1 := HW.call hbe
        clear HW
        obtain ⟨gK, hgK⟩ : ∃ gK, gK = wo.heap.size := ⟨_, rfl⟩
        have hKT : gS < gK := by rw [hgK]; exact hSlt
        rw [← hgK] at hK_0 hAc
        simp only [← hgK]
        generalize (wo.alloc (.cells #[.int .i64 k] 3)).alloc (.cells #[.int .i64 xk, .int .i64 xa, .int .i64 xb, .bool xf] 26) = wa at HW_1 hK_0 hAc ⊢
        clear hgK hbe
        obtain ⟨n0, t0, t1, t2, s0, s1, hgl⟩ := HW_1.cells
        have y0 := hAc.cell (i := 0) rfl
        have y1 := hAc.cell (i := 1) rfl
        have y2 := hAc.cell (i := 2) rfl
        have y3 := hAc.cell (i := 3) rfl
        go_wp2_with fail
        refine (do_any cap cl fin _ tl xk xa xb xf _ HW_1.rd (few_of_valid hC.v) HWF2.out.1 HWF2.out.2).mono ?_
        have hD := doR_does hC.v xk xa xb xf
        generalize doR cap cl fin tl xk xa xb xf = R at hD ⊢
        obtain ⟨rcl, rfin, rl, rcode⟩ := R
        rintro e w3 ⟨v3, rfl, hR_0, hb3⟩
        obtain ⟨a3, c3, rfl, _⟩ := RdS.form hR_0
        simp only at hR_0 hD ⊢
        clear y0 y1 y2 y3 hAc n0 t0 t1 t2 s0 s1 hgl
        have HW_2 := HW_1.call hb3
        have hK_2 := hK_0.call hb3
        clear HW_1 hK_0
        clear hb3
        have HD := Lib.hid hD; clear hD
        have lSX := HW_2.s.lt
        have hbe := (Below.refl w3.heap.size w3).alloc (Nat.le_refl _) (.cells #[.int .i64 rcl, .bool rfin, .slice a3 rl.length c3] 24)
        have HW_3 := HW_2.call hbe
        have hK_3 := hK_2.call hbe
        have Rx_3 := hR_0.keep hbe
        clear HW_2 hK_2 hR_0
        have hX_0 := Bx.new w3 24 [.int .i64 rcl, .bool rfin, .slice a3 rl.length c3]
        go_upto_region 13 with (fail)
        obtain ⟨gX, hgX⟩ : ∃ gX, gX = w3.heap.size := ⟨_, rfl⟩
        rw [← hgX] at hX_0 lSX
        simp only [← hgX]
        generalize w3.alloc (.cells #[.int .i64 rcl, .bool rfin, .slice a3 rl.length c3] 24) = w4 at HW_3 hK_3 Rx_3 hX_0 ⊢
        clear hgX hbe
        by_cases he : rcode = 0
        rotate_left
        · have hne0 : (rcode != 0) = true := bne_iff_ne.2 he
          have hne1 : (rcode == 0) = false := beq_eq_false_iff_ne.2 he
          clear he
          go_wp2_with fail
          go_roundw
          case rel => exact ⟨k + 1, cl, fin, _, tl, c, o, q, c, o, by omega, by go_num, hC, by omega, .inl ⟨rfl, rfl⟩, HW_3⟩
          case measure => simp [intOf]; omega
        subst he
        have hS := HD.out.ok rfl
        simp only at hS
        have hV' := hS.valid hC.v
        obtain ⟨sv1, sv2, hC', hneq⟩ := hC.save hV' (by omega)
        have hfew := few_of_valid hV'
        clear hS HD
        obtain ⟨E, hE⟩ : ∃ E, E = encE (q + 1 : Nat) rcl rfin rl := ⟨_, rfl⟩
        rw [← hE] at sv1 sv2 hC' hneq
        clear hE
        have HSAVE := Lib.hid (fun W hW => psave_any cap c o rcl rfin (.slice a3 rl.length c3) rl W hW (.inl hfew) (by have := hV'.2.2.2.2.1; omega) (by have := hC.len; have := hC.n; omega) (by have := hC.len; have := hC.n; omega))
        rw [sv1] at HSAVE
        have HCh := Lib.hid hC
        have HCh' := Lib.hid hC'
        have HQ := Lib.hid hq
        have HNE := Lib.hid hneq
        have HLL : Hid (rl.length ≤ 9223372036854775807 ∧ tl.length ≤ 9223372036854775807) := Lib.hid ⟨by have := hfew.1; omega, by have := hC.v.2.2.1; omega⟩
        clear hC hC' hneq sv1 sv2 hfew hV'
        obtain ⟨n0, t0, t1, t2, s0, s1, hgl⟩ := HW_3.cells
        have x0 := hX_0.cell (i := 0) rfl
        have x1 := hX_0.cell (i := 1) rfl
        have x2 := hX_0.cell (i := 2) rfl
        go_wp2_with fail
        refine (HSAVE.out _ Rx_3).mono ?_
        rintro e w5 ⟨rfl, hb5⟩
        simp only
        clear n0 t0 t1 t2 s0 s1 hgl x0 x1 x2
        have HW_4 := HW_3.call hb5
        have hK_4 := hK_3.call hb5
        have Rx_4 := Rx_3.keep hb5
        have hX_4 := hX_0.call hb5
        clear HW_3 hK_3 Rx_3 hX_0
        clear hb5
        have lS14 := HW_4.s.lt
        have hbe := (Below.refl w5.heap.size w5).alloc (Nat.le_refl _) (.cells #[.string (str c), .string (str E)] 54)
        have HW_5 := HW_4.call hbe
        have hK_5 := hK_4.call hbe
        have Rx_5 := Rx_4.keep hbe
        have hX_5 := hX_4.call hbe
        clear HW_4 hK_4 Rx_4 hX_4
        have hNx_0 := Bx.new w5 54 [.string (str c), .string (str E)]
        go_upto_region 15 with (fail)
        obtain ⟨g14, hg14⟩ : ∃ g14, g14 = w5.heap.size := ⟨_, rfl⟩
        rw [← hg14] at hNx_0 lS14
        simp only [← hg14]
        generalize w5.alloc (.cells #[.string (str c), .string (str E)] 54) = w6 at HW_5 hK_5 Rx_5 hX_5 hNx_0 ⊢
        clear hg14 hbe
        obtain ⟨n0, t0, t1, t2, s0, s1, hgl⟩ := HW_5.cells
        have u0 := hNx_0.cell (i := 0) rfl
        have u1 := hNx_0.cell (i := 1) rfl
        have hse := str_other HNE.out
        have hse2 := str_same (rfl : c = c)
        have HLO := Lib.hid (fun W => pload_any cap c E W (by have := HCh.out.len; have := HCh'.out.len; omega) (by have := HCh.out.len; have := HCh'.out.len; omega))
        rw [HCh'.out.load.2] at HLO
        go_wp2_with fail
        refine (HLO.out _).mono ?_
        rintro e w7 ⟨v7, rfl, hr7, hb7⟩
        obtain ⟨a7, c7, rfl, _⟩ := RdS.form hr7
        simp only at hr7 ⊢
        clear n0 t0 t1 t2 s0 s1 hgl u0 u1
        have HW_6 := HW_5.call hb7
        have hK_6 := hK_5.call hb7
        have Rx_6 := Rx_5.keep hb7
        have hX_6 := hX_5.call hb7
        have hNx_6 := hNx_0.call hb7
        clear HW_5 hK_5 Rx_5 hX_5 hNx_0
        clear hb7
        have hbe := (Below.refl w7.heap.size w7).alloc (Nat.le_refl _) (.cells #[.int .i64 rcl, .bool rfin, .slice a7 rl.length c7] 24)
        have HW_7 := HW_6.call hbe
        have hK_7 := hK_6.call hbe
        have Rx_7 := Rx_6.keep hbe
        have hX_7 := hX_6.call hbe
        have hNx_7 := hNx_6.call hbe
        have R7_7 := hr7.keep hbe
        clear HW_6 hK_6 Rx_6 hX_6 hNx_6 hr7
        have h15_0 := Bx.new w7 24 [.int .i64 rcl, .bool rfin, .slice a7 rl.length c7]
        go_upto_region 18 with (fail)
        obtain ⟨g15, hg15⟩ : ∃ g15, g15 = w7.heap.size := ⟨_, rfl⟩
        rw [← hg15] at h15_0
        simp only [← hg15]
        generalize w7.alloc (.cells #[.int .i64 rcl, .bool rfin, .slice a7 rl.length c7] 24) = w8 at HW_7 hK_7 Rx_7 hX_7 hNx_7 R7_7 h15_0 ⊢
        clear hg15 hbe
        have z0 := h15_0.cell (i := 0) rfl
        have z1 := h15_0.cell (i := 1) rfl
        have z2 := h15_0.cell (i := 2) rfl
        have x0 := hX_7.cell (i := 0) rfl
        have x1 := hX_7.cell (i := 1) rfl
        have x2 := hX_7.cell (i := 2) rfl
        have HSM := Lib.hid (same_any rcl rfin _ _ rl w8 R7_7 Rx_7 HLL.out.1)
        have hq1 : ¬ (((q + 1 : Nat) : Int) < 1) := by omega
        go_wp2_with fail
        refine HSM.out.mono ?_
        rintro e w9 ⟨rfl, hb9⟩
        clear z0 z1 z2 x0 x1 x2
        have HW_8 := HW_7.call hb9
        have hK_8 := hK_7.call hb9
        have Rx_8 := Rx_7.keep hb9
        have hX_8 := hX_7.call hb9
        have hNx_8 := hNx_7.call hb9
        have R7_8 := R7_7.keep hb9
        have h15_8 := h15_0.call hb9
        clear HW_7 hK_7 Rx_7 hX_7 hNx_7 R7_7 h15_0
        clear hb9
        have u0 := hNx_8.cell (i := 0) rfl
        have u1 := hNx_8.cell (i := 1) rfl
        go_upto_region 20 with (fail)
        have l14 := hNx_8.lt
        have lX := hX_8.lt
        have lS := HW_8.s.lt
        have lK := hK_8.lt
        have hbe := (Below.refl w9.heap.size w9).alloc (Nat.le_refl _) (.cells #[.string (str c), .string (str E)] 54)
        have HW_9 := HW_8.call hbe
        have hK_9 := hK_8.call hbe
        have Rx_9 := Rx_8.keep hbe
        have hX_9 := hX_8.call hbe
        have hNx_9 := hNx_8.call hbe
        clear HW_8 hK_8 Rx_8 hX_8 hNx_8
        have h17_0 := Bx.new w9 54 [.string (str c), .string (str E)]
        go_upto_region 21 with (fail)
        obtain ⟨g17, hg17⟩ : ∃ g17, g17 = w9.heap.size := ⟨_, rfl⟩
        rw [← hg17] at h17_0 l14 lX lS lK
        simp only [← hg17]
        generalize w9.alloc (.cells #[.string (str c), .string (str E)] 54) = w10 at HW_9 hK_9 Rx_9 hX_9 hNx_9 h17_0 ⊢
        clear hg17 hbe
        clear u0 u1
        obtain ⟨n0, t0, t1, t2, s0, s1, hgl⟩ := HW_9.cells
        have u0 := hNx_9.cell (i := 0) rfl
        have u1 := hNx_9.cell (i := 1) rfl
        have v0 := h17_0.cell (i := 0) rfl
        have v1 := h17_0.cell (i := 1) rfl
        have k0 := hK_9.cell (i := 0) rfl
        have vf := h17_0.free
        have hEl := HCh'.out.read.2.2.2.2.2
        have HHALF := Lib.hid (fun W hkk hnn => half_any E torn k gK w.heap.size W hkk hnn (by omega) (by have := HCh'.out.len; omega))
        clear hEl
        go_wp2_with fail
        refine (HHALF.out _ k0 n0).mono ?_
        rintro e w11 ⟨rfl, rfl⟩
        clear s0 s1 u0 u1 t0 t1 t2 k0
        go_upto_region 25 with (fail)
        have HWf := HW_9.far h17_0 (by simp) lS 1 (.string (str (halfE k E torn)))
        have hNxf := hNx_9.far (p := ⟨g17, 1, none⟩) (by simp only; omega) (.string (str (halfE k E torn)))
        have hXf := hX_9.far (p := ⟨g17, 1, none⟩) (by simp only; omega) (.string (str (halfE k E torn)))
        have Rxf := RdK.far Rx_9 h17_0 (by simp) 1 (.string (str (halfE k E torn)))
        have h17f := h17_0.set 1 (.string (str (halfE k E torn)))
        clear HW_9 hNx_9 hX_9 Rx_9 h17_0 hK_9 n0 v0 v1 vf
        generalize w10.setCell ⟨g17, 1, none⟩ (.string (str (halfE k E torn))) = w11 at HWf hNxf hXf Rxf h17f ⊢
        have HTL := Lib.hid (fun W => pload_any cap torn [] W (by have := HM.out; omega) (by simp))
        have HLT := load_torn cap torn h1 h2
        have n0 := HWf.n.cell (i := 0) rfl
        by_cases htn : okD cap torn = true
        · have h0 := HLT.1 htn
          generalize loadR cap torn [] = RL at HTL h0
          obtain ⟨⟨lcl, lfin, ll, lcode⟩, lq⟩ := RL
          simp only at h0
          subst h0
          have HLE := Lib.hid HWf.le
          clear HLT htn HWf hNxf hXf Rxf h17f
          go_wp2_with fail
          refine (HTL.out _).mono ?_
          rintro e w12 ⟨v12, rfl, hr12, hb12⟩
          obtain ⟨a12, c12, rfl, _⟩ := RdS.form hr12
          simp only
          have hle12 := HLE.out.trans (hb12.mono HLE.out.size)
          clear hr12 hb12 n0
          go_wp2_with fail
          go_ret
          exact ⟨rfl, hle12.alloc hle12.size _⟩
        have HTN := Lib.hid (Bool.eq_false_iff.2 htn)
        rw [HLT.2 HTN.out] at HTL
        clear HLT htn
        go_wp2_with fail
        refine (HTL.out _).mono ?_
        rintro e w12 ⟨v12, rfl, hr12, hb12⟩
        obtain ⟨a12, c12, rfl, _⟩ := RdS.form hr12
        simp only [Res.bad, List.length_nil]
        clear n0 hr12 HTL
        have HW_10 := HWf.call hb12
        have hNx_10 := hNxf.call hb12
        have hX_10 := hXf.call hb12
        have Rx_10 := Rxf.keep hb12
        have h17_10 := h17f.call hb12
        clear HWf hNxf hXf Rxf h17f
        clear hb12
        have hbe := (Below.refl w12.heap.size w12).alloc (Nat.le_refl _) (.cells #[.int .i64 0, .bool false, .slice a12 0 c12] 24)
        have HW_11 := HW_10.call hbe
        have hNx_11 := hNx_10.call hbe
        have hX_11 := hX_10.call hbe
        have Rx_11 := Rx_10.keep hbe
        have h17_11 := h17_10.call hbe
        clear HW_10 hNx_10 hX_10 Rx_10 h17_10
        have h19_0 := Bx.new w12 24 [.int .i64 0, .bool false, .slice a12 0 c12]
        go_upto_region 28 with (fail)
        obtain ⟨g19, hg19⟩ : ∃ g19, g19 = w12.heap.size := ⟨_, rfl⟩
        rw [← hg19] at h19_0
        simp only [← hg19]
        generalize w12.alloc (.cells #[.int .i64 0, .bool false, .slice a12 0 c12] 24) = w13 at HW_11 hNx_11 hX_11 Rx_11 h17_11 h19_0 ⊢
        clear hg19 hbe
        have v0 := h17_11.cell (i := 0) rfl
        have v1 := h17_11.cell (i := 1) rfl
        have HLB := Lib.hid (fun W => pload_any cap c (halfE k E torn) W (by have := HCh.out.len; have := HCh'.out.len; have := half_len (k := k) HCh'.out.len (by have := HM.out; omega : torn.length ≤ 300); omega) (by have := HCh.out.len; have := HCh'.out.len; have := half_len (k := k) HCh'.out.len (by have := HM.out; omega : torn.length ≤ 300); omega))
        rw [(HCh.out.torn (half_no (cap := cap) (k := k) HCh'.out.read.2.2.2.2.2 HTN.out) (half_len HCh'.out.len (by have := HM.out; omega))).load.1] at HLB
        go_wp2_with fail
        refine (HLB.out _).mono ?_
        rintro e w14 ⟨v14, rfl, hr14, hb14⟩
        obtain ⟨a14, c14, rfl, _⟩ := RdS.form hr14
        simp only at hr14 ⊢
        clear v0 v1 HLB h19_0
        have HW_12 := HW_11.call hb14
        have hNx_12 := hNx_11.call hb14
        have hX_12 := hX_11.call hb14
        have Rx_12 := Rx_11.keep hb14
        clear HW_11 hNx_11 hX_11 Rx_11
        clear hb14
        have hbe := (Below.refl w14.heap.size w14).alloc (Nat.le_refl _) (.cells #[.int .i64 cl, .bool fin, .slice a14 tl.length c14] 24)
        have HW_13 := HW_12.call hbe
        have hNx_13 := hNx_12.call hbe
        have hX_13 := hX_12.call hbe
        have Rx_13 := Rx_12.keep hbe
        have R14_13 := hr14.keep hbe
        clear HW_12 hNx_12 hX_12 Rx_12 hr14
        have h22_0 := Bx.new w14 24 [.int .i64 cl, .bool fin, .slice a14 tl.length c14]
        go_upto_region 29 with (fail)
        obtain ⟨g22, hg22⟩ : ∃ g22, g22 = w14.heap.size := ⟨_, rfl⟩
        rw [← hg22] at h22_0
        simp only [← hg22]
        generalize w14.alloc (.cells #[.int .i64 cl, .bool fin, .slice a14 tl.length c14] 24) = w15 at HW_13 hNx_13 hX_13 Rx_13 R14_13 h22_0 ⊢
        clear hg22 hbe
        have z0 := h22_0.cell (i := 0) rfl
        have z1 := h22_0.cell (i := 1) rfl
        have z2 := h22_0.cell (i := 2) rfl
        obtain ⟨n0, t0, t1, t2, s0, s1, hgl⟩ := HW_13.cells
        have HSM2 := Lib.hid (same_any cl fin _ _ tl w15 R14_13 HW_13.rd HLL.out.2)
        have hq2 : ((q : Int) != ((q + 1 : Nat) : Int) - 1) = false := by rw [bne_eq_false_iff_eq]; omega
        have hq3 : (-9223372036854775808 : Int) ≤ ((q + 1 : Nat) : Int) - 1 := by omega
        go_wp2_with fail
        refine HSM2.out.mono ?_
        rintro e w16 ⟨rfl, hb16⟩
        clear z0 z1 z2 n0 t0 t1 t2 s0 s1 hgl
        have HW_14 := HW_13.call hb16
        have hNx_14 := hNx_13.call hb16
        have hX_14 := hX_13.call hb16
        have Rx_14 := Rx_13.keep hb16
        have R14_14 := R14_13.keep hb16
        have h22_14 := h22_0.call hb16
        clear HW_13 hNx_13 hX_13 Rx_13 R14_13 h22_0
        clear hb16
        go_upto_region 31 with (fail)
        obtain ⟨n0, t0, t1, t2, s0, s1, hgl⟩ := HW_14.cells
        have x0 := hX_14.cell (i := 0) rfl
        have x1 := hX_14.cell (i := 1) rfl
        have x2 := hX_14.cell (i := 2) rfl
        have u0 := hNx_14.cell (i := 0) rfl
        have u1 := hNx_14.cell (i := 1) rfl
        have tf := HW_14.t.free
        have sf := HW_14.s.free
        have hgT := HW_14.t.lt
        have hTS := HW_14.g2
        have hTSn : gT ≠ gS := by omega
        have hSTn : gS ≠ gT := by omega
        have hq11 : gX ≠ gT := by omega
        have hq12 : gT ≠ gX := by omega
        have hq13 : gX ≠ gS := by omega
        have hq14 : gS ≠ gX := by omega
        have hq15 : g14 ≠ gT := by omega
        have hq16 : gT ≠ g14 := by omega
        have hq17 : g14 ≠ gS := by omega
        have hq18 : gS ≠ g14 := by omega
        have HFIN := Lib.hid (HW_14.turn (cl' := rcl) (fin' := rfin) Rx_14 c E)
        clear HW_14 hNx_14 hX_14 Rx_14 R14_14 h22_14
        go_region
        all_goals
          clear n0 t0 t1 t2 s0 s1 hgl x0 x1 x2 u0 u1 tf sf hgT hTS hTSn hSTn hq11 hq12 hq13 hq14 hq15 hq16 hq17 hq18
          go_wp2_with fail
          go_roundw
          case rel =>
            refine ⟨k + 1, rcl, rfin, .slice a3 rl.length c3, rl, E, c, q + 1, c, E, by omega, by go_num, HCh'.out, by have := HQ.out; omega, .inr ⟨rfl, rfl⟩, ?_⟩
            first | exact HFIN.out.1 | exact HFIN.out.2
          case measure => simp [intOf]; omega
      · obtain ⟨h01, h02⟩ := hAB
        subst h01 h02
        obtain ⟨ta, tc, rfl, htac⟩ := RdS.form HW.rd
        obtain ⟨ha, hrange⟩ := HC.out k hlt
        obtain ⟨_, wfa, wfb⟩ := HWF.out k hlt
        have hrg : wo.rangeAt ab (ao + k * 4) (acs (ac l k)) := fun j u hu => (HW.le.cell (p := ⟨ab, ao + k * 4 + j, none⟩) (World.block_lt_of_cell? w _ (hrange j u hu))).trans (hrange j u hu)
        clear hrange
        generalize ac l k = x at hrg wfa wfb
        obtain ⟨xk, xa, xb, xf⟩ := x
        simp only at wfa wfb
        obtain ⟨hc0, hc1, hc2, hc3⟩ := rd4 hrg
        clear hrg
        simp only at hc0 hc1 hc2 hc3
        have hix := fun w' => run_idxS Try.underlying35 Try.sizeAct (cap := sc) ha hlt _ rfl w'
        have Ha := Lib.hid ha; clear ha
        have HWF2 := Lib.hid (And.intro wfa wfb)
        clear wfa wfb
        go_upto_region 12 with (fail)
        clear hc0 hc1 hc2 hc3 hix
        have hSlt := HW.s.lt
        have hbe := ((Below.refl wo.heap.size wo).alloc (Nat.le_refl _) (.cells #[.int .i64 k] 3)).alloc (by simp) (.cells #[.int .i64 xk, .int .i64 xa, .int .i64 xb, .bool xf] 26)
        have hK_0 := (Bx.new wo 3 [.int .i64 k]).alloc (.cells #[.int .i64 xk, .int .i64 xa, .int .i64 xb, .bool xf] 26)
        have hAc : Bx ((wo.alloc (.cells #[.int .i64 k] 3)).alloc (.cells #[.int .i64 xk, .int .i64 xa, .int .i64 xb, .bool xf] 26)) (wo.heap.size + 1) 26 [.int .i64 xk, .int .i64 xa, .int .i64 xb, .bool xf] := by
          have := Bx.new (wo.alloc (.cells #[.int .i64 k] 3)) 26 [.int .i64 xk, .int .i64 xa, .int .i64 xb, .bool xf]
          rw [World.size_alloc] at this; exact this
        have HW_1 := HW.call hbe
        clear HW
        obtain ⟨gK, hgK⟩ : ∃ gK, gK = wo.heap.size := ⟨_, rfl⟩
        have hKT : gS < gK := by rw [hgK]; exact hSlt
        rw [← hgK] at hK_0 hAc
        simp only [← hgK]
        generalize (wo.alloc (.cells #[.int .i64 k] 3)).alloc (.cells #[.int .i64 xk, .int .i64 xa, .int .i64 xb, .bool xf] 26) = wa at HW_1 hK_0 hAc ⊢
        clear hgK hbe
        obtain ⟨n0, t0, t1, t2, s0, s1, hgl⟩ := HW_1.cells
        have y0 := hAc.cell (i := 0) rfl
        have y1 := hAc.cell (i := 1) rfl
        have y2 := hAc.cell (i := 2) rfl
        have y3 := hAc.cell (i := 3) rfl
        go_wp2_with fail
        refine (do_any cap cl fin _ tl xk xa xb xf _ HW_1.rd (few_of_valid hC.v) HWF2.out.1 HWF2.out.2).mono ?_
        have hD := doR_does hC.v xk xa xb xf
        generalize doR cap cl fin tl xk xa xb xf = R at hD ⊢
        obtain ⟨rcl, rfin, rl, rcode⟩ := R
        rintro e w3 ⟨v3, rfl, hR_0, hb3⟩
        obtain ⟨a3, c3, rfl, _⟩ := RdS.form hR_0
        simp only at hR_0 hD ⊢
        clear y0 y1 y2 y3 hAc n0 t0 t1 t2 s0 s1 hgl
        have HW_2 := HW_1.call hb3
        have hK_2 := hK_0.call hb3
        clear HW_1 hK_0
        clear hb3
        have HD := Lib.hid hD; clear hD
        have lSX := HW_2.s.lt
        have hbe := (Below.refl w3.heap.size w3).alloc (Nat.le_refl _) (.cells #[.int .i64 rcl, .bool rfin, .slice a3 rl.length c3] 24)
        have HW_3 := HW_2.call hbe
        have hK_3 := hK_2.call hbe
        have Rx_3 := hR_0.keep hbe
        clear HW_2 hK_2 hR_0
        have hX_0 := Bx.new w3 24 [.int .i64 rcl, .bool rfin, .slice a3 rl.length c3]
        go_upto_region 13 with (fail)
        obtain ⟨gX, hgX⟩ : ∃ gX, gX = w3.heap.size := ⟨_, rfl⟩
        rw [← hgX] at hX_0 lSX
        simp only [← hgX]
        generalize w3.alloc (.cells #[.int .i64 rcl, .bool rfin, .slice a3 rl.length c3] 24) = w4 at HW_3 hK_3 Rx_3 hX_0 ⊢
        clear hgX hbe
        by_cases he : rcode = 0
        rotate_left
        · have hne0 : (rcode != 0) = true := bne_iff_ne.2 he
          have hne1 : (rcode == 0) = false := beq_eq_false_iff_ne.2 he
          clear he
          go_wp2_with fail
          go_roundw
          case rel => exact ⟨k + 1, cl, fin, _, tl, c, o, q, o, c, by omega, by go_num, hC, by omega, .inr ⟨rfl, rfl⟩, HW_3⟩
          case measure => simp [intOf]; omega
        subst he
        have hS := HD.out.ok rfl
        simp only at hS
        have hV' := hS.valid hC.v
        obtain ⟨sv1, sv2, hC', hneq⟩ := hC.save hV' (by omega)
        have hfew := few_of_valid hV'
        clear hS HD
        obtain ⟨E, hE⟩ : ∃ E, E = encE (q + 1 : Nat) rcl rfin rl := ⟨_, rfl⟩
        rw [← hE] at sv1 sv2 hC' hneq
        clear hE
        have HSAVE := Lib.hid (fun W hW => psave_any cap o c rcl rfin (.slice a3 rl.length c3) rl W hW (.inl hfew) (by have := hV'.2.2.2.2.1; omega) (by have := hC.len; have := hC.n; omega) (by have := hC.len; have := hC.n; omega))
        rw [sv2] at HSAVE
        have HCh := Lib.hid hC
        have HCh' := Lib.hid hC'
        have HQ := Lib.hid hq
        have HNE := Lib.hid hneq
        have HLL : Hid (rl.length ≤ 9223372036854775807 ∧ tl.length ≤ 9223372036854775807) := Lib.hid ⟨by have := hfew.1; omega, by have := hC.v.2.2.1; omega⟩
        clear hC hC' hneq sv1 sv2 hfew hV'
        obtain ⟨n0, t0, t1, t2, s0, s1, hgl⟩ := HW_3.cells
        have x0 := hX_0.cell (i := 0) rfl
        have x1 := hX_0.cell (i := 1) rfl
        have x2 := hX_0.cell (i := 2) rfl
        go_wp2_with fail
        refine (HSAVE.out _ Rx_3).mono ?_
        rintro e w5 ⟨rfl, hb5⟩
        simp only
        clear n0 t0 t1 t2 s0 s1 hgl x0 x1 x2
        have HW_4 := HW_3.call hb5
        have hK_4 := hK_3.call hb5
        have Rx_4 := Rx_3.keep hb5
        have hX_4 := hX_0.call hb5
        clear HW_3 hK_3 Rx_3 hX_0
        clear hb5
        have lS14 := HW_4.s.lt
        have hbe := (Below.refl w5.heap.size w5).alloc (Nat.le_refl _) (.cells #[.string (str E), .string (str c)] 54)
        have HW_5 := HW_4.call hbe
        have hK_5 := hK_4.call hbe
        have Rx_5 := Rx_4.keep hbe
        have hX_5 := hX_4.call hbe
        clear HW_4 hK_4 Rx_4 hX_4
        have hNx_0 := Bx.new w5 54 [.string (str E), .string (str c)]
        go_upto_region 15 with (fail)
        obtain ⟨g14, hg14⟩ : ∃ g14, g14 = w5.heap.size := ⟨_, rfl⟩
        rw [← hg14] at hNx_0 lS14
        simp only [← hg14]
        generalize w5.alloc (.cells #[.string (str E), .string (str c)] 54) = w6 at HW_5 hK_5 Rx_5 hX_5 hNx_0 ⊢
        clear hg14 hbe
        obtain ⟨n0, t0, t1, t2, s0, s1, hgl⟩ := HW_5.cells
        have u0 := hNx_0.cell (i := 0) rfl
        have u1 := hNx_0.cell (i := 1) rfl
        have hse := str_other HNE.out
        have hse2 := str_same (rfl : c = c)
        have HLO := Lib.hid (fun W => pload_any cap E c W (by have := HCh.out.len; have := HCh'.out.len; omega) (by have := HCh.out.len; have := HCh'.out.len; omega))
        rw [HCh'.out.load.1] at HLO
        go_wp2_with fail
        refine (HLO.out _).mono ?_
        rintro e w7 ⟨v7, rfl, hr7, hb7⟩
        obtain ⟨a7, c7, rfl, _⟩ := RdS.form hr7
        simp only at hr7 ⊢
        clear n0 t0 t1 t2 s0 s1 hgl u0 u1
        have HW_6 := HW_5.call hb7
        have hK_6 := hK_5.call hb7
        have Rx_6 := Rx_5.keep hb7
        have hX_6 := hX_5.call hb7
        have hNx_6 := hNx_0.call hb7
        clear HW_5 hK_5 Rx_5 hX_5 hNx_0
        clear hb7
        have hbe := (Below.refl w7.heap.size w7).alloc (Nat.le_refl _) (.cells #[.int .i64 rcl, .bool rfin, .slice a7 rl.length c7] 24)
        have HW_7 := HW_6.call hbe
        have hK_7 := hK_6.call hbe
        have Rx_7 := Rx_6.keep hbe
        have hX_7 := hX_6.call hbe
        have hNx_7 := hNx_6.call hbe
        have R7_7 := hr7.keep hbe
        clear HW_6 hK_6 Rx_6 hX_6 hNx_6 hr7
        have h15_0 := Bx.new w7 24 [.int .i64 rcl, .bool rfin, .slice a7 rl.length c7]
        go_upto_region 18 with (fail)
        obtain ⟨g15, hg15⟩ : ∃ g15, g15 = w7.heap.size := ⟨_, rfl⟩
        rw [← hg15] at h15_0
        simp only [← hg15]
        generalize w7.alloc (.cells #[.int .i64 rcl, .bool rfin, .slice a7 rl.length c7] 24) = w8 at HW_7 hK_7 Rx_7 hX_7 hNx_7 R7_7 h15_0 ⊢
        clear hg15 hbe
        have z0 := h15_0.cell (i := 0) rfl
        have z1 := h15_0.cell (i := 1) rfl
        have z2 := h15_0.cell (i := 2) rfl
        have x0 := hX_7.cell (i := 0) rfl
        have x1 := hX_7.cell (i := 1) rfl
        have x2 := hX_7.cell (i := 2) rfl
        have HSM := Lib.hid (same_any rcl rfin _ _ rl w8 R7_7 Rx_7 HLL.out.1)
        have hq1 : ¬ (((q + 1 : Nat) : Int) < 1) := by omega
        go_wp2_with fail
        refine HSM.out.mono ?_
        rintro e w9 ⟨rfl, hb9⟩
        clear z0 z1 z2 x0 x1 x2
        have HW_8 := HW_7.call hb9
        have hK_8 := hK_7.call hb9
        have Rx_8 := Rx_7.keep hb9
        have hX_8 := hX_7.call hb9
        have hNx_8 := hNx_7.call hb9
        have R7_8 := R7_7.keep hb9
        have h15_8 := h15_0.call hb9
        clear HW_7 hK_7 Rx_7 hX_7 hNx_7 R7_7 h15_0
        clear hb9
        have u0 := hNx_8.cell (i := 0) rfl
        have u1 := hNx_8.cell (i := 1) rfl
        go_upto_region 20 with (fail)
        have l14 := hNx_8.lt
        have lX := hX_8.lt
        have lS := HW_8.s.lt
        have lK := hK_8.lt
        have hbe := (Below.refl w9.heap.size w9).alloc (Nat.le_refl _) (.cells #[.string (str E), .string (str c)] 54)
        have HW_9 := HW_8.call hbe
        have hK_9 := hK_8.call hbe
        have Rx_9 := Rx_8.keep hbe
        have hX_9 := hX_8.call hbe
        have hNx_9 := hNx_8.call hbe
        clear HW_8 hK_8 Rx_8 hX_8 hNx_8
        have h17_0 := Bx.new w9 54 [.string (str E), .string (str c)]
        go_upto_region 21 with (fail)
        obtain ⟨g17, hg17⟩ : ∃ g17, g17 = w9.heap.size := ⟨_, rfl⟩
        rw [← hg17] at h17_0 l14 lX lS lK
        simp only [← hg17]
        generalize w9.alloc (.cells #[.string (str E), .string (str c)] 54) = w10 at HW_9 hK_9 Rx_9 hX_9 hNx_9 h17_0 ⊢
        clear hg17 hbe
        clear u0 u1
        obtain ⟨n0, t0, t1, t2, s0, s1, hgl⟩ := HW_9.cells
        have u0 := hNx_9.cell (i := 0) rfl
        have u1 := hNx_9.cell (i := 1) rfl
        have v0 := h17_0.cell (i := 0) rfl
        have v1 := h17_0.cell (i := 1) rfl
        have k0 := hK_9.cell (i := 0) rfl
        have vf := h17_0.free
        have hEl := HCh'.out.read.2.2.2.2.2
        have HHALF := Lib.hid (fun W hkk hnn => half_any E torn k gK w.heap.size W hkk hnn (by omega) (by have := HCh'.out.len; omega))
        clear hEl
        go_wp2_with fail
        refine (HHALF.out _ k0 n0).mono ?_
        rintro e w11 ⟨rfl, rfl⟩
        clear s0 s1 u0 u1 t0 t1 t2 k0
        go_upto_region 25 with (fail)
        have HWf := HW_9.far h17_0 (by simp) lS 0 (.string (str (halfE k E torn)))
        have hNxf := hNx_9.far (p := ⟨g17, 0, none⟩) (by simp only; omega) (.string (str (halfE k E torn)))
        have hXf := hX_9.far (p := ⟨g17, 0, none⟩) (by simp only; omega) (.string (str (halfE k E torn)))
        have Rxf := RdK.far Rx_9 h17_0 (by simp) 0 (.string (str (halfE k E torn)))
        have h17f := h17_0.set 0 (.string (str (halfE k E torn)))
        clear HW_9 hNx_9 hX_9 Rx_9 h17_0 hK_9 n0 v0 v1 vf
        generalize w10.setCell ⟨g17, 0, none⟩ (.string (str (halfE k E torn))) = w11 at HWf hNxf hXf Rxf h17f ⊢
        have HTL := Lib.hid (fun W => pload_any cap torn [] W (by have := HM.out; omega) (by simp))
        have HLT := load_torn cap torn h1 h2
        have n0 := HWf.n.cell (i := 0) rfl
        by_cases htn : okD cap torn = true
        · have h0 := HLT.1 htn
          generalize loadR cap torn [] = RL at HTL h0
          obtain ⟨⟨lcl, lfin, ll, lcode⟩, lq⟩ := RL
          simp only at h0
          subst h0
          have HLE := Lib.hid HWf.le
          clear HLT htn HWf hNxf hXf Rxf h17f
          go_wp2_with fail
          refine (HTL.out _).mono ?_
          rintro e w12 ⟨v12, rfl, hr12, hb12⟩
          obtain ⟨a12, c12, rfl, _⟩ := RdS.form hr12
          simp only
          have hle12 := HLE.out.trans (hb12.mono HLE.out.size)
          clear hr12 hb12 n0
          go_wp2_with fail
          go_ret
          exact ⟨rfl, hle12.alloc hle12.size _⟩
        have HTN := Lib.hid (Bool.eq_false_iff.2 htn)
        rw [HLT.2 HTN.out] at HTL
        clear HLT htn
        go_wp2_with fail
        refine (HTL.out _).mono ?_
        rintro e w12 ⟨v12, rfl, hr12, hb12⟩
        obtain ⟨a12, c12, rfl, _⟩ := RdS.form hr12
        simp only [Res.bad, List.length_nil]
        clear n0 hr12 HTL
        have HW_10 := HWf.call hb12
        have hNx_10 := hNxf.call hb12
        have hX_10 := hXf.call hb12
        have Rx_10 := Rxf.keep hb12
        have h17_10 := h17f.call hb12
        clear HWf hNxf hXf Rxf h17f
        clear hb12
        have hbe := (Below.refl w12.heap.size w12).alloc (Nat.le_refl _) (.cells #[.int .i64 0, .bool false, .slice a12 0 c12] 24)
        have HW_11 := HW_10.call hbe
        have hNx_11 := hNx_10.call hbe
        have hX_11 := hX_10.call hbe
        have Rx_11 := Rx_10.keep hbe
        have h17_11 := h17_10.call hbe
        clear HW_10 hNx_10 hX_10 Rx_10 h17_10
        have h19_0 := Bx.new w12 24 [.int .i64 0, .bool false, .slice a12 0 c12]
        go_upto_region 28 with (fail)
        obtain ⟨g19, hg19⟩ : ∃ g19, g19 = w12.heap.size := ⟨_, rfl⟩
        rw [← hg19] at h19_0
        simp only [← hg19]
        generalize w12.alloc (.cells #[.int .i64 0, .bool false, .slice a12 0 c12] 24) = w13 at HW_11 hNx_11 hX_11 Rx_11 h17_11 h19_0 ⊢
        clear hg19 hbe
        have v0 := h17_11.cell (i := 0) rfl
        have v1 := h17_11.cell (i := 1) rfl
        have HLB := Lib.hid (fun W => pload_any cap (halfE k E torn) c W (by have := HCh.out.len; have := HCh'.out.len; have := half_len (k := k) HCh'.out.len (by have := HM.out; omega : torn.length ≤ 300); omega) (by have := HCh.out.len; have := HCh'.out.len; have := half_len (k := k) HCh'.out.len (by have := HM.out; omega : torn.length ≤ 300); omega))
        rw [(HCh.out.torn (half_no (cap := cap) (k := k) HCh'.out.read.2.2.2.2.2 HTN.out) (half_len HCh'.out.len (by have := HM.out; omega))).load.2] at HLB
        go_wp2_with fail
        refine (HLB.out _).mono ?_
        rintro e w14 ⟨v14, rfl, hr14, hb14⟩
        obtain ⟨a14, c14, rfl, _⟩ := RdS.form hr14
        simp only at hr14 ⊢
        clear v0 v1 HLB h19_0
        have HW_12 := HW_11.call hb14
        have hNx_12 := hNx_11.call hb14
        have hX_12 := hX_11.call hb14
        have Rx_12 := Rx_11.keep hb14
        clear HW_11 hNx_11 hX_11 Rx_11
        clear hb14
        have hbe := (Below.refl w14.heap.size w14).alloc (Nat.le_refl _) (.cells #[.int .i64 cl, .bool fin, .slice a14 tl.length c14] 24)
        have HW_13 := HW_12.call hbe
        have hNx_13 := hNx_12.call hbe
        have hX_13 := hX_12.call hbe
        have Rx_13 := Rx_12.keep hbe
        have R14_13 := hr14.keep hbe
        clear HW_12 hNx_12 hX_12 Rx_12 hr14
        have h22_0 := Bx.new w14 24 [.int .i64 cl, .bool fin, .slice a14 tl.length c14]
        go_upto_region 29 with (fail)
        obtain ⟨g22, hg22⟩ : ∃ g22, g22 = w14.heap.size := ⟨_, rfl⟩
        rw [← hg22] at h22_0
        simp only [← hg22]
        generalize w14.alloc (.cells #[.int .i64 cl, .bool fin, .slice a14 tl.length c14] 24) = w15 at HW_13 hNx_13 hX_13 Rx_13 R14_13 h22_0 ⊢
        clear hg22 hbe
        have z0 := h22_0.cell (i := 0) rfl
        have z1 := h22_0.cell (i := 1) rfl
        have z2 := h22_0.cell (i := 2) rfl
        obtain ⟨n0, t0, t1, t2, s0, s1, hgl⟩ := HW_13.cells
        have HSM2 := Lib.hid (same_any cl fin _ _ tl w15 R14_13 HW_13.rd HLL.out.2)
        have hq2 : ((q : Int) != ((q + 1 : Nat) : Int) - 1) = false := by rw [bne_eq_false_iff_eq]; omega
        have hq3 : (-9223372036854775808 : Int) ≤ ((q + 1 : Nat) : Int) - 1 := by omega
        go_wp2_with fail
        refine HSM2.out.mono ?_
        rintro e w16 ⟨rfl, hb16⟩
        clear z0 z1 z2 n0 t0 t1 t2 s0 s1 hgl
        have HW_14 := HW_13.call hb16
        have hNx_14 := hNx_13.call hb16
        have hX_14 := hX_13.call hb16
        have Rx_14 := Rx_13.keep hb16
        have R14_14 := R14_13.keep hb16
        have h22_14 := h22_0.call hb16
        clear HW_13 hNx_13 hX_13 Rx_13 R14_13 h22_0
        clear hb16
        go_upto_region 31 with (fail)
        obtain ⟨n0, t0, t1, t2, s0, s1, hgl⟩ := HW_14.cells
        have x0 := hX_14.cell (i := 0) rfl
        have x1 := hX_14.cell (i := 1) rfl
        have x2 := hX_14.cell (i := 2) rfl
        have u0 := hNx_14.cell (i := 0) rfl
        have u1 := hNx_14.cell (i := 1) rfl
        have tf := HW_14.t.free
        have sf := HW_14.s.free
        have hgT := HW_14.t.lt
        have hTS := HW_14.g2
        have hTSn : gT ≠ gS := by omega
        have hSTn : gS ≠ gT := by omega
        have hq11 : gX ≠ gT := by omega
        have hq12 : gT ≠ gX := by omega
        have hq13 : gX ≠ gS := by omega
        have hq14 : gS ≠ gX := by omega
        have hq15 : g14 ≠ gT := by omega
        have hq16 : gT ≠ g14 := by omega
        have hq17 : g14 ≠ gS := by omega
        have hq18 : gS ≠ g14 := by omega
        have HFIN := Lib.hid (HW_14.turn (cl' := rcl) (fin' := rfin) Rx_14 E c)
        clear HW_14 hNx_14 hX_14 Rx_14 R14_14 h22_14
        go_region
        all_goals
          clear n0 t0 t1 t2 s0 s1 hgl x0 x1 x2 u0 u1 tf sf hgT hTS hTSn hSTn hq11 hq12 hq13 hq14 hq15 hq16 hq17 hq18
          go_wp2_with fail
          go_roundw
          case rel =>
            refine ⟨k + 1, rcl, rfin, .slice a3 rl.length c3, rl, E, c, q + 1, E, c, by omega, by go_num, HCh'.out, by have := HQ.out; omega, .inl ⟨rfl, rfl⟩, ?_⟩
            first | exact HFIN.out.1 | exact HFIN.out.2
          case measure => simp [intOf]; omega
    · obtain rfl : k = l.length := by omega
      go_wp2_with fail
      go_ret
      exact ⟨rfl, HW.le⟩
end Go.Proofs.Ytiioojlihapdaaa.E1
/- Chapter 14: the law TocAtomic. -/
namespace Go.Proofs.Ytiioojlihapdaaa
open Go.ChangeShapes Go.WideShapes Go.RowKit Go.Deep Go.Joins
set_option linter.unusedVariables false

set_option maxRecDepth 100000 in
set_option maxHeartbeats 2000000 in
theorem atomic_no (cap : Int) (l : List Ac) (av : Value) (torn : ByteArray) (w : World) (hr : RdA w av l) (hn : l.length ≤ 9223372036854775807) (ht : torn.size ≤ 9223372036854775807) (hno : ¬ (l.length ≤ 40 ∧ 1 ≤ cap ∧ cap ≤ 449849 ∧ torn.size ≤ 300)) :
    Calls Try.prog 8 #[.int .i64 cap, av, .string torn] w (RB true w) := by
  obtain ⟨⟨sa, sc, ab, ao, rfl, hac, hcell⟩, hwf⟩ := hr
  clear hcell hwf
  have hbe := (Below.refl w.heap.size w).alloc (Nat.le_refl _) (.cells #[.string torn] 9)
  have HBN := Lib.hid (Bx.new w 9 [.string torn])
  have hcase : 40 < l.length ∨ (l.length ≤ 40 ∧ cap < 1) ∨ (l.length ≤ 40 ∧ 1 ≤ cap ∧ 449849 < cap) ∨ (l.length ≤ 40 ∧ 1 ≤ cap ∧ cap ≤ 449849 ∧ 300 < torn.size) := by omega
  clear hno
  rcases hcase with h1 | ⟨h1, h2⟩ | ⟨h1, h2, h3⟩ | ⟨h1, h2, h3, h4⟩
  all_goals
    go_enter Try.func8, Try.ntmps8
    go_wp2_with fail
    refine (awake_any _).mono ?_
    rintro e w1 ⟨rfl, hb1⟩
    have hN := HBN.out.call hb1
    have hle := hbe.trans (hb1.mono hbe.size)
    have hn0 := hN.cell (i := 0) rfl
    clear hb1 hN
    go_wp2_with fail
    go_ret
    exact ⟨rfl, hle⟩
/-- the law -/
theorem atomic_law (w : World) (cap : Int) (hc : (Lit.int .i64 cap).wf = true) (v1 : Value) (l : List Ac) (h1 : CameA w v1 l) (s : ByteArray) (hs : s.size ≤ maxLen) :
    Calls Try.prog 8 #[.int .i64 cap, v1, .string s] w fun e w' => e = .returned (.bool true) ∧ Below w.heap.size w w' := by
  obtain ⟨hr, hn⟩ := h1
  by_cases h : l.length ≤ 40 ∧ 1 ≤ cap ∧ cap ≤ 449849 ∧ s.size ≤ 300
  · have e := str_list s
    have e2 := str_size s.data.toList
    rw [← e] at e2
    rw [e]
    exact E1.atomic_ok cap l v1 s.data.toList w h.2.1 h.2.2.1 hr h.1 (by omega)
  · exact atomic_no cap l v1 s w hr hn (by unfold maxLen at hs; omega) h
end Go.Proofs.Ytiioojlihapdaaa
namespace Go.Proofs.Ytiioojlihapdaaa.tocAtomic
open Go.ChangeShapes Go.WideShapes Go.ChangeAt Go.RowKit
open Go.ChangeMaps (open_string shut_string)
set_option linter.unusedVariables false
theorem own : ownKnob Try.prog.godebug = none := by kernel_rfl
theorem laidOut : laidOutB Try.prog = true := by kernel_rfl

set_option maxRecDepth 100000 in
set_option maxHeartbeats 1000000 in
theorem lifted (os : Os) (started : os.Started) (H : Type) (enc : TypeId × Value → H) :
    ReturnsInHanded {} Try.checked os 8 .any (Rows.tocAtomicSpec.pre6 enc Try.prog Try.f8 Rows.tocAtomicRow.domain false) (Rows.tocAtomicSpec.post enc Try.prog Try.f8 false true false false) := by
  refine returnsInHanded_of_change (C := Try.checked) own started (by kernel_rfl) Try.func8
    (ChangeSpec.witness6 (enc := enc) (C := Try.checked) false ⟨#[], #[.int .i64 0, .slice none 0 0, .string ByteArray.empty], []⟩ 8 (by kernel_rfl) (by kernel_rfl) (by kernel_rfl) (by kernel_rfl)) ?_
  intro W base args ds gs before hval0 hW hcnd _
  have hval : ∀ (j : Nat) t v, Try.f8.params[j]? = some t → args[j]? = some v → Value.okWide Try.prog W .any base t v := hval0
  have hW' := hW
  obtain ⟨p, q, hA0, hV, rfl, hfz, hnd⟩ := hW
  have hA : DataW.TrodAll enc Try.prog W 0 (fun _ => true) true Try.f8.params.toList args.toList ds p := hA0
  rw [Try.params8] at hA hval
  obtain ⟨v0, vs0, d0, ds0, p0, q0, hargs, rfl, rfl, h0, r0⟩ := trodAll_cons hA
  obtain ⟨v1, vs1, d1, ds1, p1, q1, rfl, rfl, rfl, h1, r1⟩ := trodAll_cons r0
  obtain ⟨v2, vs2, d2, ds2, p2, q2, rfl, rfl, rfl, h2, r2⟩ := trodAll_cons r1
  obtain ⟨rfl, rfl, rfl⟩ := trodAll_nil r2
  obtain rfl : args = #[v0, v1, v2] := by cases args; simp_all
  obtain ⟨rfl, rfl⟩ := trodVars_none hV
  have k0 := h0
  have lt0 : ∀ x ∈ p0, x.block < W.heap.size := by obtain ⟨m, hm⟩ := k0; exact DataW.trod_lt m _ _ _ hm
  obtain ⟨a0, rfl, _, _, w0⟩ := open_int Try.underlying3 (hval 0 3 v0 rfl rfl) h0
  have k1 := h1
  have lt1 : ∀ x ∈ p1, x.block < W.heap.size := by obtain ⟨m, hm⟩ := k1; exact DataW.trod_lt m _ _ _ hm
  obtain ⟨a1, w1⟩ := open_cacts (hval 1 35 v1 rfl rfl) h1
  have k2 := h2
  have lt2 : ∀ x ∈ p2, x.block < W.heap.size := by obtain ⟨m, hm⟩ := k2; exact DataW.trod_lt m _ _ _ hm
  obtain ⟨a2, rfl, e2, _, w2⟩ := open_string Try.underlying9 (hval 2 9 v2 rfl rfl) h2
  refine (atomic_law W a0 w0 v1 a1 w1 a2 w2).mono fun e W' ⟨he, bel⟩ => ?_
  subst he
  exact ⟨_, rfl, _, _, _, [], _, [], hW', trodAll_mk1 (shut_bool Try.underlying4 _), (trodAll_cons_mk (Below.trod laidOut (by kernel_rfl) (of_decide_eq_true (by kernel_rfl)) k0 bel lt0) (trodAll_cons_mk (Below.trod laidOut (by kernel_rfl) (of_decide_eq_true (by kernel_rfl)) k1 bel lt1) (trodAll_cons_mk (Below.trod laidOut (by kernel_rfl) (of_decide_eq_true (by kernel_rfl)) k2 bel lt2) trodAll_mk0))), rfl, bel.frame _, fun h => by cases h⟩

theorem over : Rows.tocAtomicRow.holds Try.pinned (OpenSpec.ofChange Rows.tocAtomicSpec) :=
  OpenClaim.holds_of_wide 8 Try.f8 rfl rfl rfl rfl rfl rfl rfl ⟨rfl, rfl, rfl, rfl, rfl⟩ rfl rfl rfl rfl rfl (by kernel_rfl) Try.func8 (by kernel_rfl)
    (of_decide_eq_true (by kernel_rfl)) (by unfold Func.isWrapper; first | (rw [if_pos (by decide +kernel)]; kernel_rfl) | (rw [if_neg (by decide +kernel)]; exact ⟨rfl, rfl⟩))
    (fun os started H enc _ => lifted os started H enc)

/-- The statement. -/
theorem proved : Rows.TocAtomicSaid := over
end Go.Proofs.Ytiioojlihapdaaa.tocAtomic
