/- Chapter 10: Entries of the package walked, the way through. -/
import Derived.Test.YtiioojlihapdaaaQe
import Derived.Test.YtiioojlihapdaaaStep
namespace Go.Proofs.Ytiioojlihapdaaa.W10
open Go.RowKit
set_option linter.unusedVariables false

/-- what Entries holds: the control, the last track, the list -/
structure EN (w0 : World) (gL gO : Nat) (ctl : Int) (x : T.Trk) (L : List Q.Fr) (v : Value) (W : World) : Prop where
  c : W.cell? ⟨w0.heap.size, 0, none⟩ = some (.int .i64 ctl)
  x : Bx W gL 40 (tcs x)
  o : Bx W gO 47 [v]
  own : W.ownsRow (gO + 1) 80 9 v L.length (flD fcs L)
  le : Below w0.heap.size w0 W
  l1 : w0.heap.size < gL
  l2 : gL < gO
section
variable {w0 W W' : World} {gL gO : Nat} {ctl : Int} {x : T.Trk} {L L' : List Q.Fr} {v : Value}
theorem EN.call (h : EN w0 gL gO ctl x L v W) (hb : Below W.heap.size W W') : EN w0 gL gO ctl x L v W' :=
  ⟨(hb.cell (p := ⟨w0.heap.size, 0, none⟩) (World.block_lt_of_cell? W _ h.c)).trans h.c, h.x.call hb, h.o.call hb, ownD_keep h.own hb, h.le.trans (hb.mono h.le.size), h.l1, h.l2⟩
theorem EN.add {e : Ending} (h : EN w0 gL gO ctl x L v W) (ha : AddP gO (gO + 1) v L' W e W') : e = .returned (.tuple #[]) ∧ ∃ v', EN w0 gL gO ctl x L' v' W' := by
  obtain ⟨h1, v', h2, h3, h4, h5⟩ := ha
  have := h.l1
  have := h.l2
  exact ⟨h1, v', (h4.cell (p := ⟨w0.heap.size, 0, none⟩) (by simp only; omega)).trans h.c, h.x.keepB h4 h.l2, h2, h3, h.le.trans (h4.mono (by omega)), h.l1, h.l2⟩
end
/-- with some value -/
def ENx (w0 : World) (gL gO : Nat) (ctl : Int) (x : T.Trk) (L : List Q.Fr) (W : World) : Prop := ∃ v, EN w0 gL gO ctl x L v W
set_option maxRecDepth 100000 in
set_option maxHeartbeats 4000000 in
theorem entries_3 (v : Value) (l : List T.Trk) (ctl : Int) (w : World) (hr : RdK w v l) (hn : l.length ≤ 120) (hwf : WfL l) (hS : Q.sessB l = true) (hc : 0 ≤ ctl ∧ ctl ≤ 15) :
    Calls Try.prog 40 #[v, .int .i64 ctl] w (EntP (Q.entL l ctl l.length, 0) w) := by
  have hbe := (Below.refl w.heap.size w).alloc (Nat.le_refl _) (.cells #[.int .i64 ctl] 3)
  have hC : Bx (w.alloc (.cells #[.int .i64 ctl] 3)) w.heap.size 3 [.int .i64 ctl] := Bx.new _ _ _
  have HSe := Lib.hid (session_any v l (w.alloc (.cells #[.int .i64 ctl] 3)) (hr.keep hbe) hn hwf)
  have HS := Lib.hid hS; clear hwf
  have HSS := Lib.hid (Q.sessB_true.1 hS); clear hS
  have HR := Lib.hid hr
  obtain ⟨a, c, rfl, hac⟩ := RdS.form hr
  clear hr
  have d1 := btw_t hc.1 hc.2; clear hc
  go_enter Try.func40, Try.ntmps40
  go_wp2_with fail
  refine HSe.out.mono ?_
  rw [HS.out]
  rintro e w1 ⟨rfl, hb⟩
  have hle := hbe.trans (hb.mono hbe.size)
  have hC1 := hC.call hb
  have hc0 := hC1.cell (i := 0) rfl
  clear hb hbe hC
  go_upto_region 3 with (first | (go_at_call 67; refine (between_any _ _ _ _).mono ?_; rintro e w' ⟨rfl, rfl⟩) | fail)
  have hl1 := HSS.out.1
  have hl2 := HSS.out.2.1
  have hrx := HR.out
  obtain ⟨b, off, hcell⟩ := RdK.cells (HR.out.keep hle)
  obtain ⟨ha, hrg⟩ := hcell (l.length - 1) (by omega)
  obtain ⟨ha0, hrg0⟩ := hcell 0 (by omega)
  obtain ⟨hat1, hat2, hat3, hat4, hat5, hat6⟩ := HSS.out.at (i := l.length - 1) (by omega)
  have HEnd : Hid (Q.endL l = (T.tr l (l.length - 1)).st + (T.tr l (l.length - 1)).len) := Lib.hid rfl
  have HL0 : Hid (Q.entL l ctl 0 = (([] ++ [Q.entF ctl 160 (T.tr l 0).num 0 0]) ++ [Q.entF ctl 161 (T.tr l (l.length - 1)).num 0 0]) ++ [Q.entF ctl 162 (Q.mM (Q.endL l + 150)) (Q.mS (Q.endL l + 150)) (Q.mF (Q.endL l + 150))]) := Lib.hid rfl
  clear hcell hrx
  have hlw : IntKind.i64.wrap ((l.length : Int) - 1) = (l.length : Int) - 1 := IntWalk.i64_in _ (by omega)
  have hix := fun w' => run_idxS Try.underlying22 Try.sizeTrack (cap := c) ha (by omega : l.length - 1 < l.length) ((l.length : Int) - 1) (by omega) w'
  have hix0 := fun w' => run_idxS Try.underlying22 Try.sizeTrack (cap := c) ha (by omega : 0 < l.length) 0 rfl w'
  simp only [Nat.zero_mul, Nat.add_zero] at hix0 hrg0
  generalize l.length - 1 = p at *
  generalize T.tr l p = x at *
  generalize T.tr l 0 = y at *
  have hn0 := (rd7 hrg0).1
  obtain ⟨hc0', hc1', hc2', hc3', hc4', hc5', hc6'⟩ := rd7 hrg
  have Ha := Lib.hid ha; clear ha hrg hrg0 ha0
  have hbl := World.block_lt_of_cell? w1 _ hn0
  go_upto_region 4 with (fail)
  have hX : Bx (w1.alloc (tobj x)) w1.heap.size 40 (tcs x) := Bx.new _ _ _
  have hb2 := (Below.refl w1.heap.size w1).alloc (Nat.le_refl _) (tobj x)
  have hle2 := hle.alloc hle.size (tobj x)
  have hC2 := hC1.call hb2
  replace hn0 := (hb2.cell (p := ⟨b, off, none⟩) hbl).trans hn0
  obtain ⟨gL, hgL⟩ : ∃ gL, gL = w1.heap.size := ⟨_, rfl⟩
  have hlL : w.heap.size < gL := by rw [hgL]; exact hC1.lt
  rw [← hgL] at hX
  simp only [← hgL]
  clear hc0 hc0' hc1' hc2' hc3' hc4' hc5' hc6' hbl
  generalize w1.alloc (tobj x) = w2 at hX hb2 hle2 hC2 hn0 ⊢
  clear hb2 hgL hC1 hle
  have hbl := World.block_lt_of_cell? w2 _ hn0
  go_upto_region 6 with (fail)
  have hO : Bx (w2.alloc (.cells #[.slice none 0 0] 47)) w2.heap.size 47 [.slice none 0 0] := Bx.new _ _ _
  have hb3 := (Below.refl w2.heap.size w2).alloc (Nat.le_refl _) (.cells #[.slice none 0 0] 47)
  have hle3 := hle2.alloc hle2.size (.cells #[.slice none 0 0] 47)
  have hC3 := hC2.call hb3
  have hX3 := hX.call hb3
  replace hn0 := (hb3.cell (p := ⟨b, off, none⟩) hbl).trans hn0
  obtain ⟨gO, hgO⟩ : ∃ gO, gO = w2.heap.size := ⟨_, rfl⟩
  have hlO : gL < gO := by rw [hgO]; exact hX.lt
  rw [← hgO] at hO
  simp only [← hgO]
  clear hbl
  generalize w2.alloc (.cells #[.slice none 0 0] 47) = w3 at hO hb3 hle3 hC3 hX3 hn0 ⊢
  clear hb3 hgO hC2 hle2 hX
  have hE3 : EN w gL gO ctl x [] (.slice none 0 0) w3 := ⟨hC3.cell (i := 0) rfl, hX3, hO, World.ownsRow_nil _ _ _ _, hle3, hlL, hlO⟩
  clear hC3 hX3 hO hle3
  go_wp2_with fail
  refine (add_any 160 y.num 0 0 ctl gO w.heap.size (gO + 1) _ [] _ hE3.o hE3.c (by omega) hE3.own (by omega) hE3.o.lt (by simp)).mono ?_
  intro e w4 ha4
  obtain ⟨rfl, v4, hE4⟩ := hE3.add ha4
  clear hE3 ha4 hn0
  have hx0 := hE4.x.cell (i := 0) rfl
  go_wp2_with fail
  refine (add_any 161 x.num 0 0 ctl gO w.heap.size (gO + 1) _ _ _ hE4.o hE4.c (by omega) hE4.own (by omega) hE4.o.lt (by simp)).mono ?_
  intro e w5 ha5
  obtain ⟨rfl, v5, hE5⟩ := hE4.add ha5
  clear hE4 ha5 hx0
  have hx0 := hE5.x.cell (i := 0) rfl
  have hx1 := hE5.x.cell (i := 1) rfl
  have hx2 := hE5.x.cell (i := 2) rfl
  have hx3 := hE5.x.cell (i := 3) rfl
  have hx4 := hE5.x.cell (i := 4) rfl
  have hx5 := hE5.x.cell (i := 5) rfl
  have hx6 := hE5.x.cell (i := 6) rfl
  go_wp2_with fail
  refine (send_any x _ (by omega) (by omega) (by omega) (by omega)).mono ?_
  rintro e w6 ⟨rfl, rfl⟩
  have hE6 := hE5.call ((Below.refl _ w5).alloc (Nat.le_refl _) (tobj x))
  generalize w5.alloc (tobj x) = w6 at hE6 ⊢
  clear hE5 hx0 hx1 hx2 hx3 hx4 hx5 hx6
  go_wp2_with fail
  refine (msf_any _ _ (by omega) (by omega)).mono ?_
  rintro e w7 ⟨rfl, hb7⟩
  have hE7 := hE6.call hb7
  clear hE6 hb7
  go_wp2_with fail
  refine (add_any 162 _ _ _ ctl gO w.heap.size (gO + 1) _ _ _ hE7.o hE7.c (by omega) hE7.own (by omega) hE7.o.lt (by simp)).mono ?_
  intro e w8 ha8
  obtain ⟨rfl, v8, hE8⟩ := hE7.add ha8
  clear hE7 ha8
  rw [← HEnd.out, ← HL0.out] at hE8
  clear HL0
  go_wp2_with fail
  go_loopw [45] (fun vi wr => ∃ (k : Nat), k ≤ l.length ∧ vi = .int .i64 k ∧ ENx w gL gO ctl x (Q.entL l ctl k) wr) (fun vi _ => l.length - (intOf vi).toNat)
  case atStart => exact ⟨0, by omega, rfl, v8, hE8⟩
  case round =>
    clear hE8
    obtain ⟨k, hk, rfl, v9, hE⟩ := hrel
    by_cases hlt : k < l.length
    · obtain ⟨b, off, hcell⟩ := RdK.cells (HR.out.keep hE.le)
      obtain ⟨ha, hrg⟩ := hcell k hlt
      obtain ⟨hat1, hat2, hat3, hat4, hat5, hat6⟩ := HSS.out.at hlt
      have HSu : Hid (Q.entL l ctl (k + 1) = Q.entL l ctl k ++ [Q.entF ctl (T.tr l k).num (Q.mM ((T.tr l k).st + 150)) (Q.mS ((T.tr l k).st + 150)) (Q.mF ((T.tr l k).st + 150))]) := Lib.hid (Q.entL_succ l ctl k)
      have HLe := Lib.hid (Q.entL_length l ctl k)
      clear hcell
      generalize T.tr l k = z at *
      obtain ⟨hc0', hc1', hc2', hc3', hc4', hc5', hc6'⟩ := rd7 hrg
      have hix := fun w' => run_idxS Try.underlying22 Try.sizeTrack (cap := c) ha hlt (k : Int) rfl w'
      have Ha := Lib.hid ha; clear ha hrg
      go_upto_region 12 with (fail)
      have hZ : Bx (wr.alloc (tobj z)) wr.heap.size 40 (tcs z) := Bx.new _ _ _
      have hE2 := hE.call ((Below.refl wr.heap.size wr).alloc (Nat.le_refl _) (tobj z))
      obtain ⟨gZ, hgZ⟩ : ∃ gZ, gZ = wr.heap.size := ⟨_, rfl⟩
      rw [← hgZ] at hZ
      simp only [← hgZ]
      clear hc0' hc1' hc2' hc3' hc4' hc5' hc6'
      generalize wr.alloc (tobj z) = W at hZ hE2 ⊢
      clear hgZ hE
      have hz0 := hZ.cell (i := 0) rfl
      have hz2 := hZ.cell (i := 2) rfl
      have HE := Lib.hid hE2
      have HZ := Lib.hid hZ
      have lO := hE2.l2
      have lL := hE2.l1
      clear hE2 hZ
      generalize Q.entL l ctl k = LL at HE HSu HLe
      go_region_with (first
        | (go_at_call 69; refine (msf_any _ _ (by omega) (by omega)).mono ?_; rintro e w6 ⟨rfl, hb6⟩; have hE6 := EN.call (W := _) (by first | exact HE.out | exact HE.out.call (Below.drewN (Below.refl _ _) _)) hb6; have hZ6 := Bx.call (W := _) (g := gZ) (by first | exact HZ.out | exact HZ.out.drewN _) hb6; have z0 := hZ6.cell (i := 0) rfl; have HE6 := Lib.hid hE6; clear hE6 hZ6)
        | (refine (add_any _ _ _ _ ctl gO w.heap.size (gO + 1) _ LL _ (by exact HE6.out.o) (by exact HE6.out.c) (by omega) (by exact HE6.out.own) (by omega) (by exact HE6.out.o.lt) (by have := HLe.out; omega)).mono ?_; intro e w7 ha7; obtain ⟨rfl, v7, hE7⟩ := HE6.out.add ha7; clear ha7))
      all_goals
        go_wp2_with fail
        go_roundw
        case rel => exact ⟨k + 1, by omega, by go_num, v7, by rw [HSu.out]; exact hE7⟩
        case measure => simp [intOf]; omega
    · obtain rfl : k = l.length := by omega
      obtain ⟨va, vc, rfl⟩ := ownD_form hE.own
      have ho0 := hE.o.cell (i := 0) rfl
      go_wp2_with fail
      go_ret2
      exact ⟨_, rfl, RdD.ofOwn fcs_length hE.own, hE.le⟩
theorem entries_any (v : Value) (l : List T.Trk) (ctl : Int) (w : World) (hr : RdK w v l) (hn : l.length ≤ 120) (hwf : WfL l) :
    Calls Try.prog 40 #[v, .int .i64 ctl] w (EntP (Q.entR l ctl) w) := by
  unfold Q.entR
  cases hS : Q.sessB l with
  | false => rw [if_pos (.inl rfl)]; exact entries_1 v l ctl w hr hn hwf hS
  | true =>
    by_cases hc : 0 ≤ ctl ∧ ctl ≤ 15
    · rw [if_neg (fun h => h.elim (fun h => by cases h) (fun h => by omega))]; exact entries_3 v l ctl w hr hn hwf hS hc
    · rw [if_pos (.inr (by omega))]; exact entries_2 v l ctl w hr hn hwf hS hc
end Go.Proofs.Ytiioojlihapdaaa.W10
