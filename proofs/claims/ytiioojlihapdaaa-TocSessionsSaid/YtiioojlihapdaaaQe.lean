/- Chapter 10: Entries of the package walked. -/
import Derived.Test.YtiioojlihapdaaaQp
import Derived.Deep.DeepMust
namespace Go.Proofs.Ytiioojlihapdaaa.W10
open Go.RowKit
set_option linter.unusedVariables false

theorem fcs_length (f : Q.Fr) : (fcs f).length = 9 := rfl
theorem fcs_one (f : Q.Fr) : ∀ u ∈ fcs f, u.oneCell' = true := by
  intro u hu
  simp only [fcs, List.mem_cons, List.not_mem_nil, or_false] at hu
  rcases hu with rfl | rfl | rfl | rfl | rfl | rfl | rfl | rfl | rfl <;> rfl
theorem Try.infoFr : (Try.prog.info? 80).map (fun i => (i.zero, i.size, i.bytes)) = some (some (.agg #[.int .i64 0, .int .i64 0, .int .i64 0, .int .i64 0, .int .i64 0, .int .i64 0, .int .i64 0, .int .i64 0, .int .i64 0]), 9, 72) := by kernel_rfl
/-- the captured list has one frame more -/
def AddP (gO base : Nat) (v : Value) (L : List Q.Fr) (w : World) (e : Ending) (w' : World) : Prop :=
  e = .returned (.tuple #[]) ∧ ∃ v', Bx w' gO 47 [v'] ∧ w'.ownsRow base 80 9 v' L.length (flD fcs L) ∧ Below gO w w' ∧ ∀ k, k < w.heap.size → k ≠ gO → v.ownBlock ≠ some k → w'.heap[k]? = w.heap[k]?
set_option maxRecDepth 100000 in
set_option maxHeartbeats 2000000 in
theorem add_any (pt m s f ctl : Int) (gO gC base : Nat) (v : Value) (L : List Q.Fr) (w : World) (hO : Bx w gO 47 [v]) (hC : w.cell? ⟨gC, 0, none⟩ = some (.int .i64 ctl)) (hCO : gC < gO)
    (hown : w.ownsRow base 80 9 v L.length (flD fcs L)) (hb : gO < base) (hbs : base ≤ w.heap.size) (hL : L.length ≤ 120) :
    Calls Try.prog 68 #[.int .i64 pt, msfv m s f, .pointer (some ⟨gO, 0, none⟩), .pointer (some ⟨gC, 0, none⟩)] w (AddP gO base v (L ++ [Q.entF ctl pt m s f]) w) := by
  have hv : ∃ a c, v = .slice a L.length c := ownD_form hown
  obtain ⟨va, vc, rfl⟩ := hv
  have hbe := (Below.refl w.heap.size w).alloc (Nat.le_refl _) (.cells #[.int .i64 m, .int .i64 s, .int .i64 f] 78)
  have hO1 := hO.call hbe
  have hC1 := (hbe.cell (p := ⟨gC, 0, none⟩) (World.block_lt_of_cell? w _ hC)).trans hC
  have hM : Bx (w.alloc (.cells #[.int .i64 m, .int .i64 s, .int .i64 f] 78)) w.heap.size 78 [.int .i64 m, .int .i64 s, .int .i64 f] := Bx.new _ _ _
  have hown1 := ownD_keep hown hbe
  have hlO := hO.lt
  have hfr0 : ∀ k, k < w.heap.size → (w.alloc (.cells #[.int .i64 m, .int .i64 s, .int .i64 f] 78)).heap[k]? = w.heap[k]? := fun k hk => hbe.block k hk
  have hb0 : Below gO w (w.alloc (.cells #[.int .i64 m, .int .i64 s, .int .i64 f] 78)) := hbe.mono (by omega)
  have hsz : (w.alloc (.cells #[.int .i64 m, .int .i64 s, .int .i64 f] 78)).heap.size = w.heap.size + 1 := by simp
  clear hO hC hown hbe
  go_enter Try.func68, Try.ntmps68
  go_upto_region 1 with (fail)
  obtain ⟨gM, hgM⟩ : ∃ gM, gM = w.heap.size := ⟨_, rfl⟩
  rw [← hgM] at hM hsz
  simp only [← hgM]
  generalize w.alloc (.cells #[.int .i64 m, .int .i64 s, .int .i64 f] 78) = w1 at hO1 hC1 hM hown1 hb0 hsz hfr0 ⊢
  have HgM := Lib.hid (by omega : base ≤ gM)
  have hbgM := HgM.out
  have hOgM : gO < gM := by omega
  have Hfr0 := Lib.hid hfr0
  have HwM : Hid (w.heap.size < w1.heap.size) := Lib.hid (by omega)
  clear hgM hbs hlO hfr0
  have ho0 := hO1.cell (i := 0) rfl
  have hof := hO1.free
  have hm0 := hM.cell (i := 0) rfl
  have hm1 := hM.cell (i := 1) rfl
  have hm2 := hM.cell (i := 2) rfl
  have Hown := Lib.hid hown1; clear hown1
  go_wp2_with (at_builtin; refine wpList_appD (d := Q.z) (D := fcs) (l := L) (m := [Q.entF ctl pt m s f]) rfl _ _ rfl Try.underlying47 Try.infoFr rfl (by omega) fcs_length fcs_one (ownD_keep Hown.out ((Below.refl _ _).alloc (Nat.le_refl _) _)) rfl (RdD.one' (by omega) fcs_length w1 80 (Q.entF ctl pt m s f) hsz) rfl (by unfold maxLen; simp only [List.length_singleton]; omega) (by simp only [List.length_singleton]; omega) (by simp only [World.size_alloc]; omega) ?_; intro v4 w4 hown4 hg4; obtain ⟨g, c4, rfl, hg1, hg2⟩ := ownD_addr hown4 (by simp); have hO4 := (hg4.block gO (by simp only [World.size_alloc]; omega) (fun e => by have := ownD_block Hown.out gO e.symm; omega)).trans (hO1.alloc (.cells (fcs (Q.entF ctl pt m s f)).toArray 80)); have ho4 := Bx.cell (i := 0) (show Bx w4 gO 47 _ from hO4) rfl; have hof4 := Bx.free (show Bx w4 gO 47 _ from hO4); clear ho0 hof hm0 hm1 hm2)
  go_end0
  have hb4 : Below gO w w4 := (hb0.alloc (by omega) _).grown hg4 (by simp only [World.size_alloc]; omega) (fun k hk => by have := ownD_block Hown.out k hk; omega)
  refine ⟨rfl, _, Bx.set (show Bx w4 gO 47 _ from hO4) 0 _, ?_, hb4.setCell (Nat.le_refl _) _, fun k h1 h2 h3 => ?_⟩
  rotate_left
  · have hkk : k < w1.heap.size := Nat.lt_trans h1 HwM.out
    rw [Below.heap_setCell w4 _ _ k h2, hg4.block k (by simp only [World.size_alloc]; omega) (fun e => h3 (by rw [e]))]
    exact (((Below.refl w1.heap.size w1).alloc (Nat.le_refl _) _).block k hkk).trans (Hfr0.out k h1)
  have h := ownD_far hown4 (p := ⟨gO, 0, none⟩) (by exact hb) (.slice (some ⟨g, 0, none⟩) (L.length + 1) c4)
  simpa using h
/-- a list of frames and a code are returned -/
def EntP (r : List Q.Fr × Int) (w : World) (e : Ending) (w' : World) : Prop := ∃ v, e = .returned (.tuple #[v, .int .i64 r.2]) ∧ RdD Q.z fcs 9 w' v r.1 ∧ Below w.heap.size w w'
set_option maxRecDepth 100000 in
set_option maxHeartbeats 2000000 in
theorem entries_1 (v : Value) (l : List T.Trk) (ctl : Int) (w : World) (hr : RdK w v l) (hn : l.length ≤ 120) (hwf : WfL l) (hS : Q.sessB l = false) :
    Calls Try.prog 40 #[v, .int .i64 ctl] w (EntP ([], 1) w) := by
  have hbe := (Below.refl w.heap.size w).alloc (Nat.le_refl _) (.cells #[.int .i64 ctl] 3)
  have HSe := Lib.hid (session_any v l (w.alloc (.cells #[.int .i64 ctl] 3)) (hr.keep hbe) hn hwf)
  have HS := Lib.hid hS; clear hS hwf
  obtain ⟨a, c, rfl, hac⟩ := RdS.form hr
  go_enter Try.func40, Try.ntmps40
  go_wp2_with fail
  refine HSe.out.mono ?_
  rw [HS.out]
  rintro e w1 ⟨rfl, hb⟩
  have hle := hbe.trans (hb.mono hbe.size)
  clear hb hbe
  go_wp2_with fail
  go_ret2
  exact ⟨_, rfl, RdD.nil _, hle⟩
set_option maxRecDepth 100000 in
set_option maxHeartbeats 2000000 in
theorem entries_2 (v : Value) (l : List T.Trk) (ctl : Int) (w : World) (hr : RdK w v l) (hn : l.length ≤ 120) (hwf : WfL l) (hS : Q.sessB l = true) (hc : ¬ (0 ≤ ctl ∧ ctl ≤ 15)) :
    Calls Try.prog 40 #[v, .int .i64 ctl] w (EntP ([], 1) w) := by
  have hbe := (Below.refl w.heap.size w).alloc (Nat.le_refl _) (.cells #[.int .i64 ctl] 3)
  have hC : Bx (w.alloc (.cells #[.int .i64 ctl] 3)) w.heap.size 3 [.int .i64 ctl] := Bx.new _ _ _
  have HSe := Lib.hid (session_any v l (w.alloc (.cells #[.int .i64 ctl] 3)) (hr.keep hbe) hn hwf)
  have HS := Lib.hid hS; clear hS hwf
  obtain ⟨a, c, rfl, hac⟩ := RdS.form hr
  have d1 := btw_f hc; clear hc
  go_enter Try.func40, Try.ntmps40
  go_wp2_with fail
  refine HSe.out.mono ?_
  rw [HS.out]
  rintro e w1 ⟨rfl, hb⟩
  have hle := hbe.trans (hb.mono hbe.size)
  have hc0 := (hC.call hb).cell (i := 0) rfl
  clear hb hbe hC
  go_wp2_with (go_at_call 67; refine (between_any _ _ _ _).mono ?_; rintro e w' ⟨rfl, rfl⟩)
  go_ret2
  exact ⟨_, rfl, RdD.nil _, hle⟩
end Go.Proofs.Ytiioojlihapdaaa.W10
