/- Shaken out of XTkTr XQe XQen -/
import Derived.Test.YtflmjdjkfognjaaGreatTp40
import Derived.Test.YtflmjdjkfognjaaGreatTp08
import Derived.Test.YtflmjdjkfognjaaGreatTp06
import Derived.Deep.Cut
import Derived.IntWalk
import Derived.Outline
import Derived.Test.YtflmjdjkfognjaaGreatTp23
import Derived.Deep.DeepMust
import Derived.Test.YtflmjdjkfognjaaGreatTp10
namespace Go.Proofs.YtflmjdjkfognjaaGreat
open Go.RowKit
set_option linter.unusedVariables false
/-- a list of tracks is returned -/
def TrsP (F : List T.Trk) (w : World) (e : Ending) (w' : World) : Prop := ∃ v, e = .returned v ∧ RdK w' v F ∧ Below w.heap.size w w'
theorem tcs_one' (x : T.Trk) : ∀ u ∈ tcs x, u.oneCell' = true := by
  intro u hu
  simp only [tcs, List.mem_cons, List.not_mem_nil, or_false] at hu
  rcases hu with rfl | rfl | rfl | rfl | rfl | rfl | rfl <;> rfl
set_option maxRecDepth 100000 in
set_option maxHeartbeats 2000000 in
theorem tracks_any (cl : Int) (fin : Bool) (sv : Value) (l : List T.Trk) (s : Int) (w : World) (hr : RdK w sv l) (hn : l.length ≤ 110) :
    Calls Tryz.prog 37 #[tval cl fin sv, .int .i64 s] w (TrsP (T.of l s l.length) w) := by
  obtain ⟨a, c, b, off, rfl, hac, hcell⟩ := hr
  have HC := Lib.hid hcell; clear hcell
  go_enter Tryz.func37, Tryz.ntmps37
  go_wp2_with fail
  have hb0 := (Below.refl w.heap.size w).alloc (Nat.le_refl _) (.cells #[.int .i64 cl, .bool fin, .slice a l.length c] 24)
  generalize w.alloc (.cells #[.int .i64 cl, .bool fin, .slice a l.length c] 24) = w0 at hb0 ⊢
  obtain ⟨B, hB⟩ : ∃ B, B = w.heap.size := ⟨_, rfl⟩
  have HB := Lib.hid hB
  rw [← hB] at hb0
  clear hB
  go_loopw [5, 11] (fun vo vi wr => ∃ (k : Nat), k ≤ l.length ∧ vi = .int .i64 k ∧ wr.ownsRow B 28 7 vo (T.of l s k).length (flD tcs (T.of l s k)) ∧ Below B w wr) (fun _ vi _ => l.length - (intOf vi).toNat)
  case atStart => exact ⟨0, by omega, rfl, ⟨rfl, .inl ⟨rfl, rfl⟩⟩, hb0⟩
  case round =>
    clear hb0
    obtain ⟨k, hk, rfl, hown, hb⟩ := hrel
    obtain ⟨va, vc, rfl⟩ := ownD_form hown
    have hwr : B ≤ wr.heap.size := Nat.le_trans (Nat.le_of_eq HB.out) hb.size
    by_cases hlt : k < l.length
    · obtain ⟨ha, hrange⟩ := HC.out k hlt
      have hrg : wr.rangeAt b (off + k * 7) (tcs (T.tr l k)) := fun j u hu => (hb.cell (p := ⟨b, off + k * 7 + j, none⟩) (by rw [HB.out]; exact World.block_lt_of_cell? w _ (hrange j u hu))).trans (hrange j u hu)
      clear hrange
      have hix := fun w' => run_idxS Tryz.underlying22 Tryz.sizeTrack (cap := c) ha hlt (k : Int) rfl w'
      have HNew : Hid ((T.tr l k).ses = s → T.of l s (k + 1) = T.of l s k ++ [T.tr l k]) := Lib.hid T.of_new
      have HOld : Hid ((T.tr l k).ses ≠ s → T.of l s (k + 1) = T.of l s k) := Lib.hid T.of_old
      have hlen := T.of_len l s k
      generalize T.tr l k = x at hrg HNew HOld
      generalize T.of l s k = F at hown HNew HOld hlen
      obtain ⟨hc0, hc1, hc2, hc3, hc4, hc5, hc6⟩ := rd7 hrg
      have Ha := Lib.hid ha; clear ha hrg
      have Hown := Lib.hid hown; clear hown
      go_upto_region 5 with (fail)
      have hX : Bx (wr.alloc (tobj x)) wr.heap.size 28 (tcs x) := Bx.new _ _ _
      have hal := (Below.refl wr.heap.size wr).alloc (Nat.le_refl _) (tobj x)
      have hb2 := hb.trans (hal.mono hwr)
      have Hown2 := Lib.hid (ownD_keep Hown.out hal)
      obtain ⟨gx, hgx⟩ : ∃ g, g = wr.heap.size := ⟨_, rfl⟩
      rw [← hgx] at hX
      simp only [← hgx]
      clear hgx hal hb Hown hc0 hc1 hc2 hc3 hc4 hc5 hc6 hix
      change Code.wp _ _ _ _ (wr.alloc (tobj x))
      generalize wr.alloc (tobj x) = w2 at hX hb2 Hown2 ⊢
      have hw2 : B ≤ w2.heap.size := Nat.le_trans (Nat.le_of_eq HB.out) hb2.size
      have hx0 := hX.cell (i := 0) rfl
      have hx1 := hX.cell (i := 1) rfl
      have hx2 := hX.cell (i := 2) rfl
      have hx3 := hX.cell (i := 3) rfl
      have hx4 := hX.cell (i := 4) rfl
      have hx5 := hX.cell (i := 5) rfl
      have hx6 := hX.cell (i := 6) rfl
      by_cases hs : x.ses = s
      · have HF := Lib.hid (HNew.out hs)
        have hd : (x.ses == s) = true := beq_iff_eq.2 hs
        clear hs HNew HOld
        have hal3 := (Below.refl w2.heap.size w2).alloc (Nat.le_refl _) (tobj x)
        have Hown3 := Lib.hid (ownD_keep Hown2.out hal3)
        have HB3 := Lib.hid (hb2.trans (hal3.mono hw2))
        clear hal3 hb2 Hown2 hX
        go_wp2_with (at_builtin; refine wpList_appD (d := T.z) (D := tcs) (l := F) (m := [x]) rfl _ _ rfl Tryz.underlying22 Tryz.infoTrack rfl (by omega) tcs_length tcs_one' Hown3.out rfl (RdD.one (by omega) tcs_length w2 28 x) rfl (by unfold maxLen; simp only [List.length_singleton]; omega) (by simp only [List.length_singleton]; omega) (by simp only [World.size_alloc]; omega) ?_; intro v4 w4 hown4 hg4)
        have hle4 := HB3.out.grown hg4 (by simp only [World.size_alloc]; have := HB.out; omega) (fun j hj => by have := ownD_block Hown3.out j hj; have := HB.out; omega)
        refine ⟨⟨k + 1, by omega, by go_num, ?_, hle4⟩, by simp [intOf]; omega⟩
        rw [HF.out, List.length_append]; exact hown4
      · have HF := Lib.hid (HOld.out hs)
        have hd : (x.ses == s) = false := beq_eq_false_iff_ne.2 hs
        clear hs HNew HOld
        go_wp2_with fail
        refine ⟨⟨k + 1, by omega, by go_num, ?_, hb2⟩, by simp [intOf]; omega⟩
        rw [HF.out]; exact Hown2.out
    · obtain rfl : k = l.length := by omega
      have hr8 : RdK wr (.slice va (T.of l s l.length).length vc) (T.of l s l.length) := by have := RdD.ofOwn (d := T.z) (l := T.of l s l.length) tcs_length hown; exact this
      rw [HB.out] at hb
      have HR := Lib.hid hr8; have HL := Lib.hid hb
      clear hown hr8 hb
      go_wp2_with fail
      go_ret
      exact ⟨_, rfl, HR.out, HL.out⟩
end Go.Proofs.YtflmjdjkfognjaaGreat
namespace Go.Proofs.YtflmjdjkfognjaaGreat.W10
open Go.RowKit
set_option linter.unusedVariables false
theorem fcs_length (f : Q.Fr) : (fcs f).length = 9 := rfl
theorem fcs_one (f : Q.Fr) : ∀ u ∈ fcs f, u.oneCell' = true := by
  intro u hu
  simp only [fcs, List.mem_cons, List.not_mem_nil, or_false] at hu
  rcases hu with rfl | rfl | rfl | rfl | rfl | rfl | rfl | rfl | rfl <;> rfl
theorem Tryz.infoFr : (Tryz.prog.info? 38).map (fun i => (i.zero, i.size, i.bytes)) = some (some (.agg #[.int .i64 0, .int .i64 0, .int .i64 0, .int .i64 0, .int .i64 0, .int .i64 0, .int .i64 0, .int .i64 0, .int .i64 0]), 9, 72) := by kernel_rfl
/-- the captured list has one frame more -/
def AddP (gO base : Nat) (v : Value) (L : List Q.Fr) (w : World) (e : Ending) (w' : World) : Prop :=
  e = .returned (.tuple #[]) ∧ ∃ v', Bx w' gO 29 [v'] ∧ w'.ownsRow base 38 9 v' L.length (flD fcs L) ∧ Below gO w w' ∧ ∀ k, k < w.heap.size → k ≠ gO → v.ownBlock ≠ some k → w'.heap[k]? = w.heap[k]?
set_option maxRecDepth 100000 in
set_option maxHeartbeats 2000000 in
theorem add_any (pt m s f ctl : Int) (gO gC base : Nat) (v : Value) (L : List Q.Fr) (w : World) (hO : Bx w gO 29 [v]) (hC : w.cell? ⟨gC, 0, none⟩ = some (.int .i64 ctl)) (hCO : gC < gO)
    (hown : w.ownsRow base 38 9 v L.length (flD fcs L)) (hb : gO < base) (hbs : base ≤ w.heap.size) (hL : L.length ≤ 120) :
    Calls Tryz.prog 40 #[.int .i64 pt, msfv m s f, .pointer (some ⟨gO, 0, none⟩), .pointer (some ⟨gC, 0, none⟩)] w (AddP gO base v (L ++ [Q.entF ctl pt m s f]) w) := by
  have hv : ∃ a c, v = .slice a L.length c := ownD_form hown
  obtain ⟨va, vc, rfl⟩ := hv
  have hbe := (Below.refl w.heap.size w).alloc (Nat.le_refl _) (.cells #[.int .i64 m, .int .i64 s, .int .i64 f] 36)
  have hO1 := hO.call hbe
  have hC1 := (hbe.cell (p := ⟨gC, 0, none⟩) (World.block_lt_of_cell? w _ hC)).trans hC
  have hM : Bx (w.alloc (.cells #[.int .i64 m, .int .i64 s, .int .i64 f] 36)) w.heap.size 36 [.int .i64 m, .int .i64 s, .int .i64 f] := Bx.new _ _ _
  have hown1 := ownD_keep hown hbe
  have hlO := hO.lt
  have hfr0 : ∀ k, k < w.heap.size → (w.alloc (.cells #[.int .i64 m, .int .i64 s, .int .i64 f] 36)).heap[k]? = w.heap[k]? := fun k hk => hbe.block k hk
  have hb0 : Below gO w (w.alloc (.cells #[.int .i64 m, .int .i64 s, .int .i64 f] 36)) := hbe.mono (by omega)
  have hsz : (w.alloc (.cells #[.int .i64 m, .int .i64 s, .int .i64 f] 36)).heap.size = w.heap.size + 1 := by simp
  clear hO hC hown hbe
  go_enter Tryz.func40, Tryz.ntmps40
  go_upto_region 1 with (fail)
  obtain ⟨gM, hgM⟩ : ∃ gM, gM = w.heap.size := ⟨_, rfl⟩
  rw [← hgM] at hM hsz
  simp only [← hgM]
  generalize w.alloc (.cells #[.int .i64 m, .int .i64 s, .int .i64 f] 36) = w1 at hO1 hC1 hM hown1 hb0 hsz hfr0 ⊢
  have HgM := Lib.hid (by omega : base ≤ gM)
  have hbgM := HgM.out
  have hOgM : gO < gM := by omega
  have Hfr0 := Lib.hid hfr0
  have HwM : Hid (w.heap.size < w1.heap.size) := Lib.hid (by omega)
  clear hgM hbs hlO hfr0
  have ho0 := hO1.cell (i := 0) rfl
  have hof := hO1.free
  have hm0 := hM.cell (i := 0) rfl
  have hm1 := hM.cell (i := 1) rfl
  have hm2 := hM.cell (i := 2) rfl
  have Hown := Lib.hid hown1; clear hown1
  go_wp2_with (at_builtin; refine wpList_appD (d := Q.z) (D := fcs) (l := L) (m := [Q.entF ctl pt m s f]) rfl _ _ rfl Tryz.underlying29 Tryz.infoFr rfl (by omega) fcs_length fcs_one (ownD_keep Hown.out ((Below.refl _ _).alloc (Nat.le_refl _) _)) rfl (RdD.one' (by omega) fcs_length w1 38 (Q.entF ctl pt m s f) hsz) rfl (by unfold maxLen; simp only [List.length_singleton]; omega) (by simp only [List.length_singleton]; omega) (by simp only [World.size_alloc]; omega) ?_; intro v4 w4 hown4 hg4; obtain ⟨g, c4, rfl, hg1, hg2⟩ := ownD_addr hown4 (by simp); have hO4 := (hg4.block gO (by simp only [World.size_alloc]; omega) (fun e => by have := ownD_block Hown.out gO e.symm; omega)).trans (hO1.alloc (.cells (fcs (Q.entF ctl pt m s f)).toArray 38)); have ho4 := Bx.cell (i := 0) (show Bx w4 gO 29 _ from hO4) rfl; have hof4 := Bx.free (show Bx w4 gO 29 _ from hO4); clear ho0 hof hm0 hm1 hm2)
  go_end0
  have hb4 : Below gO w w4 := (hb0.alloc (by omega) _).grown hg4 (by simp only [World.size_alloc]; omega) (fun k hk => by have := ownD_block Hown.out k hk; omega)
  refine ⟨rfl, _, Bx.set (show Bx w4 gO 29 _ from hO4) 0 _, ?_, hb4.setCell (Nat.le_refl _) _, fun k h1 h2 h3 => ?_⟩
  rotate_left
  · have hkk : k < w1.heap.size := Nat.lt_trans h1 HwM.out
    rw [Below.heap_setCell w4 _ _ k h2, hg4.block k (by simp only [World.size_alloc]; omega) (fun e => h3 (by rw [e]))]
    exact (((Below.refl w1.heap.size w1).alloc (Nat.le_refl _) _).block k hkk).trans (Hfr0.out k h1)
  have h := ownD_far hown4 (p := ⟨gO, 0, none⟩) (by exact hb) (.slice (some ⟨g, 0, none⟩) (L.length + 1) c4)
  simpa using h
/-- a list of frames and a code are returned -/
def EntP (r : List Q.Fr × Int) (w : World) (e : Ending) (w' : World) : Prop := ∃ v, e = .returned (.tuple #[v, .int .i64 r.2]) ∧ RdD Q.z fcs 9 w' v r.1 ∧ Below w.heap.size w w'
set_option maxRecDepth 100000 in
set_option maxHeartbeats 2000000 in
theorem entries_1 (v : Value) (l : List T.Trk) (ctl : Int) (w : World) (hr : RdK w v l) (hn : l.length ≤ 120) (hwf : WfL l) (hS : Q.sessB l = false) :
    Calls Tryz.prog 9 #[v, .int .i64 ctl] w (EntP ([], 1) w) := by
  have hbe := (Below.refl w.heap.size w).alloc (Nat.le_refl _) (.cells #[.int .i64 ctl] 3)
  have HSe := Lib.hid (session_any v l (w.alloc (.cells #[.int .i64 ctl] 3)) (hr.keep hbe) hn hwf)
  have HS := Lib.hid hS; clear hS hwf
  obtain ⟨a, c, rfl, hac⟩ := RdS.form hr
  go_enter Tryz.func9, Tryz.ntmps9
  go_wp2_with fail
  refine HSe.out.mono ?_
  rw [HS.out]
  rintro e w1 ⟨rfl, hb⟩
  have hle := hbe.trans (hb.mono hbe.size)
  clear hb hbe
  go_wp2_with fail
  go_ret2
  exact ⟨_, rfl, RdD.nil _, hle⟩
set_option maxRecDepth 100000 in
set_option maxHeartbeats 2000000 in
theorem entries_2 (v : Value) (l : List T.Trk) (ctl : Int) (w : World) (hr : RdK w v l) (hn : l.length ≤ 120) (hwf : WfL l) (hS : Q.sessB l = true) (hc : ¬ (0 ≤ ctl ∧ ctl ≤ 15)) :
    Calls Tryz.prog 9 #[v, .int .i64 ctl] w (EntP ([], 1) w) := by
  have hbe := (Below.refl w.heap.size w).alloc (Nat.le_refl _) (.cells #[.int .i64 ctl] 3)
  have hC : Bx (w.alloc (.cells #[.int .i64 ctl] 3)) w.heap.size 3 [.int .i64 ctl] := Bx.new _ _ _
  have HSe := Lib.hid (session_any v l (w.alloc (.cells #[.int .i64 ctl] 3)) (hr.keep hbe) hn hwf)
  have HS := Lib.hid hS; clear hS hwf
  obtain ⟨a, c, rfl, hac⟩ := RdS.form hr
  have d1 := btw_f hc; clear hc
  go_enter Tryz.func9, Tryz.ntmps9
  go_wp2_with fail
  refine HSe.out.mono ?_
  rw [HS.out]
  rintro e w1 ⟨rfl, hb⟩
  have hle := hbe.trans (hb.mono hbe.size)
  have hc0 := (hC.call hb).cell (i := 0) rfl
  clear hb hbe hC
  go_wp2_with (go_at_call 39; refine (between_any _ _ _ _).mono ?_; rintro e w' ⟨rfl, rfl⟩)
  go_ret2
  exact ⟨_, rfl, RdD.nil _, hle⟩
end Go.Proofs.YtflmjdjkfognjaaGreat.W10
namespace Go.Proofs.YtflmjdjkfognjaaGreat.W10
open Go.RowKit
set_option linter.unusedVariables false
/-- what Entries holds: the control, the last track, the list -/
structure EN (w0 : World) (gL gO : Nat) (ctl : Int) (x : T.Trk) (L : List Q.Fr) (v : Value) (W : World) : Prop where
  c : W.cell? ⟨w0.heap.size, 0, none⟩ = some (.int .i64 ctl)
  x : Bx W gL 28 (tcs x)
  o : Bx W gO 29 [v]
  own : W.ownsRow (gO + 1) 38 9 v L.length (flD fcs L)
  le : Below w0.heap.size w0 W
  l1 : w0.heap.size < gL
  l2 : gL < gO
section
variable {w0 W W' : World} {gL gO : Nat} {ctl : Int} {x : T.Trk} {L L' : List Q.Fr} {v : Value}
theorem EN.call (h : EN w0 gL gO ctl x L v W) (hb : Below W.heap.size W W') : EN w0 gL gO ctl x L v W' :=
  ⟨(hb.cell (p := ⟨w0.heap.size, 0, none⟩) (World.block_lt_of_cell? W _ h.c)).trans h.c, h.x.call hb, h.o.call hb, ownD_keep h.own hb, h.le.trans (hb.mono h.le.size), h.l1, h.l2⟩
theorem EN.add {e : Ending} (h : EN w0 gL gO ctl x L v W) (ha : AddP gO (gO + 1) v L' W e W') : e = .returned (.tuple #[]) ∧ ∃ v', EN w0 gL gO ctl x L' v' W' := by
  obtain ⟨h1, v', h2, h3, h4, h5⟩ := ha
  have := h.l1
  have := h.l2
  exact ⟨h1, v', (h4.cell (p := ⟨w0.heap.size, 0, none⟩) (by simp only; omega)).trans h.c, h.x.keepB h4 h.l2, h2, h3, h.le.trans (h4.mono (by omega)), h.l1, h.l2⟩
end
/-- with some value -/
def ENx (w0 : World) (gL gO : Nat) (ctl : Int) (x : T.Trk) (L : List Q.Fr) (W : World) : Prop := ∃ v, EN w0 gL gO ctl x L v W
set_option maxRecDepth 100000 in
set_option maxHeartbeats 4000000 in
theorem entries_3 (v : Value) (l : List T.Trk) (ctl : Int) (w : World) (hr : RdK w v l) (hn : l.length ≤ 120) (hwf : WfL l) (hS : Q.sessB l = true) (hc : 0 ≤ ctl ∧ ctl ≤ 15) :
    Calls Tryz.prog 9 #[v, .int .i64 ctl] w (EntP (Q.entL l ctl l.length, 0) w) := by
  have hbe := (Below.refl w.heap.size w).alloc (Nat.le_refl _) (.cells #[.int .i64 ctl] 3)
  have hC : Bx (w.alloc (.cells #[.int .i64 ctl] 3)) w.heap.size 3 [.int .i64 ctl] := Bx.new _ _ _
  have HSe := Lib.hid (session_any v l (w.alloc (.cells #[.int .i64 ctl] 3)) (hr.keep hbe) hn hwf)
  have HS := Lib.hid hS; clear hwf
  have HSS := Lib.hid (Q.sessB_true.1 hS); clear hS
  have HR := Lib.hid hr
  obtain ⟨a, c, rfl, hac⟩ := RdS.form hr
  clear hr
  have d1 := btw_t hc.1 hc.2; clear hc
  go_enter Tryz.func9, Tryz.ntmps9
  go_wp2_with fail
  refine HSe.out.mono ?_
  rw [HS.out]
  rintro e w1 ⟨rfl, hb⟩
  have hle := hbe.trans (hb.mono hbe.size)
  have hC1 := hC.call hb
  have hc0 := hC1.cell (i := 0) rfl
  clear hb hbe hC
  go_upto_region 3 with (first | (go_at_call 39; refine (between_any _ _ _ _).mono ?_; rintro e w' ⟨rfl, rfl⟩) | fail)
  have hl1 := HSS.out.1
  have hl2 := HSS.out.2.1
  have hrx := HR.out
  obtain ⟨b, off, hcell⟩ := RdK.cells (HR.out.keep hle)
  obtain ⟨ha, hrg⟩ := hcell (l.length - 1) (by omega)
  obtain ⟨ha0, hrg0⟩ := hcell 0 (by omega)
  obtain ⟨hat1, hat2, hat3, hat4, hat5, hat6⟩ := HSS.out.at (i := l.length - 1) (by omega)
  have HEnd : Hid (Q.endL l = (T.tr l (l.length - 1)).st + (T.tr l (l.length - 1)).len) := Lib.hid rfl
  have HL0 : Hid (Q.entL l ctl 0 = (([] ++ [Q.entF ctl 160 (T.tr l 0).num 0 0]) ++ [Q.entF ctl 161 (T.tr l (l.length - 1)).num 0 0]) ++ [Q.entF ctl 162 (Q.mM (Q.endL l + 150)) (Q.mS (Q.endL l + 150)) (Q.mF (Q.endL l + 150))]) := Lib.hid rfl
  clear hcell hrx
  have hlw : IntKind.i64.wrap ((l.length : Int) - 1) = (l.length : Int) - 1 := IntWalk.i64_in _ (by omega)
  have hix := fun w' => run_idxS Tryz.underlying22 Tryz.sizeTrack (cap := c) ha (by omega : l.length - 1 < l.length) ((l.length : Int) - 1) (by omega) w'
  have hix0 := fun w' => run_idxS Tryz.underlying22 Tryz.sizeTrack (cap := c) ha (by omega : 0 < l.length) 0 rfl w'
  simp only [Nat.zero_mul, Nat.add_zero] at hix0 hrg0
  generalize l.length - 1 = p at *
  generalize T.tr l p = x at *
  generalize T.tr l 0 = y at *
  have hn0 := (rd7 hrg0).1
  obtain ⟨hc0', hc1', hc2', hc3', hc4', hc5', hc6'⟩ := rd7 hrg
  have Ha := Lib.hid ha; clear ha hrg hrg0 ha0
  have hbl := World.block_lt_of_cell? w1 _ hn0
  go_upto_region 4 with (fail)
  have hX : Bx (w1.alloc (tobj x)) w1.heap.size 28 (tcs x) := Bx.new _ _ _
  have hb2 := (Below.refl w1.heap.size w1).alloc (Nat.le_refl _) (tobj x)
  have hle2 := hle.alloc hle.size (tobj x)
  have hC2 := hC1.call hb2
  replace hn0 := (hb2.cell (p := ⟨b, off, none⟩) hbl).trans hn0
  obtain ⟨gL, hgL⟩ : ∃ gL, gL = w1.heap.size := ⟨_, rfl⟩
  have hlL : w.heap.size < gL := by rw [hgL]; exact hC1.lt
  rw [← hgL] at hX
  simp only [← hgL]
  clear hc0 hc0' hc1' hc2' hc3' hc4' hc5' hc6' hbl
  generalize w1.alloc (tobj x) = w2 at hX hb2 hle2 hC2 hn0 ⊢
  clear hb2 hgL hC1 hle
  have hbl := World.block_lt_of_cell? w2 _ hn0
  go_upto_region 6 with (fail)
  have hO : Bx (w2.alloc (.cells #[.slice none 0 0] 29)) w2.heap.size 29 [.slice none 0 0] := Bx.new _ _ _
  have hb3 := (Below.refl w2.heap.size w2).alloc (Nat.le_refl _) (.cells #[.slice none 0 0] 29)
  have hle3 := hle2.alloc hle2.size (.cells #[.slice none 0 0] 29)
  have hC3 := hC2.call hb3
  have hX3 := hX.call hb3
  replace hn0 := (hb3.cell (p := ⟨b, off, none⟩) hbl).trans hn0
  obtain ⟨gO, hgO⟩ : ∃ gO, gO = w2.heap.size := ⟨_, rfl⟩
  have hlO : gL < gO := by rw [hgO]; exact hX.lt
  rw [← hgO] at hO
  simp only [← hgO]
  clear hbl
  generalize w2.alloc (.cells #[.slice none 0 0] 29) = w3 at hO hb3 hle3 hC3 hX3 hn0 ⊢
  clear hb3 hgO hC2 hle2 hX
  have hE3 : EN w gL gO ctl x [] (.slice none 0 0) w3 := ⟨hC3.cell (i := 0) rfl, hX3, hO, World.ownsRow_nil _ _ _ _, hle3, hlL, hlO⟩
  clear hC3 hX3 hO hle3
  go_wp2_with fail
  refine (add_any 160 y.num 0 0 ctl gO w.heap.size (gO + 1) _ [] _ hE3.o hE3.c (by omega) hE3.own (by omega) hE3.o.lt (by simp)).mono ?_
  intro e w4 ha4
  obtain ⟨rfl, v4, hE4⟩ := hE3.add ha4
  clear hE3 ha4 hn0
  have hx0 := hE4.x.cell (i := 0) rfl
  go_wp2_with fail
  refine (add_any 161 x.num 0 0 ctl gO w.heap.size (gO + 1) _ _ _ hE4.o hE4.c (by omega) hE4.own (by omega) hE4.o.lt (by simp)).mono ?_
  intro e w5 ha5
  obtain ⟨rfl, v5, hE5⟩ := hE4.add ha5
  clear hE4 ha5 hx0
  have hx0 := hE5.x.cell (i := 0) rfl
  have hx1 := hE5.x.cell (i := 1) rfl
  have hx2 := hE5.x.cell (i := 2) rfl
  have hx3 := hE5.x.cell (i := 3) rfl
  have hx4 := hE5.x.cell (i := 4) rfl
  have hx5 := hE5.x.cell (i := 5) rfl
  have hx6 := hE5.x.cell (i := 6) rfl
  go_wp2_with fail
  refine (send_any x _ (by omega) (by omega) (by omega) (by omega)).mono ?_
  rintro e w6 ⟨rfl, rfl⟩
  have hE6 := hE5.call ((Below.refl _ w5).alloc (Nat.le_refl _) (tobj x))
  generalize w5.alloc (tobj x) = w6 at hE6 ⊢
  clear hE5 hx0 hx1 hx2 hx3 hx4 hx5 hx6
  go_wp2_with fail
  refine (msf_any _ _ (by omega) (by omega)).mono ?_
  rintro e w7 ⟨rfl, hb7⟩
  have hE7 := hE6.call hb7
  clear hE6 hb7
  go_wp2_with fail
  refine (add_any 162 _ _ _ ctl gO w.heap.size (gO + 1) _ _ _ hE7.o hE7.c (by omega) hE7.own (by omega) hE7.o.lt (by simp)).mono ?_
  intro e w8 ha8
  obtain ⟨rfl, v8, hE8⟩ := hE7.add ha8
  clear hE7 ha8
  rw [← HEnd.out, ← HL0.out] at hE8
  clear HL0
  go_wp2_with fail
  go_loopw [45] (fun vi wr => ∃ (k : Nat), k ≤ l.length ∧ vi = .int .i64 k ∧ ENx w gL gO ctl x (Q.entL l ctl k) wr) (fun vi _ => l.length - (intOf vi).toNat)
  case atStart => exact ⟨0, by omega, rfl, v8, hE8⟩
  case round =>
    clear hE8
    obtain ⟨k, hk, rfl, v9, hE⟩ := hrel
    by_cases hlt : k < l.length
    · obtain ⟨b, off, hcell⟩ := RdK.cells (HR.out.keep hE.le)
      obtain ⟨ha, hrg⟩ := hcell k hlt
      obtain ⟨hat1, hat2, hat3, hat4, hat5, hat6⟩ := HSS.out.at hlt
      have HSu : Hid (Q.entL l ctl (k + 1) = Q.entL l ctl k ++ [Q.entF ctl (T.tr l k).num (Q.mM ((T.tr l k).st + 150)) (Q.mS ((T.tr l k).st + 150)) (Q.mF ((T.tr l k).st + 150))]) := Lib.hid (Q.entL_succ l ctl k)
      have HLe := Lib.hid (Q.entL_length l ctl k)
      clear hcell
      generalize T.tr l k = z at *
      obtain ⟨hc0', hc1', hc2', hc3', hc4', hc5', hc6'⟩ := rd7 hrg
      have hix := fun w' => run_idxS Tryz.underlying22 Tryz.sizeTrack (cap := c) ha hlt (k : Int) rfl w'
      have Ha := Lib.hid ha; clear ha hrg
      go_upto_region 12 with (fail)
      have hZ : Bx (wr.alloc (tobj z)) wr.heap.size 28 (tcs z) := Bx.new _ _ _
      have hE2 := hE.call ((Below.refl wr.heap.size wr).alloc (Nat.le_refl _) (tobj z))
      obtain ⟨gZ, hgZ⟩ : ∃ gZ, gZ = wr.heap.size := ⟨_, rfl⟩
      rw [← hgZ] at hZ
      simp only [← hgZ]
      clear hc0' hc1' hc2' hc3' hc4' hc5' hc6'
      generalize wr.alloc (tobj z) = W at hZ hE2 ⊢
      clear hgZ hE
      have hz0 := hZ.cell (i := 0) rfl
      have hz2 := hZ.cell (i := 2) rfl
      have HE := Lib.hid hE2
      have HZ := Lib.hid hZ
      have lO := hE2.l2
      have lL := hE2.l1
      clear hE2 hZ
      generalize Q.entL l ctl k = LL at HE HSu HLe
      go_region_with (first
        | (go_at_call 41; refine (msf_any _ _ (by omega) (by omega)).mono ?_; rintro e w6 ⟨rfl, hb6⟩; have hE6 := EN.call (W := _) (by first | exact HE.out | exact HE.out.call (Below.drewN (Below.refl _ _) _)) hb6; have hZ6 := Bx.call (W := _) (g := gZ) (by first | exact HZ.out | exact HZ.out.drewN _) hb6; have z0 := hZ6.cell (i := 0) rfl; have HE6 := Lib.hid hE6; clear hE6 hZ6)
        | (refine (add_any _ _ _ _ ctl gO w.heap.size (gO + 1) _ LL _ (by exact HE6.out.o) (by exact HE6.out.c) (by omega) (by exact HE6.out.own) (by omega) (by exact HE6.out.o.lt) (by have := HLe.out; omega)).mono ?_; intro e w7 ha7; obtain ⟨rfl, v7, hE7⟩ := HE6.out.add ha7; clear ha7))
      all_goals
        go_wp2_with fail
        go_roundw
        case rel => exact ⟨k + 1, by omega, by go_num, v7, by rw [HSu.out]; exact hE7⟩
        case measure => simp [intOf]; omega
    · obtain rfl : k = l.length := by omega
      obtain ⟨va, vc, rfl⟩ := ownD_form hE.own
      have ho0 := hE.o.cell (i := 0) rfl
      go_wp2_with fail
      go_ret2
      exact ⟨_, rfl, RdD.ofOwn fcs_length hE.own, hE.le⟩
theorem entries_any (v : Value) (l : List T.Trk) (ctl : Int) (w : World) (hr : RdK w v l) (hn : l.length ≤ 120) (hwf : WfL l) :
    Calls Tryz.prog 9 #[v, .int .i64 ctl] w (EntP (Q.entR l ctl) w) := by
  unfold Q.entR
  cases hS : Q.sessB l with
  | false => rw [if_pos (.inl rfl)]; exact entries_1 v l ctl w hr hn hwf hS
  | true =>
    by_cases hc : 0 ≤ ctl ∧ ctl ≤ 15
    · rw [if_neg (fun h => h.elim (fun h => by cases h) (fun h => by omega))]; exact entries_3 v l ctl w hr hn hwf hS hc
    · rw [if_pos (.inr (by omega))]; exact entries_2 v l ctl w hr hn hwf hS hc
end Go.Proofs.YtflmjdjkfognjaaGreat.W10
