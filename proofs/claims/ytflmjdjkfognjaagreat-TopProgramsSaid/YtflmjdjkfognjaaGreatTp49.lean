/- Shaken out of XIn -/
import Derived.Test.YtflmjdjkfognjaaGreatTp39
import Derived.Test.YtflmjdjkfognjaaGreatTp40
import Derived.Test.YtflmjdjkfognjaaGreatTp44
import Derived.Test.YtflmjdjkfognjaaGreatTp46
import Derived.Test.YtflmjdjkfognjaaGreatTp48
import Derived.Test.YtflmjdjkfognjaaGreatTp23
namespace Go.Proofs.YtflmjdjkfognjaaGreat.T7
open Go Go.RowKit W10
set_option linter.unusedVariables false
set_option maxRecDepth 100000 in
set_option maxHeartbeats 2000000 in
theorem prg_many (cap cl s lba : Int) (fin : Bool) (sv : Value) (l : List T.Trk) (w : World) (hr : RdK w sv l) (hn : l.length ≤ 9223372036854775807) (h : 99 < l.length) :
    Calls Tryz.prog 3 #[.int .i64 cap, tval cl fin sv, .int .i64 s, .int .i64 lba] w (RB true w) := by
  obtain ⟨a, c, rfl, hac⟩ := RdS.form hr
  have hA0 := (Below.refl w.heap.size w).alloc (Nat.le_refl _) (.cells #[.int .i64 cl, .bool fin, .slice a l.length c] 24)
  have hx0 := Bx.new w 24 [.int .i64 cl, .bool fin, .slice a l.length c]
  obtain ⟨w0, hw0⟩ : ∃ w0, w0 = w.alloc (.cells #[.int .i64 cl, .bool fin, .slice a l.length c] 24) := ⟨_, rfl⟩
  obtain ⟨g, hg⟩ : ∃ g, g = w.heap.size := ⟨_, rfl⟩
  change Bx (w.alloc (.cells #[.int .i64 cl, .bool fin, .slice a l.length c] 24)) _ _ _ at hx0
  rw [← hw0, ← hg] at hx0
  rw [← hw0] at hA0
  have HX0 := Lib.hid hx0; have HA0 := Lib.hid hA0; have HW0 := Lib.hid hw0.symm; have HG := Lib.hid hg
  have HR0 := Lib.hid (RdK.keep hr hA0)
  clear hx0 hA0 hw0 hg
  go_enter Tryz.func3, Tryz.ntmps3
  go_upto_region 1 with (fail)
  rw [HW0.out, ← HG.out]
  go_wp2_with fail
  refine (coded_any w0).mono ?_
  rintro e w1 ⟨rfl, hb1⟩
  have hx1 := HX0.out.call hb1
  have q0 := hx1.cell (i := 0) rfl
  have q1 := hx1.cell (i := 1) rfl
  have q2 := hx1.cell (i := 2) rfl
  have HX1 := Lib.hid hx1
  have HA1 := Lib.hid (HA0.out.trans (hb1.mono HA0.out.size))
  have HR1 := Lib.hid (RdK.keep HR0.out hb1)
  clear hx1 hb1
  have d : decide ((99 : Int) < (l.length : Int)) = true := decide_eq_true (by omega)
  clear hr
  go_wp2_with fail
  go_ret
  exact ⟨rfl, HA1.out⟩
set_option maxRecDepth 100000 in
set_option maxHeartbeats 2000000 in
theorem prg_bad (cap cl s lba : Int) (fin : Bool) (sv : Value) (l : List T.Trk) (w : World) (hr : RdK w sv l) (h : l.length ≤ 99) (hf : ∀ i, i < l.length → Wf (T.tr l i)) (hb : ¬ (T.validR cap cl fin l ∧ 1 ≤ s ∧ s ≤ cl)) :
    Calls Tryz.prog 3 #[.int .i64 cap, tval cl fin sv, .int .i64 s, .int .i64 lba] w (RB true w) := by
  have HVA := Lib.hid (fun W sv (hW : RdK W sv l) => valid_allG cap cl fin sv l W hW (by omega) hf)
  have hVB : T.validB cap cl fin l = true → T.validR cap cl fin l := fun h => of_decide_eq_true h
  have HB := Lib.hid hb
  clear hb
  obtain ⟨a, c, rfl, hac⟩ := RdS.form hr
  have hA0 := (Below.refl w.heap.size w).alloc (Nat.le_refl _) (.cells #[.int .i64 cl, .bool fin, .slice a l.length c] 24)
  have hx0 := Bx.new w 24 [.int .i64 cl, .bool fin, .slice a l.length c]
  obtain ⟨w0, hw0⟩ : ∃ w0, w0 = w.alloc (.cells #[.int .i64 cl, .bool fin, .slice a l.length c] 24) := ⟨_, rfl⟩
  obtain ⟨g, hg⟩ : ∃ g, g = w.heap.size := ⟨_, rfl⟩
  change Bx (w.alloc (.cells #[.int .i64 cl, .bool fin, .slice a l.length c] 24)) _ _ _ at hx0
  rw [← hw0, ← hg] at hx0
  rw [← hw0] at hA0
  have HX0 := Lib.hid hx0; have HA0 := Lib.hid hA0; have HW0 := Lib.hid hw0.symm; have HG := Lib.hid hg
  have HR0 := Lib.hid (RdK.keep hr hA0)
  clear hx0 hA0 hw0 hg
  go_enter Tryz.func3, Tryz.ntmps3
  go_upto_region 1 with (fail)
  rw [HW0.out, ← HG.out]
  go_wp2_with fail
  refine (coded_any w0).mono ?_
  rintro e w1 ⟨rfl, hb1⟩
  have hx1 := HX0.out.call hb1
  have q0 := hx1.cell (i := 0) rfl
  have q1 := hx1.cell (i := 1) rfl
  have q2 := hx1.cell (i := 2) rfl
  have HX1 := Lib.hid hx1
  have HA1 := Lib.hid (HA0.out.trans (hb1.mono HA0.out.size))
  have HR1 := Lib.hid (RdK.keep HR0.out hb1)
  clear hx1 hb1
  have d : decide ((99 : Int) < (l.length : Int)) = false := decide_eq_false (by omega)
  clear hr
  go_wp2_with fail
  refine (HVA.out w1 _ HR1.out).mono ?_
  rintro e w2 ⟨rfl, hb2⟩
  have HA2 := Lib.hid (HA1.out.trans (hb2.mono HA1.out.size))
  have hx2 := HX1.out.call hb2
  have q0 := hx2.cell (i := 0) rfl
  clear hx2 hb2
  generalize hvb : T.validB cap cl fin l = vb at hVB ⊢
  cases vb
  · clear hVB hvb
    go_wp2_with fail
    go_ret
    exact ⟨rfl, HA2.out⟩
  · have hv := hVB rfl
    clear hVB hvb
    by_cases h1 : s < 1
    · have d1 : decide (s < 1) = true := decide_eq_true h1
      clear h1 hv
      go_wp2_with fail
      go_ret
      exact ⟨rfl, HA2.out⟩
    · have d1 : decide (s < 1) = false := decide_eq_false h1
      have d2 : decide (cl < s) = true := decide_eq_true (by
        have hn := HB.out
        by_cases h2 : cl < s
        · exact h2
        · exact absurd ⟨hv, by omega, by omega⟩ hn)
      clear h1 hv
      go_wp2_with fail
      go_ret
      exact ⟨rfl, HA2.out⟩
/-- the entries are few -/
theorem entL_len (F : List T.Trk) (ctl : Int) (n : Nat) : (Q.entL F ctl n).length ≤ n + 3 := by
  unfold Q.entL Q.entT
  simp
def prgV (bF oF nF cF o0 oL : Nat) (s0 sL lL eL dd rm at0 lba mx : Int) (i : Nat) (v : Value) (W : World) : Prop := match i with
  | 0 => v = .slice (some ⟨bF, oF, none⟩) nF cF
  | 1 => v = .pointer (some ⟨bF, o0, none⟩)
  | 2 => v = .pointer (some ⟨bF, o0 + 2, none⟩)
  | 3 => v = .int .i64 s0
  | 4 => v = .int .i64 lba
  | 5 => v = .int .i64 mx
  | 6 => v = .slice (some ⟨bF, oF, none⟩) nF cF
  | 7 => v = .slice (some ⟨bF, oF, none⟩) nF cF
  | 8 => v = .int .i64 (nF : Nat)
  | 9 => v = .int .i64 ((nF : Int) - 1)
  | 10 => v = .pointer (some ⟨bF, oL, none⟩)
  | 11 => v = .pointer (some ⟨bF, oL + 2, none⟩)
  | 12 => v = .int .i64 sL
  | 13 => v = .slice (some ⟨bF, oF, none⟩) nF cF
  | 14 => v = .slice (some ⟨bF, oF, none⟩) nF cF
  | 15 => v = .int .i64 (nF : Nat)
  | 16 => v = .int .i64 ((nF : Int) - 1)
  | 17 => v = .pointer (some ⟨bF, oL, none⟩)
  | 18 => v = .pointer (some ⟨bF, oL + 3, none⟩)
  | 19 => v = .int .i64 lL
  | 20 => v = .int .i64 eL
  | 21 => v = .slice (some ⟨bF, oF, none⟩) nF cF
  | 22 => v = .pointer (some ⟨bF, o0, none⟩)
  | 23 => v = .pointer (some ⟨bF, o0 + 2, none⟩)
  | 24 => v = .int .i64 s0
  | 25 => v = .int .i64 dd
  | 26 => v = .int .i64 rm
  | 27 => v = .int .i64 at0
  | 28 => v = .int .i64 at0
  | _ => True
theorem prgV_keep (bF oF nF cF o0 oL : Nat) (s0 sL lL eL dd rm at0 lba mx : Int) (i : Nat) (v : Value) (W W' : World) (hR : (fun w W => Below w.heap.size w W) W W') (h : prgV bF oF nF cF o0 oL s0 sL lL eL dd rm at0 lba mx i v W) : prgV bF oF nF cF o0 oL s0 sL lL eL dd rm at0 lba mx i v W' := by
  unfold prgV at h ⊢
  split at h <;> first | exact h
set_option maxRecDepth 100000 in
set_option maxHeartbeats 4000000 in
theorem prg_ok (cap cl s lba : Int) (fin : Bool) (sv : Value) (l : List T.Trk) (w : World) (hr : RdK w sv l) (h : l.length ≤ 99) (hf : ∀ i, i < l.length → Wf (T.tr l i)) (hv : T.validR cap cl fin l) (h1 : 1 ≤ s) (h2 : s ≤ cl) (hlb : In64 lba) :
    Calls Tryz.prog 3 #[.int .i64 cap, tval cl fin sv, .int .i64 s, .int .i64 lba] w (RB true w) := by
  have HVA := Lib.hid (fun W sv (hW : RdK W sv l) => valid_allG cap cl fin sv l W hW (by omega) hf)
  have hvb : T.validB cap cl fin l = true := decide_eq_true hv
  obtain ⟨j, hj⟩ : ∃ j : Nat, s = (j : Int) + 1 := ⟨(s - 1).toNat, by omega⟩
  have hjs : j < (T.sess cl l l.length).length := by have := T.sess_many hv; omega
  have hS : Q.Sess (T.of l s l.length) := by rw [hj]; exact T.sess_of hv hjs
  have HLI := Lib.hid (fun W sv (hW : RdK W sv l) => leadin_closed cap cl fin sv l j s W hW hv hj hjs h2)
  have hent : Q.entR (T.of l s l.length) 4 = (Q.entL (T.of l s l.length) 4 (T.of l s l.length).length, 0) := by
    unfold Q.entR
    rw [if_neg (by rw [Q.sessB_true.2 hS]; decide)]
  have hofl := T.of_len l s l.length
  have HEN := Lib.hid (fun u W (h : W10.RdK W u (T.of l s l.length)) => W10.entries_any u (T.of l s l.length) 4 W h (by omega) (of_wf hv s))
  rw [hent] at HEN
  have HPR := Lib.hid (fun u n W (h : W10.RdK W u (T.of l s l.length)) => W10.program_any u (T.of l s l.length) 4 n W h (by omega) (of_wf hv s))
  have HFI := Lib.hid (fun n => find_fr hv hS (n := n))
  have HEL := Lib.hid (show ((Q.entL (T.of l s l.length) 4 (T.of l s l.length).length)).length ≤ 1000000 from by have := entL_len (T.of l s l.length) 4 (T.of l s l.length).length; omega)
  have HSS := Lib.hid hS
  have HVB := Lib.hid hvb
  have HOFL := Lib.hid hofl
  clear hent hj hjs hS hvb hv hofl
  obtain ⟨a, c, rfl, hac⟩ := RdS.form hr
  have hA0 := (Below.refl w.heap.size w).alloc (Nat.le_refl _) (.cells #[.int .i64 cl, .bool fin, .slice a l.length c] 24)
  have hx0 := Bx.new w 24 [.int .i64 cl, .bool fin, .slice a l.length c]
  obtain ⟨w0, hw0⟩ : ∃ w0, w0 = w.alloc (.cells #[.int .i64 cl, .bool fin, .slice a l.length c] 24) := ⟨_, rfl⟩
  obtain ⟨g, hg⟩ : ∃ g, g = w.heap.size := ⟨_, rfl⟩
  change Bx (w.alloc (.cells #[.int .i64 cl, .bool fin, .slice a l.length c] 24)) _ _ _ at hx0
  rw [← hw0, ← hg] at hx0
  rw [← hw0] at hA0
  have HX0 := Lib.hid hx0; have HA0 := Lib.hid hA0; have HW0 := Lib.hid hw0.symm; have HG := Lib.hid hg
  have HR0 := Lib.hid (RdK.keep hr hA0)
  clear hx0 hA0 hw0 hg
  go_enter Tryz.func3, Tryz.ntmps3
  go_upto_region 1 with (fail)
  rw [HW0.out, ← HG.out]
  go_wp2_with fail
  refine (coded_any w0).mono ?_
  rintro e w1 ⟨rfl, hb1⟩
  have hx1 := HX0.out.call hb1
  have q0 := hx1.cell (i := 0) rfl
  have q1 := hx1.cell (i := 1) rfl
  have q2 := hx1.cell (i := 2) rfl
  have HX1 := Lib.hid hx1
  have HA1 := Lib.hid (HA0.out.trans (hb1.mono HA0.out.size))
  have HR1 := Lib.hid (RdK.keep HR0.out hb1)
  clear hx1 hb1
  have d : decide ((99 : Int) < (l.length : Int)) = false := decide_eq_false (by omega)
  have d1 : decide (s < 1) = false := decide_eq_false (by omega)
  have d2 : decide (cl < s) = false := decide_eq_false (by omega)
  clear hr
  go_wp2_with fail
  refine (HVA.out w1 _ HR1.out).mono ?_
  rintro e w2 ⟨rfl, hb2⟩
  rw [HVB.out]
  have HA2 := Lib.hid (HA1.out.trans (hb2.mono HA1.out.size))
  have hx2 := HX1.out.call hb2
  have q0 := hx2.cell (i := 0) rfl
  have q1 := hx2.cell (i := 1) rfl
  have q2 := hx2.cell (i := 2) rfl
  have HX2 := Lib.hid hx2
  have HR2 := Lib.hid (RdK.keep HR1.out hb2)
  obtain ⟨b, off, hcell⟩ : ∃ b off, ∀ i, i < l.length → a = some ⟨b, off, none⟩ ∧ w2.rangeAt b (off + i * 7) (tcs (T.tr l i)) := by
    obtain ⟨a', c', b, off, he, hac', hcell⟩ := HR2.out
    injection he with e1 e2 e3
    subst e1 e3
    exact ⟨b, off, hcell⟩
  have HC := Lib.hid hcell
  clear hx2 hb2 hcell
  go_wp2_with fail
  obtain ⟨B, hB⟩ : ∃ B, B = w2.heap.size := ⟨_, rfl⟩
  have HB := Lib.hid hB
  have hb0 : Below B w2 w2 := Below.refl _ _
  clear hB
  go_loopw [9, 49] (fun vo vi wr => ∃ (k : Nat), k ≤ l.length ∧ vi = .int .i64 k ∧ wr.ownsRow B 28 7 vo (T.of l s k).length (flD tcs (T.of l s k)) ∧ Below B w2 wr) (fun _ vi _ => l.length - (intOf vi).toNat)
  case atStart => exact ⟨0, by omega, rfl, ⟨rfl, .inl ⟨rfl, rfl⟩⟩, hb0⟩
  case round =>
    clear hb0
    obtain ⟨k, hk, rfl, hown, hb⟩ := hrel
    obtain ⟨va, vc, rfl⟩ := ownD_form hown
    have hwr : B ≤ wr.heap.size := Nat.le_trans (Nat.le_of_eq HB.out) hb.size
    by_cases hlt : k < l.length
    · obtain ⟨ha, hrange⟩ := HC.out k hlt
      have hrg : wr.rangeAt b (off + k * 7) (tcs (T.tr l k)) := fun j u hu => (hb.cell (p := ⟨b, off + k * 7 + j, none⟩) (by rw [HB.out]; exact World.block_lt_of_cell? w2 _ (hrange j u hu))).trans (hrange j u hu)
      clear hrange
      have hix := fun w' => run_idxS Tryz.underlying22 Tryz.sizeTrack (cap := c) ha hlt (k : Int) rfl w'
      have HNew : Hid ((T.tr l k).ses = s → T.of l s (k + 1) = T.of l s k ++ [T.tr l k]) := Lib.hid T.of_new
      have HOld : Hid ((T.tr l k).ses ≠ s → T.of l s (k + 1) = T.of l s k) := Lib.hid T.of_old
      have hlen := T.of_len l s k
      generalize T.tr l k = x at hrg HNew HOld
      generalize T.of l s k = F at hown HNew HOld hlen
      obtain ⟨hc0, hc1, hc2, hc3, hc4, hc5, hc6⟩ := rd7 hrg
      have Ha := Lib.hid ha; clear ha hrg
      have Hown := Lib.hid hown; clear hown
      clear q0 q1 q2
      go_upto_region 9 with (fail)
      have hX : Bx (wr.alloc (tobj x)) wr.heap.size 28 (tcs x) := Bx.new _ _ _
      have hal := (Below.refl wr.heap.size wr).alloc (Nat.le_refl _) (tobj x)
      have hb2 := hb.trans (hal.mono hwr)
      have Hown2 := Lib.hid (ownD_keep Hown.out hal)
      obtain ⟨gx, hgx⟩ : ∃ g, g = wr.heap.size := ⟨_, rfl⟩
      rw [← hgx] at hX
      simp only [← hgx]
      clear hgx hal hb Hown hc0 hc1 hc2 hc3 hc4 hc5 hc6 hix
      change Code.wp _ _ _ _ (wr.alloc (tobj x))
      generalize wr.alloc (tobj x) = w3 at hX hb2 Hown2 ⊢
      have hw2 : B ≤ w3.heap.size := Nat.le_trans (Nat.le_of_eq HB.out) hb2.size
      have hx0 := hX.cell (i := 0) rfl
      have hx1 := hX.cell (i := 1) rfl
      have hx2 := hX.cell (i := 2) rfl
      have hx3 := hX.cell (i := 3) rfl
      have hx4 := hX.cell (i := 4) rfl
      have hx5 := hX.cell (i := 5) rfl
      have hx6 := hX.cell (i := 6) rfl
      by_cases hs : x.ses = s
      · have HF := Lib.hid (HNew.out hs)
        have hd : (x.ses == s) = true := beq_iff_eq.2 hs
        clear hs HNew HOld
        have hal3 := (Below.refl w3.heap.size w3).alloc (Nat.le_refl _) (tobj x)
        have Hown3 := Lib.hid (ownD_keep Hown2.out hal3)
        have HB3 := Lib.hid (hb2.trans (hal3.mono hw2))
        clear hal3 hb2 Hown2 hX
        go_wp2_with (at_builtin; refine wpList_appD (d := T.z) (D := tcs) (l := F) (m := [x]) rfl _ _ rfl Tryz.underlying22 Tryz.infoTrack rfl (by omega) tcs_length tcs_one' Hown3.out rfl (RdD.one (by omega) tcs_length w3 28 x) rfl (by unfold maxLen; simp only [List.length_singleton]; omega) (by simp only [List.length_singleton]; omega) (by simp only [World.size_alloc]; omega) ?_; intro v4 w4 hown4 hg4)
        have hle4 := HB3.out.grown hg4 (by simp only [World.size_alloc]; have := HB.out; omega) (fun j hj => by have := ownD_block Hown3.out j hj; have := HB.out; omega)
        refine ⟨⟨k + 1, by omega, by go_num, ?_, hle4⟩, by simp [intOf]; omega⟩
        rw [HF.out, List.length_append]; exact hown4
      · have HF := Lib.hid (HOld.out hs)
        have hd : (x.ses == s) = false := beq_eq_false_iff_ne.2 hs
        clear hs HNew HOld
        go_wp2_with fail
        refine ⟨⟨k + 1, by omega, by go_num, ?_, hb2⟩, by simp [intOf]; omega⟩
        rw [HF.out]; exact Hown2.out
    · obtain rfl : k = l.length := by omega
      have hr8 : RdK wr (.slice va (T.of l s l.length).length vc) (T.of l s l.length) := by have := RdD.ofOwn (d := T.z) (l := T.of l s l.length) tcs_length hown; exact this
      have hle : Below w2.heap.size w2 wr := by rw [← HB.out]; exact hb
      have HXr := Lib.hid (HX2.out.call hle)
      have HRr := Lib.hid (RdK.keep HR2.out hle)
      have HAr := Lib.hid (HA2.out.trans (hle.mono HA2.out.size))
      have HFr := Lib.hid hr8
      clear hown hr8 hb hle q0 q1 q2 HX2 HR2 HA2 HX1 HA1 HR1 HC
      have q0 := HXr.out.cell (i := 0) rfl
      have q1 := HXr.out.cell (i := 1) rfl
      have q2 := HXr.out.cell (i := 2) rfl
      have hl1 : 1 ≤ (T.of l s l.length).length := HSS.out.1
      generalize T.of l s l.length = F at *
      generalize Q.entL F 4 F.length = E at *
      generalize hnF : F.length = nF at *
      have HNF := Lib.hid hnF
      have hd0 : ((nF : Int) == 0) = false := beq_eq_false_iff_ne.2 (by omega)
      clear hlt hnF
      go_wp2_with fail
      refine (HLI.out wr _ HRr.out).mono ?_
      rintro e w4 ⟨v4, rfl, hr4, hb4⟩
      dsimp only at hr4 ⊢
      obtain ⟨a4, c4, rfl, _⟩ := RdD.form hr4
      have HX4 := Lib.hid (HXr.out.call hb4)
      have HR4 := Lib.hid (RdK.keep HRr.out hb4)
      have HF4 := Lib.hid (RdK.keep HFr.out hb4)
      have HA4 := Lib.hid (HAr.out.trans (hb4.mono HAr.out.size))
      have HE4 := Lib.hid hr4
      clear hb4 hr4 q0 q1 q2
      go_wp2_with fail
      refine (HEN.out _ w4 HF4.out).mono ?_
      rintro e w5 ⟨v5, rfl, hr5, hb5⟩
      dsimp only at hr5 ⊢
      obtain ⟨a5, c5, rfl, _⟩ := RdD.form hr5
      have HX5 := Lib.hid (HX4.out.call hb5)
      have HR5 := Lib.hid (RdK.keep HR4.out hb5)
      have HF5 := Lib.hid (RdK.keep HF4.out hb5)
      have HA5 := Lib.hid (HA4.out.trans (hb5.mono HA4.out.size))
      have HEQ := Lib.hid (sequal_any _ _ E E w5 hr5 (RdD.keep HE4.out hb5) HEL.out rfl)
      clear hb5 hr5
      go_wp2_with fail
      refine HEQ.out.mono ?_
      rintro e wR ⟨rfl, hb6⟩
      simp only [decide_true]
      have HX6 := Lib.hid (HX5.out.call hb6)
      have HR6 := Lib.hid (RdK.keep HR5.out hb6)
      have hf6 := RdK.keep HF5.out hb6
      have HA6 := Lib.hid (HA5.out.trans (hb6.mono HA5.out.size))
      have HF6 := Lib.hid hf6
      obtain ⟨bF, oF, hcF⟩ := RdD.at (d := T.z) (D := tcs) (l := F) hf6
      have hva := (hcF 0 (by rw [HNF.out]; omega)).1
      subst hva
      have hi0 := fun w' => run_idxS Tryz.underlying22 Tryz.sizeTrack (cap := vc) (rfl : some (⟨bF, oF, none⟩ : Addr) = _) (show 0 < nF by omega) (0 : Int) rfl w'
      have hiL := fun w' => run_idxS Tryz.underlying22 Tryz.sizeTrack (cap := vc) (rfl : some (⟨bF, oF, none⟩ : Addr) = _) (show nF - 1 < nF by omega) ((nF : Int) - 1) (by omega) w'
      have hr0 : wR.rangeAt bF (oF + 0 * 7) (tcs (T.tr F 0)) := (hcF 0 (by rw [HNF.out]; omega)).2
      have hrL : wR.rangeAt bF (oF + (nF - 1) * 7) (tcs (T.tr F (nF - 1))) := (hcF (nF - 1) (by rw [HNF.out]; omega)).2
      generalize oF + 0 * 7 = o0 at hi0 hr0
      generalize oF + (nF - 1) * 7 = oL at hiL hrL
      have HI0 := Lib.hid hi0; have HIL := Lib.hid hiL
      obtain ⟨_, _, k0, _⟩ := rd7 hr0
      obtain ⟨_, _, kL, kM, _⟩ := rd7 hrL
      have hat0 := HSS.out.at (i := 0) (by rw [HNF.out]; omega)
      have hatL := HSS.out.at (i := nF - 1) (by rw [HNF.out]; omega)
      have hen := HSS.out.ends (i := 0) (by rw [HNF.out]; omega)
      have hofl2 := HOFL.out
      have heL : Q.endL F = (T.tr F (nF - 1)).st + (T.tr F (nF - 1)).len := by unfold Q.endL Q.en; rw [HNF.out]
      rw [heL] at hen
      unfold Q.en at hen
      have HFI2 := Lib.hid (fun n => HFI.out (n := n))
      rw [heL] at HFI2
      obtain ⟨s0, hs0⟩ : ∃ x, x = (T.tr F 0).st := ⟨_, rfl⟩
      obtain ⟨sL, hsL⟩ : ∃ x, x = (T.tr F (nF - 1)).st := ⟨_, rfl⟩
      obtain ⟨lL, hlL⟩ : ∃ x, x = (T.tr F (nF - 1)).len := ⟨_, rfl⟩
      rw [← hs0] at k0 hat0 hen HFI2
      rw [← hsL] at kL hatL hen HFI2
      rw [← hlL] at kM hatL hen HFI2
      have hlen0 : 1 ≤ (T.tr F 0).len := hat0.2.2.2.2.1
      have HCE := Lib.hid (fun W (hW : Below wR.heap.size wR W) => (show W.cell? ⟨bF, o0 + 2, none⟩ = some (.int .i64 s0) ∧ W.cell? ⟨bF, oL + 2, none⟩ = some (.int .i64 sL) ∧ W.cell? ⟨bF, oL + 3, none⟩ = some (.int .i64 lL) from
        ⟨(hW.cell (World.block_lt_of_cell? wR _ k0)).trans k0, (hW.cell (World.block_lt_of_cell? wR _ kL)).trans kL, (hW.cell (World.block_lt_of_cell? wR _ kM)).trans kM⟩))
      obtain ⟨eL, heL2⟩ : ∃ x, x = sL + lL := ⟨_, rfl⟩
      rw [← heL2] at HFI2 hen
      obtain ⟨dd, hdd⟩ : ∃ x, x = eL - s0 := ⟨_, rfl⟩
      obtain ⟨mx, hmx⟩ : ∃ x, x = max 0 lba := ⟨_, rfl⟩
      obtain ⟨rm, hrm⟩ : ∃ x, x = mx.tmod dd := ⟨_, rfl⟩
      obtain ⟨at0, hat⟩ : ∃ x, x = s0 + rm := ⟨_, rfl⟩
      have hd1 : 1 ≤ dd := by omega
      have hd2 : dd ≤ 449849 := by omega
      have hm0 : 0 ≤ mx := by omega
      have hrm0 : 0 ≤ rm ∧ rm < dd := by
        rw [hrm, Int.tmod_eq_emod_of_nonneg hm0]
        exact ⟨Int.emod_nonneg _ (by omega), Int.emod_lt_of_pos _ (by omega)⟩
      have HMX : Hid (max 0 lba = mx) := Lib.hid hmx.symm
      have HWN : Hid (IntKind.i64.wrap ((nF : Int) - 1) = (nF : Int) - 1) := Lib.hid (IntWalk.i64_in _ (by omega))
      have HWE : Hid (IntKind.i64.wrap (sL + lL) = eL) := Lib.hid (by rw [IntWalk.i64_in _ (by omega), heL2])
      have HWD : Hid (IntKind.i64.wrap (eL - s0) = dd) := Lib.hid (by rw [IntWalk.i64_in _ (by omega), hdd])
      have HWR : Hid (mx.tmod dd = rm) := Lib.hid hrm.symm
      have HD0 : Hid (dd ≠ 0) := Lib.hid (by omega)
      have HWA : Hid (IntKind.i64.wrap (s0 + rm) = at0) := Lib.hid (by rw [IntWalk.i64_in _ (by omega), hat])
      obtain ⟨⟨x0, x1, x2, x3, x4, x5, x6, x7, x8⟩, t, bb, e1, e2, hcase, hfind⟩ := HFI2.out at0 (by omega) (by omega)
      have HP := Lib.hid (fun W (hW : W10.RdK W (.slice (some ⟨bF, oF, none⟩) nF vc) F) => (show Calls Tryz.prog 11 #[.slice (some ⟨bF, oF, none⟩) nF vc, .int .i64 4, .int .i64 at0] W fun e w' => e = .returned (.tuple #[.agg #[.int .i64 x0, .int .i64 x1, .int .i64 x2, .int .i64 x3, .int .i64 x4, .int .i64 x5, .int .i64 x6, .int .i64 x7, .int .i64 x8], .int .i64 0]) ∧ Below W.heap.size W w' from by
        have hq := HPR.out _ at0 W hW
        rw [e1] at hq
        exact hq))
      have HEC := Lib.hid (fun W => (show Calls Tryz.prog 12 #[.agg #[.int .i64 x0, .int .i64 x1, .int .i64 x2, .int .i64 x3, .int .i64 x4, .int .i64 x5, .int .i64 x6, .int .i64 x7, .int .i64 x8]] W fun e w' => e = .returned (.tuple #[.string (str (encL ⟨x0, x1, x2, x3, x4, x5, x6, x7, x8⟩)), .int .i64 0]) ∧ Below W.heap.size W w' from by
        have hq := W10.enc_any ⟨x0, x1, x2, x3, x4, x5, x6, x7, x8⟩ W
        have e3 : W10.encS ⟨x0, x1, x2, x3, x4, x5, x6, x7, x8⟩ = encL ⟨x0, x1, x2, x3, x4, x5, x6, x7, x8⟩ := if_pos e2
        have e4 : W10.encC ⟨x0, x1, x2, x3, x4, x5, x6, x7, x8⟩ = 0 := if_pos e2
        rw [e3, e4] at hq
        exact hq))
      have HDC := Lib.hid (fun W => (show Calls Tryz.prog 13 #[.string (str (encL ⟨x0, x1, x2, x3, x4, x5, x6, x7, x8⟩))] W fun e w' => e = .returned (.tuple #[.agg #[.int .i64 x0, .int .i64 x1, .int .i64 x2, .int .i64 x3, .int .i64 x4, .int .i64 x5, .int .i64 x6, .int .i64 x7, .int .i64 x8], .int .i64 0]) ∧ Below W.heap.size W w' from by
        have hq := W10.dec_any (encL ⟨x0, x1, x2, x3, x4, x5, x6, x7, x8⟩) W (by rw [encL_length]; omega)
        rw [dec_enc e2] at hq
        exact hq))
      have hes := str_size (encL ⟨x0, x1, x2, x3, x4, x5, x6, x7, x8⟩)
      rw [encL_length] at hes
      have HFD := Lib.hid hfind
      generalize str (encL ⟨x0, x1, x2, x3, x4, x5, x6, x7, x8⟩) = ES at *
      have hes2 : ES.data.size = 12 := hes
      have HCS := Lib.hid hcase
      clear hofl2 hfind hcase e1 e2 hmx hrm hat hdd heL heL2 hs0 hsL hlL hlen0 hat0 hatL hen k0 kL kM hr0 hrL hcF hf6 hb6 hi0 hiL hd1 hd2 hm0 hrm0 HFI HFI2 HPR HEN HEL HSS HLI HE4 HEQ HX4 HX5 HR4 HR5 HF4 HF5 HA4 HA5 HXr HRr HFr HAr
      go_upto_region 18 with (fail)
      obtain ⟨cF, hcF⟩ : ∃ x, x = vc := ⟨_, rfl⟩
      subst hcF
      refine wp_region_inr (by kernel_rfl) (fun w W => Below w.heap.size w W) (fun W => Below wR.heap.size wR W) (prgV bF oF nF cF o0 oL s0 sL lL eL dd rm at0 lba mx) (fun _ => false) (by kernel_rfl) (fun _ _ hR hc => hc.trans (hR.mono hc.size)) (prgV_keep bF oF nF cF o0 oL s0 sL lL eL dd rm at0 lba mx) ((Below.refl _ _).drew) ⟨?_, ?_, ?_, ?_, ?_, ?_, ?_, ?_, ?_, ?_, ?_, ?_, ?_, ?_, ?_, ?_, ?_, ?_, ?_, ?_, ?_, ?_, ?_, ?_, ?_, ?_, ?_, ?_, ?_, trivial⟩ ?_
      · intro a W hc hsz hold hdep
        have o9 : a.tmps.getD 9 undef = .slice (some ⟨bF, oF, none⟩) nF cF := hold 9 (by kernel_rfl)
        clear hsz hold hdep
        refine stepR_do rfl (wanted_none rfl) ?_
        refine stepR_val (v := .slice (some ⟨bF, oF, none⟩) nF cF) (Below.refl _ _) rfl fun K hK => ?_
        go_simp
        exact hK
      · intro a W hc hsz hold hdep
        have d0 : a.tmps.getD 89 undef = .slice (some ⟨bF, oF, none⟩) nF cF := hdep 0 (by kernel_rfl) rfl _ rfl
        have q := HI0.out
        clear hsz hold hdep
        refine stepR_do rfl (wanted_none rfl) ?_
        refine stepR_val (v := .pointer (some ⟨bF, o0, none⟩)) (Below.refl _ _) rfl fun K hK => ?_
        go_simp
        exact hK
      · intro a W hc hsz hold hdep
        have d1 : a.tmps.getD 90 undef = .pointer (some ⟨bF, o0, none⟩) := hdep 1 (by kernel_rfl) rfl _ rfl
        clear hsz hold hdep
        refine stepR_do rfl (wanted_none rfl) ?_
        refine stepR_val (v := .pointer (some ⟨bF, o0 + 2, none⟩)) (Below.refl _ _) rfl fun K hK => ?_
        go_simp
        exact hK
      · intro a W hc hsz hold hdep
        have d2 : a.tmps.getD 91 undef = .pointer (some ⟨bF, o0 + 2, none⟩) := hdep 2 (by kernel_rfl) rfl _ rfl
        have q := (HCE.out W hc).1
        clear hsz hold hdep
        refine stepR_do rfl (wanted_none rfl) ?_
        refine stepR_val (v := .int .i64 s0) (Below.refl _ _) rfl fun K hK => ?_
        go_simp
        exact hK
      · intro a W hc hsz hold hdep
        have o3 : a.tmps.getD 3 undef = .int .i64 lba := hold 3 (by kernel_rfl)
        clear hsz hold hdep
        refine stepR_do rfl (wanted_none rfl) ?_
        refine stepR_val (v := .int .i64 lba) (Below.refl _ _) rfl fun K hK => ?_
        go_simp
        exact hK
      · intro a W hc hsz hold hdep
        have d4 : a.tmps.getD 93 undef = .int .i64 lba := hdep 4 (by kernel_rfl) rfl _ rfl
        have e4 : a.tmps[93]?.getD undef = .int .i64 lba := by rw [← Array.getD_eq_getD_getElem?]; exact d4
        have q := HMX.out
        clear hsz hold hdep
        refine stepR_do rfl (wanted_none rfl) ?_
        refine stepR_val (v := .int .i64 mx) (Below.refl _ _) rfl fun K hK => ?_
        go_simp
        exact hK
      · intro a W hc hsz hold hdep
        have o9 : a.tmps.getD 9 undef = .slice (some ⟨bF, oF, none⟩) nF cF := hold 9 (by kernel_rfl)
        clear hsz hold hdep
        refine stepR_do rfl (wanted_none rfl) ?_
        refine stepR_val (v := .slice (some ⟨bF, oF, none⟩) nF cF) (Below.refl _ _) rfl fun K hK => ?_
        go_simp
        exact hK
      · intro a W hc hsz hold hdep
        have o9 : a.tmps.getD 9 undef = .slice (some ⟨bF, oF, none⟩) nF cF := hold 9 (by kernel_rfl)
        clear hsz hold hdep
        refine stepR_do rfl (wanted_none rfl) ?_
        refine stepR_val (v := .slice (some ⟨bF, oF, none⟩) nF cF) (Below.refl _ _) rfl fun K hK => ?_
        go_simp
        exact hK
      · intro a W hc hsz hold hdep
        have d7 : a.tmps.getD 96 undef = .slice (some ⟨bF, oF, none⟩) nF cF := hdep 7 (by kernel_rfl) rfl _ rfl
        have e7 : a.tmps[96]?.getD undef = .slice (some ⟨bF, oF, none⟩) nF cF := by rw [← Array.getD_eq_getD_getElem?]; exact d7
        clear hsz hold hdep
        refine stepR_do rfl (wanted_none rfl) ?_
        refine stepR_val (v := .int .i64 (nF : Nat)) (Below.refl _ _) rfl fun K hK => ?_
        go_simp
        exact hK
      · intro a W hc hsz hold hdep
        have d8 : a.tmps.getD 97 undef = .int .i64 (nF : Nat) := hdep 8 (by kernel_rfl) rfl _ rfl
        have q := HWN.out
        clear hsz hold hdep
        refine stepR_do rfl (wanted_none rfl) ?_
        refine stepR_val (v := .int .i64 ((nF : Int) - 1)) (Below.refl _ _) rfl fun K hK => ?_
        go_simp
        exact hK
      · intro a W hc hsz hold hdep
        have d6 : a.tmps.getD 95 undef = .slice (some ⟨bF, oF, none⟩) nF cF := hdep 6 (by kernel_rfl) rfl _ rfl
        have d9 : a.tmps.getD 98 undef = .int .i64 ((nF : Int) - 1) := hdep 9 (by kernel_rfl) rfl _ rfl
        have q := HIL.out
        clear hsz hold hdep
        refine stepR_do rfl (wanted_none rfl) ?_
        refine stepR_val (v := .pointer (some ⟨bF, oL, none⟩)) (Below.refl _ _) rfl fun K hK => ?_
        go_simp
        exact hK
      · intro a W hc hsz hold hdep
        have d10 : a.tmps.getD 99 undef = .pointer (some ⟨bF, oL, none⟩) := hdep 10 (by kernel_rfl) rfl _ rfl
        clear hsz hold hdep
        refine stepR_do rfl (wanted_none rfl) ?_
        refine stepR_val (v := .pointer (some ⟨bF, oL + 2, none⟩)) (Below.refl _ _) rfl fun K hK => ?_
        go_simp
        exact hK
      · intro a W hc hsz hold hdep
        have d11 : a.tmps.getD 100 undef = .pointer (some ⟨bF, oL + 2, none⟩) := hdep 11 (by kernel_rfl) rfl _ rfl
        have q := (HCE.out W hc).2.1
        clear hsz hold hdep
        refine stepR_do rfl (wanted_none rfl) ?_
        refine stepR_val (v := .int .i64 sL) (Below.refl _ _) rfl fun K hK => ?_
        go_simp
        exact hK
      · intro a W hc hsz hold hdep
        have o9 : a.tmps.getD 9 undef = .slice (some ⟨bF, oF, none⟩) nF cF := hold 9 (by kernel_rfl)
        clear hsz hold hdep
        refine stepR_do rfl (wanted_none rfl) ?_
        refine stepR_val (v := .slice (some ⟨bF, oF, none⟩) nF cF) (Below.refl _ _) rfl fun K hK => ?_
        go_simp
        exact hK
      · intro a W hc hsz hold hdep
        have o9 : a.tmps.getD 9 undef = .slice (some ⟨bF, oF, none⟩) nF cF := hold 9 (by kernel_rfl)
        clear hsz hold hdep
        refine stepR_do rfl (wanted_none rfl) ?_
        refine stepR_val (v := .slice (some ⟨bF, oF, none⟩) nF cF) (Below.refl _ _) rfl fun K hK => ?_
        go_simp
        exact hK
      · intro a W hc hsz hold hdep
        have d14 : a.tmps.getD 103 undef = .slice (some ⟨bF, oF, none⟩) nF cF := hdep 14 (by kernel_rfl) rfl _ rfl
        have e14 : a.tmps[103]?.getD undef = .slice (some ⟨bF, oF, none⟩) nF cF := by rw [← Array.getD_eq_getD_getElem?]; exact d14
        clear hsz hold hdep
        refine stepR_do rfl (wanted_none rfl) ?_
        refine stepR_val (v := .int .i64 (nF : Nat)) (Below.refl _ _) rfl fun K hK => ?_
        go_simp
        exact hK
      · intro a W hc hsz hold hdep
        have d15 : a.tmps.getD 104 undef = .int .i64 (nF : Nat) := hdep 15 (by kernel_rfl) rfl _ rfl
        have q := HWN.out
        clear hsz hold hdep
        refine stepR_do rfl (wanted_none rfl) ?_
        refine stepR_val (v := .int .i64 ((nF : Int) - 1)) (Below.refl _ _) rfl fun K hK => ?_
        go_simp
        exact hK
      · intro a W hc hsz hold hdep
        have d13 : a.tmps.getD 102 undef = .slice (some ⟨bF, oF, none⟩) nF cF := hdep 13 (by kernel_rfl) rfl _ rfl
        have d16 : a.tmps.getD 105 undef = .int .i64 ((nF : Int) - 1) := hdep 16 (by kernel_rfl) rfl _ rfl
        have q := HIL.out
        clear hsz hold hdep
        refine stepR_do rfl (wanted_none rfl) ?_
        refine stepR_val (v := .pointer (some ⟨bF, oL, none⟩)) (Below.refl _ _) rfl fun K hK => ?_
        go_simp
        exact hK
      · intro a W hc hsz hold hdep
        have d17 : a.tmps.getD 106 undef = .pointer (some ⟨bF, oL, none⟩) := hdep 17 (by kernel_rfl) rfl _ rfl
        clear hsz hold hdep
        refine stepR_do rfl (wanted_none rfl) ?_
        refine stepR_val (v := .pointer (some ⟨bF, oL + 3, none⟩)) (Below.refl _ _) rfl fun K hK => ?_
        go_simp
        exact hK
      · intro a W hc hsz hold hdep
        have d18 : a.tmps.getD 107 undef = .pointer (some ⟨bF, oL + 3, none⟩) := hdep 18 (by kernel_rfl) rfl _ rfl
        have q := (HCE.out W hc).2.2
        clear hsz hold hdep
        refine stepR_do rfl (wanted_none rfl) ?_
        refine stepR_val (v := .int .i64 lL) (Below.refl _ _) rfl fun K hK => ?_
        go_simp
        exact hK
      · intro a W hc hsz hold hdep
        have d12 : a.tmps.getD 101 undef = .int .i64 sL := hdep 12 (by kernel_rfl) rfl _ rfl
        have d19 : a.tmps.getD 108 undef = .int .i64 lL := hdep 19 (by kernel_rfl) rfl _ rfl
        have q := HWE.out
        clear hsz hold hdep
        refine stepR_do rfl (wanted_none rfl) ?_
        refine stepR_val (v := .int .i64 eL) (Below.refl _ _) rfl fun K hK => ?_
        go_simp
        exact hK
      · intro a W hc hsz hold hdep
        have o9 : a.tmps.getD 9 undef = .slice (some ⟨bF, oF, none⟩) nF cF := hold 9 (by kernel_rfl)
        clear hsz hold hdep
        refine stepR_do rfl (wanted_none rfl) ?_
        refine stepR_val (v := .slice (some ⟨bF, oF, none⟩) nF cF) (Below.refl _ _) rfl fun K hK => ?_
        go_simp
        exact hK
      · intro a W hc hsz hold hdep
        have d21 : a.tmps.getD 110 undef = .slice (some ⟨bF, oF, none⟩) nF cF := hdep 21 (by kernel_rfl) rfl _ rfl
        have q := HI0.out
        clear hsz hold hdep
        refine stepR_do rfl (wanted_none rfl) ?_
        refine stepR_val (v := .pointer (some ⟨bF, o0, none⟩)) (Below.refl _ _) rfl fun K hK => ?_
        go_simp
        exact hK
      · intro a W hc hsz hold hdep
        have d22 : a.tmps.getD 111 undef = .pointer (some ⟨bF, o0, none⟩) := hdep 22 (by kernel_rfl) rfl _ rfl
        clear hsz hold hdep
        refine stepR_do rfl (wanted_none rfl) ?_
        refine stepR_val (v := .pointer (some ⟨bF, o0 + 2, none⟩)) (Below.refl _ _) rfl fun K hK => ?_
        go_simp
        exact hK
      · intro a W hc hsz hold hdep
        have d23 : a.tmps.getD 112 undef = .pointer (some ⟨bF, o0 + 2, none⟩) := hdep 23 (by kernel_rfl) rfl _ rfl
        have q := (HCE.out W hc).1
        clear hsz hold hdep
        refine stepR_do rfl (wanted_none rfl) ?_
        refine stepR_val (v := .int .i64 s0) (Below.refl _ _) rfl fun K hK => ?_
        go_simp
        exact hK
      · intro a W hc hsz hold hdep
        have d20 : a.tmps.getD 109 undef = .int .i64 eL := hdep 20 (by kernel_rfl) rfl _ rfl
        have d24 : a.tmps.getD 113 undef = .int .i64 s0 := hdep 24 (by kernel_rfl) rfl _ rfl
        have q := HWD.out
        clear hsz hold hdep
        refine stepR_do rfl (wanted_none rfl) ?_
        refine stepR_val (v := .int .i64 dd) (Below.refl _ _) rfl fun K hK => ?_
        go_simp
        exact hK
      · intro a W hc hsz hold hdep
        have d5 : a.tmps.getD 94 undef = .int .i64 mx := hdep 5 (by kernel_rfl) rfl _ rfl
        have d25 : a.tmps.getD 114 undef = .int .i64 dd := hdep 25 (by kernel_rfl) rfl _ rfl
        have q := HWR.out
        have q2 := HD0.out
        clear hsz hold hdep
        refine stepR_do rfl (wanted_none rfl) ?_
        refine stepR_val (v := .int .i64 rm) (Below.refl _ _) rfl fun K hK => ?_
        go_simp
        exact hK
      · intro a W hc hsz hold hdep
        have d3 : a.tmps.getD 92 undef = .int .i64 s0 := hdep 3 (by kernel_rfl) rfl _ rfl
        have d26 : a.tmps.getD 115 undef = .int .i64 rm := hdep 26 (by kernel_rfl) rfl _ rfl
        have q := HWA.out
        clear hsz hold hdep
        refine stepR_do rfl (wanted_none rfl) ?_
        refine stepR_val (v := .int .i64 at0) (Below.refl _ _) rfl fun K hK => ?_
        go_simp
        exact hK
      · intro a W hc hsz hold hdep
        have d27 : a.tmps.getD 116 undef = .int .i64 at0 := hdep 27 (by kernel_rfl) rfl _ rfl
        clear hsz hold hdep
        refine stepR_do rfl (wanted_none rfl) ?_
        refine stepR_val (v := .int .i64 at0) (Below.refl _ _) rfl fun K hK => ?_
        go_simp
        exact hK
      · intro a W hC hd hsz hold hval
        have d0 : a.tmps.getD 0 undef = .int .i64 cap := hold 0 (by kernel_rfl)
        have d2 : a.tmps.getD 2 undef = .int .i64 s := hold 2 (by kernel_rfl)
        have d3 : a.tmps.getD 3 undef = .int .i64 lba := hold 3 (by kernel_rfl)
        have d5 : a.tmps.getD 5 undef = .pointer (some ⟨g, 0, none⟩) := hold 5 (by kernel_rfl)
        have d9 : a.tmps.getD 9 undef = .slice (some ⟨bF, oF, none⟩) nF cF := hold 9 (by kernel_rfl)
        have d16 : a.tmps.getD 16 undef = .int .i64 at0 := hval 28 _ rfl rfl
        clear hold
        obtain ⟨tm, df⟩ := a
        replace hd : df = [] := hd
        replace hsz : tm.size = 176 := hsz
        replace d0 : tm.getD 0 undef = .int .i64 cap := d0
        replace d2 : tm.getD 2 undef = .int .i64 s := d2
        replace d3 : tm.getD 3 undef = .int .i64 lba := d3
        replace d5 : tm.getD 5 undef = .pointer (some ⟨g, 0, none⟩) := d5
        replace d9 : tm.getD 9 undef = .slice (some ⟨bF, oF, none⟩) nF cF := d9
        replace d16 : tm.getD 16 undef = .int .i64 at0 := d16
        subst hd
        have e : tm = List.toArray (tm.getD 0 undef :: tm.getD 1 undef :: tm.getD 2 undef :: tm.getD 3 undef :: tm.getD 4 undef :: tm.getD 5 undef :: tm.getD 6 undef :: tm.getD 7 undef :: tm.getD 8 undef :: tm.getD 9 undef :: tm.getD 10 undef :: tm.getD 11 undef :: tm.getD 12 undef :: tm.getD 13 undef :: tm.getD 14 undef :: tm.getD 15 undef :: tm.getD 16 undef :: tm.getD 17 undef :: tm.getD 18 undef :: tm.getD 19 undef :: tm.getD 20 undef :: tm.getD 21 undef :: tm.getD 22 undef :: tm.getD 23 undef :: tm.getD 24 undef :: tm.getD 25 undef :: tm.getD 26 undef :: tm.getD 27 undef :: tm.getD 28 undef :: tm.getD 29 undef :: tm.getD 30 undef :: tm.getD 31 undef :: tm.getD 32 undef :: tm.getD 33 undef :: tm.getD 34 undef :: tm.getD 35 undef :: tm.getD 36 undef :: tm.getD 37 undef :: tm.getD 38 undef :: tm.getD 39 undef :: tm.getD 40 undef :: tm.getD 41 undef :: tm.getD 42 undef :: tm.getD 43 undef :: tm.getD 44 undef :: tm.getD 45 undef :: tm.getD 46 undef :: tm.getD 47 undef :: tm.getD 48 undef :: tm.getD 49 undef :: tm.getD 50 undef :: tm.getD 51 undef :: tm.getD 52 undef :: tm.getD 53 undef :: tm.getD 54 undef :: tm.getD 55 undef :: tm.getD 56 undef :: tm.getD 57 undef :: tm.getD 58 undef :: tm.getD 59 undef :: tm.getD 60 undef :: tm.getD 61 undef :: tm.getD 62 undef :: tm.getD 63 undef :: tm.getD 64 undef :: tm.getD 65 undef :: tm.getD 66 undef :: tm.getD 67 undef :: tm.getD 68 undef :: tm.getD 69 undef :: tm.getD 70 undef :: tm.getD 71 undef :: tm.getD 72 undef :: tm.getD 73 undef :: tm.getD 74 undef :: tm.getD 75 undef :: tm.getD 76 undef :: tm.getD 77 undef :: tm.getD 78 undef :: tm.getD 79 undef :: tm.getD 80 undef :: tm.getD 81 undef :: tm.getD 82 undef :: tm.getD 83 undef :: tm.getD 84 undef :: tm.getD 85 undef :: tm.getD 86 undef :: tm.getD 87 undef :: tm.getD 88 undef :: tm.getD 89 undef :: tm.getD 90 undef :: tm.getD 91 undef :: tm.getD 92 undef :: tm.getD 93 undef :: tm.getD 94 undef :: tm.getD 95 undef :: tm.getD 96 undef :: tm.getD 97 undef :: tm.getD 98 undef :: tm.getD 99 undef :: tm.getD 100 undef :: tm.getD 101 undef :: tm.getD 102 undef :: tm.getD 103 undef :: tm.getD 104 undef :: tm.getD 105 undef :: tm.getD 106 undef :: tm.getD 107 undef :: tm.getD 108 undef :: tm.getD 109 undef :: tm.getD 110 undef :: tm.getD 111 undef :: tm.getD 112 undef :: tm.getD 113 undef :: tm.getD 114 undef :: tm.getD 115 undef :: tm.getD 116 undef :: tm.getD 117 undef :: tm.getD 118 undef :: tm.getD 119 undef :: tm.getD 120 undef :: tm.getD 121 undef :: tm.getD 122 undef :: tm.getD 123 undef :: tm.getD 124 undef :: tm.getD 125 undef :: tm.getD 126 undef :: tm.getD 127 undef :: tm.getD 128 undef :: tm.getD 129 undef :: tm.getD 130 undef :: tm.getD 131 undef :: tm.getD 132 undef :: tm.getD 133 undef :: tm.getD 134 undef :: tm.getD 135 undef :: tm.getD 136 undef :: tm.getD 137 undef :: tm.getD 138 undef :: tm.getD 139 undef :: tm.getD 140 undef :: tm.getD 141 undef :: tm.getD 142 undef :: tm.getD 143 undef :: tm.getD 144 undef :: tm.getD 145 undef :: tm.getD 146 undef :: tm.getD 147 undef :: tm.getD 148 undef :: tm.getD 149 undef :: tm.getD 150 undef :: tm.getD 151 undef :: tm.getD 152 undef :: tm.getD 153 undef :: tm.getD 154 undef :: tm.getD 155 undef :: tm.getD 156 undef :: tm.getD 157 undef :: tm.getD 158 undef :: tm.getD 159 undef :: tm.getD 160 undef :: tm.getD 161 undef :: tm.getD 162 undef :: tm.getD 163 undef :: tm.getD 164 undef :: tm.getD 165 undef :: tm.getD 166 undef :: tm.getD 167 undef :: tm.getD 168 undef :: tm.getD 169 undef :: tm.getD 170 undef :: tm.getD 171 undef :: tm.getD 172 undef :: tm.getD 173 undef :: tm.getD 174 undef :: tm.getD 175 undef :: []) := arr_eq tm 176 hsz
        rw [d0, d2, d3, d5, d9, d16] at e
        clear d0 d2 d3 d5 d9 d16 hsz
        generalize tm.getD 1 undef = v1 at e
        generalize tm.getD 4 undef = v4 at e
        generalize tm.getD 6 undef = v6 at e
        generalize tm.getD 7 undef = v7 at e
        generalize tm.getD 8 undef = v8 at e
        generalize tm.getD 10 undef = v10 at e
        generalize tm.getD 11 undef = v11 at e
        generalize tm.getD 12 undef = v12 at e
        generalize tm.getD 13 undef = v13 at e
        generalize tm.getD 14 undef = v14 at e
        generalize tm.getD 15 undef = v15 at e
        generalize tm.getD 17 undef = v17 at e
        generalize tm.getD 18 undef = v18 at e
        generalize tm.getD 19 undef = v19 at e
        generalize tm.getD 20 undef = v20 at e
        generalize tm.getD 21 undef = v21 at e
        generalize tm.getD 22 undef = v22 at e
        generalize tm.getD 23 undef = v23 at e
        generalize tm.getD 24 undef = v24 at e
        generalize tm.getD 25 undef = v25 at e
        generalize tm.getD 26 undef = v26 at e
        generalize tm.getD 27 undef = v27 at e
        generalize tm.getD 28 undef = v28 at e
        generalize tm.getD 29 undef = v29 at e
        generalize tm.getD 30 undef = v30 at e
        generalize tm.getD 31 undef = v31 at e
        generalize tm.getD 32 undef = v32 at e
        generalize tm.getD 33 undef = v33 at e
        generalize tm.getD 34 undef = v34 at e
        generalize tm.getD 35 undef = v35 at e
        generalize tm.getD 36 undef = v36 at e
        generalize tm.getD 37 undef = v37 at e
        generalize tm.getD 38 undef = v38 at e
        generalize tm.getD 39 undef = v39 at e
        generalize tm.getD 40 undef = v40 at e
        generalize tm.getD 41 undef = v41 at e
        generalize tm.getD 42 undef = v42 at e
        generalize tm.getD 43 undef = v43 at e
        generalize tm.getD 44 undef = v44 at e
        generalize tm.getD 45 undef = v45 at e
        generalize tm.getD 46 undef = v46 at e
        generalize tm.getD 47 undef = v47 at e
        generalize tm.getD 48 undef = v48 at e
        generalize tm.getD 49 undef = v49 at e
        generalize tm.getD 50 undef = v50 at e
        generalize tm.getD 51 undef = v51 at e
        generalize tm.getD 52 undef = v52 at e
        generalize tm.getD 53 undef = v53 at e
        generalize tm.getD 54 undef = v54 at e
        generalize tm.getD 55 undef = v55 at e
        generalize tm.getD 56 undef = v56 at e
        generalize tm.getD 57 undef = v57 at e
        generalize tm.getD 58 undef = v58 at e
        generalize tm.getD 59 undef = v59 at e
        generalize tm.getD 60 undef = v60 at e
        generalize tm.getD 61 undef = v61 at e
        generalize tm.getD 62 undef = v62 at e
        generalize tm.getD 63 undef = v63 at e
        generalize tm.getD 64 undef = v64 at e
        generalize tm.getD 65 undef = v65 at e
        generalize tm.getD 66 undef = v66 at e
        generalize tm.getD 67 undef = v67 at e
        generalize tm.getD 68 undef = v68 at e
        generalize tm.getD 69 undef = v69 at e
        generalize tm.getD 70 undef = v70 at e
        generalize tm.getD 71 undef = v71 at e
        generalize tm.getD 72 undef = v72 at e
        generalize tm.getD 73 undef = v73 at e
        generalize tm.getD 74 undef = v74 at e
        generalize tm.getD 75 undef = v75 at e
        generalize tm.getD 76 undef = v76 at e
        generalize tm.getD 77 undef = v77 at e
        generalize tm.getD 78 undef = v78 at e
        generalize tm.getD 79 undef = v79 at e
        generalize tm.getD 80 undef = v80 at e
        generalize tm.getD 81 undef = v81 at e
        generalize tm.getD 82 undef = v82 at e
        generalize tm.getD 83 undef = v83 at e
        generalize tm.getD 84 undef = v84 at e
        generalize tm.getD 85 undef = v85 at e
        generalize tm.getD 86 undef = v86 at e
        generalize tm.getD 87 undef = v87 at e
        generalize tm.getD 88 undef = v88 at e
        generalize tm.getD 89 undef = v89 at e
        generalize tm.getD 90 undef = v90 at e
        generalize tm.getD 91 undef = v91 at e
        generalize tm.getD 92 undef = v92 at e
        generalize tm.getD 93 undef = v93 at e
        generalize tm.getD 94 undef = v94 at e
        generalize tm.getD 95 undef = v95 at e
        generalize tm.getD 96 undef = v96 at e
        generalize tm.getD 97 undef = v97 at e
        generalize tm.getD 98 undef = v98 at e
        generalize tm.getD 99 undef = v99 at e
        generalize tm.getD 100 undef = v100 at e
        generalize tm.getD 101 undef = v101 at e
        generalize tm.getD 102 undef = v102 at e
        generalize tm.getD 103 undef = v103 at e
        generalize tm.getD 104 undef = v104 at e
        generalize tm.getD 105 undef = v105 at e
        generalize tm.getD 106 undef = v106 at e
        generalize tm.getD 107 undef = v107 at e
        generalize tm.getD 108 undef = v108 at e
        generalize tm.getD 109 undef = v109 at e
        generalize tm.getD 110 undef = v110 at e
        generalize tm.getD 111 undef = v111 at e
        generalize tm.getD 112 undef = v112 at e
        generalize tm.getD 113 undef = v113 at e
        generalize tm.getD 114 undef = v114 at e
        generalize tm.getD 115 undef = v115 at e
        generalize tm.getD 116 undef = v116 at e
        generalize tm.getD 117 undef = v117 at e
        generalize tm.getD 118 undef = v118 at e
        generalize tm.getD 119 undef = v119 at e
        generalize tm.getD 120 undef = v120 at e
        generalize tm.getD 121 undef = v121 at e
        generalize tm.getD 122 undef = v122 at e
        generalize tm.getD 123 undef = v123 at e
        generalize tm.getD 124 undef = v124 at e
        generalize tm.getD 125 undef = v125 at e
        generalize tm.getD 126 undef = v126 at e
        generalize tm.getD 127 undef = v127 at e
        generalize tm.getD 128 undef = v128 at e
        generalize tm.getD 129 undef = v129 at e
        generalize tm.getD 130 undef = v130 at e
        generalize tm.getD 131 undef = v131 at e
        generalize tm.getD 132 undef = v132 at e
        generalize tm.getD 133 undef = v133 at e
        generalize tm.getD 134 undef = v134 at e
        generalize tm.getD 135 undef = v135 at e
        generalize tm.getD 136 undef = v136 at e
        generalize tm.getD 137 undef = v137 at e
        generalize tm.getD 138 undef = v138 at e
        generalize tm.getD 139 undef = v139 at e
        generalize tm.getD 140 undef = v140 at e
        generalize tm.getD 141 undef = v141 at e
        generalize tm.getD 142 undef = v142 at e
        generalize tm.getD 143 undef = v143 at e
        generalize tm.getD 144 undef = v144 at e
        generalize tm.getD 145 undef = v145 at e
        generalize tm.getD 146 undef = v146 at e
        generalize tm.getD 147 undef = v147 at e
        generalize tm.getD 148 undef = v148 at e
        generalize tm.getD 149 undef = v149 at e
        generalize tm.getD 150 undef = v150 at e
        generalize tm.getD 151 undef = v151 at e
        generalize tm.getD 152 undef = v152 at e
        generalize tm.getD 153 undef = v153 at e
        generalize tm.getD 154 undef = v154 at e
        generalize tm.getD 155 undef = v155 at e
        generalize tm.getD 156 undef = v156 at e
        generalize tm.getD 157 undef = v157 at e
        generalize tm.getD 158 undef = v158 at e
        generalize tm.getD 159 undef = v159 at e
        generalize tm.getD 160 undef = v160 at e
        generalize tm.getD 161 undef = v161 at e
        generalize tm.getD 162 undef = v162 at e
        generalize tm.getD 163 undef = v163 at e
        generalize tm.getD 164 undef = v164 at e
        generalize tm.getD 165 undef = v165 at e
        generalize tm.getD 166 undef = v166 at e
        generalize tm.getD 167 undef = v167 at e
        generalize tm.getD 168 undef = v168 at e
        generalize tm.getD 169 undef = v169 at e
        generalize tm.getD 170 undef = v170 at e
        generalize tm.getD 171 undef = v171 at e
        generalize tm.getD 172 undef = v172 at e
        generalize tm.getD 173 undef = v173 at e
        generalize tm.getD 174 undef = v174 at e
        generalize tm.getD 175 undef = v175 at e
        subst e
        have HX7 := Lib.hid (HX6.out.call hC)
        have HR7 := Lib.hid (RdK.keep HR6.out hC)
        have HF7 := Lib.hid (RdK.keep HF6.out hC)
        have HA7 := Lib.hid (HA6.out.trans (hC.mono HA6.out.size))
        clear hval hC
        go_wp2_with fail
        refine (HP.out W HF7.out).mono ?_
        rintro e w7 ⟨rfl, hb7⟩
        obtain ⟨b8, hb8⟩ : ∃ x, x = w7.heap.size := ⟨_, rfl⟩
        obtain ⟨w8, hw8⟩ : ∃ x, x = w7.alloc (.cells #[.int .i64 x0, .int .i64 x1, .int .i64 x2, .int .i64 x3, .int .i64 x4, .int .i64 x5, .int .i64 x6, .int .i64 x7, .int .i64 x8] 38) := ⟨_, rfl⟩
        have hA := (Below.refl w7.heap.size w7).alloc (Nat.le_refl _) (.cells #[.int .i64 x0, .int .i64 x1, .int .i64 x2, .int .i64 x3, .int .i64 x4, .int .i64 x5, .int .i64 x6, .int .i64 x7, .int .i64 x8] 38)
        rw [← hw8] at hA
        have hx : Bx w8 b8 38 [.int .i64 x0, .int .i64 x1, .int .i64 x2, .int .i64 x3, .int .i64 x4, .int .i64 x5, .int .i64 x6, .int .i64 x7, .int .i64 x8] := by rw [hw8, hb8]; exact Bx.new w7 _ _
        have hbb := hb7.trans (hA.mono hb7.size)
        have HXb8 := Lib.hid hx
        have HWw8 : Hid (w7.alloc (.cells #[.int .i64 x0, .int .i64 x1, .int .i64 x2, .int .i64 x3, .int .i64 x4, .int .i64 x5, .int .i64 x6, .int .i64 x7, .int .i64 x8] 38) = w8) := Lib.hid hw8.symm
        have HHb8 := Lib.hid hb8
        have HX8 := Lib.hid (HX7.out.call hbb)
        have HR8 := Lib.hid (RdK.keep HR7.out hbb)
        have HA8 := Lib.hid (HA7.out.trans (hbb.mono HA7.out.size))
        clear hb7 hA hx hbb hw8 hb8
        go_upto_region 20 with (fail)
        rw [HWw8.out, ← HHb8.out]
        have p0 := HXb8.out.cell (i := 0) rfl
        have p1 := HXb8.out.cell (i := 1) rfl
        have p2 := HXb8.out.cell (i := 2) rfl
        have p3 := HXb8.out.cell (i := 3) rfl
        have p4 := HXb8.out.cell (i := 4) rfl
        have p5 := HXb8.out.cell (i := 5) rfl
        have p6 := HXb8.out.cell (i := 6) rfl
        have p7 := HXb8.out.cell (i := 7) rfl
        have p8 := HXb8.out.cell (i := 8) rfl
        go_wp2_with fail
        refine (HEC.out w8).mono ?_
        rintro e w9 ⟨rfl, hb9⟩
        have HX9 := Lib.hid (HX8.out.call hb9)
        have HR9 := Lib.hid (RdK.keep HR8.out hb9)
        have HA9 := Lib.hid (HA8.out.trans (hb9.mono HA8.out.size))
        have HP9 := Lib.hid (HXb8.out.call hb9)
        clear hb9 p0 p1 p2 p3 p4 p5 p6 p7 p8
        go_wp2_with fail
        refine (HDC.out w9).mono ?_
        rintro e wa ⟨rfl, hba⟩
        obtain ⟨bb8, hbb8⟩ : ∃ x, x = wa.heap.size := ⟨_, rfl⟩
        obtain ⟨wb, hwb⟩ : ∃ x, x = wa.alloc (.cells #[.int .i64 x0, .int .i64 x1, .int .i64 x2, .int .i64 x3, .int .i64 x4, .int .i64 x5, .int .i64 x6, .int .i64 x7, .int .i64 x8] 38) := ⟨_, rfl⟩
        have hA := (Below.refl wa.heap.size wa).alloc (Nat.le_refl _) (.cells #[.int .i64 x0, .int .i64 x1, .int .i64 x2, .int .i64 x3, .int .i64 x4, .int .i64 x5, .int .i64 x6, .int .i64 x7, .int .i64 x8] 38)
        rw [← hwb] at hA
        have hx : Bx wb bb8 38 [.int .i64 x0, .int .i64 x1, .int .i64 x2, .int .i64 x3, .int .i64 x4, .int .i64 x5, .int .i64 x6, .int .i64 x7, .int .i64 x8] := by rw [hwb, hbb8]; exact Bx.new wa _ _
        have hbb := hba.trans (hA.mono hba.size)
        have HXbb8 := Lib.hid hx
        have HWwb : Hid (wa.alloc (.cells #[.int .i64 x0, .int .i64 x1, .int .i64 x2, .int .i64 x3, .int .i64 x4, .int .i64 x5, .int .i64 x6, .int .i64 x7, .int .i64 x8] 38) = wb) := Lib.hid hwb.symm
        have HHbb8 := Lib.hid hbb8
        have HXc := Lib.hid (HX9.out.call hbb)
        have HRc := Lib.hid (RdK.keep HR9.out hbb)
        have HAc := Lib.hid (HA9.out.trans (hbb.mono HA9.out.size))
        have HPc := Lib.hid (HP9.out.call hbb)
        clear hba hA hx hbb hwb hbb8
        go_upto_region 22 with (fail)
        rw [HWwb.out, ← HHbb8.out]
        have q0 := HXc.out.cell (i := 0) rfl
        have q1 := HXc.out.cell (i := 1) rfl
        have q2 := HXc.out.cell (i := 2) rfl
        go_wp2_with fail
        refine (HFD.out _ wb HRc.out).mono ?_
        rintro e wd ⟨rfl, hbd⟩
        have HPd := Lib.hid (HPc.out.call hbd)
        have HQd := Lib.hid (HXbb8.out.call hbd)
        have HAd := Lib.hid (HAc.out.trans (hbd.mono HAc.out.size))
        clear hbd q0 q1 q2
        have p0 := HPd.out.cell (i := 0) rfl
        have r0 := HQd.out.cell (i := 0) rfl
        have p1 := HPd.out.cell (i := 1) rfl
        have r1 := HQd.out.cell (i := 1) rfl
        have p2 := HPd.out.cell (i := 2) rfl
        have r2 := HQd.out.cell (i := 2) rfl
        have p3 := HPd.out.cell (i := 3) rfl
        have r3 := HQd.out.cell (i := 3) rfl
        have p4 := HPd.out.cell (i := 4) rfl
        have r4 := HQd.out.cell (i := 4) rfl
        have p5 := HPd.out.cell (i := 5) rfl
        have r5 := HQd.out.cell (i := 5) rfl
        have p6 := HPd.out.cell (i := 6) rfl
        have r6 := HQd.out.cell (i := 6) rfl
        have p7 := HPd.out.cell (i := 7) rfl
        have r7 := HQd.out.cell (i := 7) rfl
        have p8 := HPd.out.cell (i := 8) rfl
        have r8 := HQd.out.cell (i := 8) rfl
        rcases HCS.out with ⟨c1, c2, c3⟩ | ⟨c1, c2⟩
        · replace c2 : x2 = 1 := c2
          replace c3 : t = x1 := c3
          subst c1 c2 c3
          clear HCS
          go_wp2_with fail
          go_ret
          exact ⟨rfl, HAd.out⟩
        · replace c2 : x2 = 0 := c2
          subst c1 c2
          clear HCS
          go_wp2_with fail
          go_ret
          exact ⟨rfl, HAd.out⟩
theorem programs_law (w : World) (cap : Int) (hc : (Lit.int .i64 cap).wf = true) (v : Value) (t : Tb) (h : CameToc w v t) (s : Int) (hs : (Lit.int .i64 s).wf = true) (lba : Int) (hl : (Lit.int .i64 lba).wf = true) :
    Calls Tryz.prog 3 #[.int .i64 cap, v, .int .i64 s, .int .i64 lba] w fun e w' => e = .returned (.bool true) ∧ Below w.heap.size w w' := by
  obtain ⟨rfl, hcl, hr, hn, hf⟩ := h
  have hl' : In64 lba := by
    simp [Lit.wf, IntKind.min, IntKind.max, IntKind.signed, IntKind.bits] at hl
    unfold In64
    omega
  by_cases h99 : 99 < t.l.length
  · exact prg_many cap t.cl s lba t.fin t.sv t.l w hr hn h99
  · by_cases hv : T.validR cap t.cl t.fin t.l ∧ 1 ≤ s ∧ s ≤ t.cl
    · exact prg_ok cap t.cl s lba t.fin t.sv t.l w hr (by omega) hf hv.1 hv.2.1 hv.2.2 hl'
    · exact prg_bad cap t.cl s lba t.fin t.sv t.l w hr (by omega) hf hv
end Go.Proofs.YtflmjdjkfognjaaGreat.T7
