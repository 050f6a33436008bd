/- The law 'masterdisc/masterdisclaw14.TocSessions' returns true for every input, and leaves its arguments as they were. -/
import Derived.Test.YtiioojlihapdaaaLib
import Derived.WalkKit
import Derived.ProofKit
import Derived.OpenShut
import Derived.ShutString
import Derived.ChangeOld
import Derived.Below
import Derived.Test.YtiioojlihapdaaaTkR
import Derived.Test.YtiioojlihapdaaaTkD
import Derived.Test.YtiioojlihapdaaaOwn
import Derived.Test.YtiioojlihapdaaaTocLead
import Derived.Deep.Cut
import Derived.IntWalk
import Derived.Outline
import Derived.Test.YtiioojlihapdaaaTkE
import Derived.Test.YtiioojlihapdaaaTkStep
import Derived.Test.YtiioojlihapdaaaQen
import Derived.Test.YtiioojlihapdaaaQco
import Derived.Test.YtiioojlihapdaaaTkKp
import Derived.Test.YtiioojlihapdaaaQcw
import Derived.Deep.CutBlock
import Derived.Deep.DeepCutAuto
import Derived.Test.YtiioojlihapdaaaRows
/- Arguments as they come in: opened. -/
namespace Go.Proofs.Ytiioojlihapdaaa
open Go.ChangeShapes Go.WideShapes Go.ChangeAt Go.RowKit
set_option linter.unusedVariables false

/-- a slice of bytes that came in -/
def Came (w : World) (v : Value) (l : List UInt8) : Prop :=
  (l.length ≤ 140737488351232 → Rd w v l) ∧ l.length ≤ 9223372036854775807 ∧ ∃ a c, v = .slice a l.length c

section
variable {H : Type} {enc : TypeId × Value → H} {P : Program} {w : World} {base b0 : Nat} {held : Bool}
theorem open_bytes {t e : TypeId} {v : Value} {d : DataW H} {ps : List MemPlace} {r : Reach} (ht : P.underlying t = some (.slice e)) (he : P.underlying e = some (.int .u8)) (hc : P.cellsOf e = 1)
    (hval : Value.okWide P w r b0 t v) (hd : DataW.Trod enc P w base (fun _ => true) held t v d ps) : ∃ l : List UInt8, Came w v l := by
  obtain ⟨a, len, cap, rfl⟩ := okWide_slice ht hval
  obtain ⟨fuel, hf⟩ := hd
  rcases open_ints ht he hc hf with ⟨hcs, _⟩ | ⟨x, l, c, zs, hcs, _, hl, hm, hz, _, hcell, hwz⟩
  · simp [Value.cells] at hcs
    obtain ⟨rfl, rfl, rfl⟩ := hcs
    exact ⟨[], fun _ => Rd.nil w, by simp, none, 0, rfl⟩
  · simp [Value.cells] at hcs
    obtain ⟨rfl, rfl, rfl⟩ := hcs
    have hz' : zs.length = cap := by simpa using hz
    have hL : ((zs.take len).map fun n => UInt8.ofNat n.toNat).length = len := by simp; omega
    unfold maxLen at hm
    refine ⟨(zs.take len).map fun n => UInt8.ofNat n.toNat, fun hb => ?_, by rw [hL]; omega, some x, cap, by rw [hL]⟩
    refine ⟨hb, ?_⟩
    rw [hL]
    by_cases h0 : len = 0
    · subst h0
      exact ⟨_, cap, 0, 0, rfl, hl, fun i hi => by omega⟩
    · obtain ⟨b, off, rfl, hcc⟩ := ints_at hcell (by omega)
      refine ⟨_, cap, b, off, rfl, hl, fun i hi => ⟨rfl, ?_⟩⟩
      rw [hcc i (by omega)]
      have hi' : i < zs.length := by omega
      have hw := hwz (zs[i]) (List.getElem_mem hi')
      have hbd : 0 ≤ zs[i] ∧ zs[i] ≤ 255 := by simpa [Lit.wf, IntKind.min, IntKind.max, IntKind.signed, IntKind.bits] using hw
      have e1 : zs.getD i 0 = zs[i] := by simp [hi']
      have e2 : G.ix ((zs.take len).map fun n => UInt8.ofNat n.toNat) i = UInt8.ofNat zs[i].toNat := by
        simp [G.ix, hi, hi']
      rw [e1, e2, B, G.toNat_of (by omega)]
      congr 2
      omega
end
theorem bd_u8 {a : Int} (h : (Lit.int .u8 a).wf = true) : 0 ≤ a ∧ a ≤ 255 := by simpa [Lit.wf, IntKind.min, IntKind.max, IntKind.signed, IntKind.bits] using h
theorem bd_i64 {a : Int} (h : (Lit.int .i64 a).wf = true) : -9223372036854775808 ≤ a ∧ a ≤ 9223372036854775807 := by simpa [Lit.wf, IntKind.min, IntKind.max, IntKind.signed, IntKind.bits] using h
theorem nat_u8 {a : Int} (h : (Lit.int .u8 a).wf = true) : ∃ n : Nat, a = n ∧ n < 256 := by
  have := bd_u8 h
  exact ⟨a.toNat, by omega, by omega⟩
theorem byte_u8 {a : Int} (h : (Lit.int .u8 a).wf = true) : ∃ c : UInt8, a = c.toNat := by
  obtain ⟨n, rfl, hn⟩ := nat_u8 h
  exact ⟨UInt8.ofNat n, by rw [G.toNat_of hn]⟩
end Go.Proofs.Ytiioojlihapdaaa
/- The tracks of a session (chapter 14) walked; the lead-in. -/
namespace Go.Proofs.Ytiioojlihapdaaa
open Go.RowKit
set_option linter.unusedVariables false

/-- a list of tracks is returned -/
def TrsP (F : List T.Trk) (w : World) (e : Ending) (w' : World) : Prop := ∃ v, e = .returned v ∧ RdK w' v F ∧ Below w.heap.size w w'
theorem tcs_one' (x : T.Trk) : ∀ u ∈ tcs x, u.oneCell' = true := by
  intro u hu
  simp only [tcs, List.mem_cons, List.not_mem_nil, or_false] at hu
  rcases hu with rfl | rfl | rfl | rfl | rfl | rfl | rfl <;> rfl
set_option maxRecDepth 100000 in
set_option maxHeartbeats 2000000 in
theorem tracks_any (cl : Int) (fin : Bool) (sv : Value) (l : List T.Trk) (s : Int) (w : World) (hr : RdK w sv l) (hn : l.length ≤ 110) :
    Calls Try.prog 39 #[tval cl fin sv, .int .i64 s] w (TrsP (T.of l s l.length) w) := by
  obtain ⟨a, c, b, off, rfl, hac, hcell⟩ := hr
  have HC := Lib.hid hcell; clear hcell
  go_enter Try.func39, Try.ntmps39
  go_wp2_with fail
  have hb0 := (Below.refl w.heap.size w).alloc (Nat.le_refl _) (.cells #[.int .i64 cl, .bool fin, .slice a l.length c] 24)
  generalize w.alloc (.cells #[.int .i64 cl, .bool fin, .slice a l.length c] 24) = w0 at hb0 ⊢
  obtain ⟨B, hB⟩ : ∃ B, B = w.heap.size := ⟨_, rfl⟩
  have HB := Lib.hid hB
  rw [← hB] at hb0
  clear hB
  go_loopw [5, 11] (fun vo vi wr => ∃ (k : Nat), k ≤ l.length ∧ vi = .int .i64 k ∧ wr.ownsRow B 40 7 vo (T.of l s k).length (flD tcs (T.of l s k)) ∧ Below B w wr) (fun _ vi _ => l.length - (intOf vi).toNat)
  case atStart => exact ⟨0, by omega, rfl, ⟨rfl, .inl ⟨rfl, rfl⟩⟩, hb0⟩
  case round =>
    clear hb0
    obtain ⟨k, hk, rfl, hown, hb⟩ := hrel
    obtain ⟨va, vc, rfl⟩ := ownD_form hown
    have hwr : B ≤ wr.heap.size := Nat.le_trans (Nat.le_of_eq HB.out) hb.size
    by_cases hlt : k < l.length
    · obtain ⟨ha, hrange⟩ := HC.out k hlt
      have hrg : wr.rangeAt b (off + k * 7) (tcs (T.tr l k)) := fun j u hu => (hb.cell (p := ⟨b, off + k * 7 + j, none⟩) (by rw [HB.out]; exact World.block_lt_of_cell? w _ (hrange j u hu))).trans (hrange j u hu)
      clear hrange
      have hix := fun w' => run_idxS Try.underlying22 Try.sizeTrack (cap := c) ha hlt (k : Int) rfl w'
      have HNew : Hid ((T.tr l k).ses = s → T.of l s (k + 1) = T.of l s k ++ [T.tr l k]) := Lib.hid T.of_new
      have HOld : Hid ((T.tr l k).ses ≠ s → T.of l s (k + 1) = T.of l s k) := Lib.hid T.of_old
      have hlen := T.of_len l s k
      generalize T.tr l k = x at hrg HNew HOld
      generalize T.of l s k = F at hown HNew HOld hlen
      obtain ⟨hc0, hc1, hc2, hc3, hc4, hc5, hc6⟩ := rd7 hrg
      have Ha := Lib.hid ha; clear ha hrg
      have Hown := Lib.hid hown; clear hown
      go_upto_region 5 with (fail)
      have hX : Bx (wr.alloc (tobj x)) wr.heap.size 40 (tcs x) := Bx.new _ _ _
      have hal := (Below.refl wr.heap.size wr).alloc (Nat.le_refl _) (tobj x)
      have hb2 := hb.trans (hal.mono hwr)
      have Hown2 := Lib.hid (ownD_keep Hown.out hal)
      obtain ⟨gx, hgx⟩ : ∃ g, g = wr.heap.size := ⟨_, rfl⟩
      rw [← hgx] at hX
      simp only [← hgx]
      clear hgx hal hb Hown hc0 hc1 hc2 hc3 hc4 hc5 hc6 hix
      change Code.wp _ _ _ _ (wr.alloc (tobj x))
      generalize wr.alloc (tobj x) = w2 at hX hb2 Hown2 ⊢
      have hw2 : B ≤ w2.heap.size := Nat.le_trans (Nat.le_of_eq HB.out) hb2.size
      have hx0 := hX.cell (i := 0) rfl
      have hx1 := hX.cell (i := 1) rfl
      have hx2 := hX.cell (i := 2) rfl
      have hx3 := hX.cell (i := 3) rfl
      have hx4 := hX.cell (i := 4) rfl
      have hx5 := hX.cell (i := 5) rfl
      have hx6 := hX.cell (i := 6) rfl
      by_cases hs : x.ses = s
      · have HF := Lib.hid (HNew.out hs)
        have hd : (x.ses == s) = true := beq_iff_eq.2 hs
        clear hs HNew HOld
        have hal3 := (Below.refl w2.heap.size w2).alloc (Nat.le_refl _) (tobj x)
        have Hown3 := Lib.hid (ownD_keep Hown2.out hal3)
        have HB3 := Lib.hid (hb2.trans (hal3.mono hw2))
        clear hal3 hb2 Hown2 hX
        go_wp2_with (at_builtin; refine wpList_appD (d := T.z) (D := tcs) (l := F) (m := [x]) rfl _ _ rfl Try.underlying22 Try.infoTrack rfl (by omega) tcs_length tcs_one' Hown3.out rfl (RdD.one (by omega) tcs_length w2 40 x) rfl (by unfold maxLen; simp only [List.length_singleton]; omega) (by simp only [List.length_singleton]; omega) (by simp only [World.size_alloc]; omega) ?_; intro v4 w4 hown4 hg4)
        have hle4 := HB3.out.grown hg4 (by simp only [World.size_alloc]; have := HB.out; omega) (fun j hj => by have := ownD_block Hown3.out j hj; have := HB.out; omega)
        refine ⟨⟨k + 1, by omega, by go_num, ?_, hle4⟩, by simp [intOf]; omega⟩
        rw [HF.out, List.length_append]; exact hown4
      · have HF := Lib.hid (HOld.out hs)
        have hd : (x.ses == s) = false := beq_eq_false_iff_ne.2 hs
        clear hs HNew HOld
        go_wp2_with fail
        refine ⟨⟨k + 1, by omega, by go_num, ?_, hb2⟩, by simp [intOf]; omega⟩
        rw [HF.out]; exact Hown2.out
    · obtain rfl : k = l.length := by omega
      have hr8 : RdK wr (.slice va (T.of l s l.length).length vc) (T.of l s l.length) := by have := RdD.ofOwn (d := T.z) (l := T.of l s l.length) tcs_length hown; exact this
      rw [HB.out] at hb
      have HR := Lib.hid hr8; have HL := Lib.hid hb
      clear hown hr8 hb
      go_wp2_with fail
      go_ret
      exact ⟨_, rfl, HR.out, HL.out⟩
end Go.Proofs.Ytiioojlihapdaaa
/- The lead-in of a session of a valid table (chapter 14) walked. -/
namespace Go.Proofs.Ytiioojlihapdaaa
open Go.RowKit
set_option linter.unusedVariables false

theorem of_wf {cap cl : Int} {fin : Bool} {l : List T.Trk} (hv : T.validR cap cl fin l) (s : Int) : W10.WfL (T.of l s l.length) := by
  intro i hi
  obtain ⟨m, hm, he⟩ := T.of_mem _ (T.tr_mem hi)
  rw [he]
  have := (few_of_valid hv).2 m hm
  unfold smT sm at this
  unfold W10.WfT In64
  omega
set_option maxRecDepth 100000 in
set_option maxHeartbeats 4000000 in
theorem leadin_closed (cap cl : Int) (fin : Bool) (sv : Value) (l : List T.Trk) (j : Nat) (s : Int) (w : World) (hr : RdK w sv l) (hv : T.validR cap cl fin l) (hs : s = (j : Int) + 1) (hj : j < (T.sess cl l l.length).length) (hc : s ≤ cl) :
    Calls Try.prog 19 #[.int .i64 cap, tval cl fin sv, .int .i64 s, .int .i64 4] w (W10.EntP (Q.entL (T.of l s l.length) 4 (T.of l s l.length).length, 0) w) := by
  have hS : Q.Sess (T.of l s l.length) := by rw [hs]; exact T.sess_of hv hj
  have hent : Q.entR (T.of l s l.length) 4 = (Q.entL (T.of l s l.length) 4 (T.of l s l.length).length, 0) := by
    unfold Q.entR
    rw [if_neg (by rw [Q.sessB_true.2 hS]; decide)]
  have hn := hv.2.2.1
  have HTr := Lib.hid (fun W (hb : Below w.heap.size w W) => tracks_any cl fin sv l s W (hr.keep hb) (by omega))
  have HV := Lib.hid (fun W (hb : Below w.heap.size w W) => valid_any cap cl fin sv l W (hr.keep hb) (few_of_valid hv))
  have HE := Lib.hid (fun u W (h : W10.RdK W u (T.of l s l.length)) => W10.entries_any u (T.of l s l.length) 4 W h (by have := T.of_len l s l.length; omega) (of_wf hv s))
  rw [hent] at HE
  have hl1 := hS.1
  have hvB : T.validB cap cl fin l = true := decide_eq_true hv
  have HVB := Lib.hid hvB
  obtain ⟨a, c, rfl, hac⟩ := RdS.form hr
  generalize T.of l s l.length = F at *
  clear hr hv hs hj hS hent hvB
  have hd0 : ((F.length : Int) == 0) = false := beq_eq_false_iff_ne.2 (by omega)
  have hd1 : (F.length == 0) = false := beq_eq_false_iff_ne.2 (by omega)
  go_enter Try.func19, Try.ntmps19
  go_wp2_with fail
  have hb0 := (Below.refl w.heap.size w).alloc (Nat.le_refl _) (.cells #[.int .i64 cl, .bool fin, .slice a l.length c] 24)
  have HX := Lib.hid (Bx.new w 24 [.int .i64 cl, .bool fin, .slice a l.length c])
  have HL0 := Lib.hid hb0
  refine (HTr.out _ hb0).mono ?_
  rintro e w1 ⟨v1, rfl, hr1, hb1⟩
  have hX1 := HX.out.call hb1
  have hle1 := HL0.out.trans (hb1.mono HL0.out.size)
  obtain ⟨a1, c1, rfl, _⟩ := RdS.form hr1
  have Hr1 := Lib.hid hr1
  have q0 := hX1.cell (i := 0) rfl
  have q1 := hX1.cell (i := 1) rfl
  have q2 := hX1.cell (i := 2) rfl
  have HX1 := Lib.hid hX1
  clear hb1 hb0 HX HL0 hr1 hX1
  go_wp2_with fail
  refine (HV.out _ hle1).mono ?_
  rintro e w2 ⟨rfl, hb2⟩
  rw [HVB.out]
  have hX2 := HX1.out.call hb2
  have hle2 := hle1.trans (hb2.mono hle1.size)
  have Hr2 := Lib.hid (Hr1.out.keep hb2)
  have q0 := hX2.cell (i := 0) rfl
  have HX2 := Lib.hid hX2
  clear hb2 hle1 HX1 Hr1 hX2
  go_wp2_with fail
  refine (HE.out _ w2 Hr2.out).mono ?_
  rintro e w3 ⟨v3, rfl, hr3, hb3⟩
  have hle3 := hle2.trans (hb3.mono hle2.size)
  obtain ⟨a3, c3, rfl, _⟩ := RdD.form hr3
  have HR3 := Lib.hid hr3; have HL3 := Lib.hid hle3
  clear hb3 hle2 hr3 hle3
  go_wp2_with fail
  go_ret2
  exact ⟨_, rfl, HR3.out, HL3.out⟩
set_option maxRecDepth 100000 in
set_option maxHeartbeats 4000000 in
theorem leadin_open (cap cl : Int) (fin : Bool) (sv : Value) (l : List T.Trk) (j : Nat) (s : Int) (w : World) (hr : RdK w sv l) (hv : T.validR cap cl fin l) (hs : s = (j : Int) + 1) (hj : j < (T.sess cl l l.length).length) (hc : cl < s) :
    Calls Try.prog 19 #[.int .i64 cap, tval cl fin sv, .int .i64 s, .int .i64 4] w (fun e w' => ∃ v, e = .returned (.tuple #[v, .int .i64 8]) ∧ v = .slice none 0 0 ∧ Below w.heap.size w w') := by
  have hS : Q.Sess (T.of l s l.length) := by rw [hs]; exact T.sess_of hv hj
  have hn := hv.2.2.1
  have HTr := Lib.hid (fun W (hb : Below w.heap.size w W) => tracks_any cl fin sv l s W (hr.keep hb) (by omega))
  have HV := Lib.hid (fun W (hb : Below w.heap.size w W) => valid_any cap cl fin sv l W (hr.keep hb) (few_of_valid hv))
  have hl1 := hS.1
  have hvB : T.validB cap cl fin l = true := decide_eq_true hv
  have HVB := Lib.hid hvB
  obtain ⟨a, c, rfl, hac⟩ := RdS.form hr
  generalize T.of l s l.length = F at *
  clear hr hv hs hj hS hvB
  have hd0 : ((F.length : Int) == 0) = false := beq_eq_false_iff_ne.2 (by omega)
  have hd1 : (F.length == 0) = false := beq_eq_false_iff_ne.2 (by omega)
  go_enter Try.func19, Try.ntmps19
  go_wp2_with fail
  have hb0 := (Below.refl w.heap.size w).alloc (Nat.le_refl _) (.cells #[.int .i64 cl, .bool fin, .slice a l.length c] 24)
  have HX := Lib.hid (Bx.new w 24 [.int .i64 cl, .bool fin, .slice a l.length c])
  have HL0 := Lib.hid hb0
  refine (HTr.out _ hb0).mono ?_
  rintro e w1 ⟨v1, rfl, hr1, hb1⟩
  have hX1 := HX.out.call hb1
  have hle1 := HL0.out.trans (hb1.mono HL0.out.size)
  obtain ⟨a1, c1, rfl, _⟩ := RdS.form hr1
  have q0 := hX1.cell (i := 0) rfl
  have q1 := hX1.cell (i := 1) rfl
  have q2 := hX1.cell (i := 2) rfl
  have HX1 := Lib.hid hX1
  clear hb1 hb0 HX HL0 hr1 hX1
  go_wp2_with fail
  refine (HV.out _ hle1).mono ?_
  rintro e w2 ⟨rfl, hb2⟩
  rw [HVB.out]
  have hX2 := HX1.out.call hb2
  have hle2 := hle1.trans (hb2.mono hle1.size)
  have q0 := hX2.cell (i := 0) rfl
  have HL2 := Lib.hid hle2
  clear hb2 hle1 HX1 hX2 hle2
  go_wp2_with fail
  go_ret2
  exact ⟨_, rfl, rfl, HL2.out⟩
end Go.Proofs.Ytiioojlihapdaaa
/- The law TocSessions walked: it returns true. -/
namespace Go.Proofs.Ytiioojlihapdaaa
open Go.RowKit
set_option linter.unusedVariables false

theorem S1_at (cl : Int) (l : List T.Trk) (n j : Nat) : atD sez (T.sess cl l n) j = T.S1 cl l n j := rfl
/-- a session and the one before it, as they are read -/
structure SesAt (w : World) (b off : Nat) (S : List Ses) (j : Nat) : Prop where
  c0 : w.cell? ⟨b, off + j * 3, none⟩ = some (.int .i64 (atD sez S j).1)
  c1 : w.cell? ⟨b, off + j * 3 + 1, none⟩ = some (.int .i64 (atD sez S j).2.1)
  c2 : w.cell? ⟨b, off + j * 3 + 2, none⟩ = some (.bool (atD sez S j).2.2)
theorem sesAt {w : World} {a : Option Addr} {n c : Nat} {S : List Ses} (h : RdD sez scs 3 w (.slice a n c) S) : ∃ b off, ∀ i, i < S.length → a = some ⟨b, off, none⟩ ∧ SesAt w b off S i := by
  obtain ⟨b, off, h⟩ := RdD.at h
  exact ⟨b, off, fun i hi => ⟨(h i hi).1, (h i hi).2 0 _ rfl, (h i hi).2 1 _ rfl, (h i hi).2 2 _ rfl⟩⟩
set_option maxRecDepth 100000 in
set_option maxHeartbeats 8000000 in
theorem tsessions_ok (cap : Int) (l : List Ac) (av : Value) (w : World) (h1 : 1 ≤ cap) (h2 : cap ≤ 449849) (hr : RdA w av l) (hn : l.length ≤ 40) :
    Calls Try.prog 6 #[.int .i64 cap, av] w (RB true w) := by
  obtain ⟨⟨sa, sc, ab, ao, rfl, hac, hcell⟩, hwf⟩ := hr
  have HC := Lib.hid hcell; clear hcell
  have HWF := Lib.hid hwf; clear hwf
  go_enter Try.func6, Try.ntmps6
  go_wp2_with fail
  refine (awake_any _).mono ?_
  rintro e w1 ⟨rfl, hb1⟩
  go_wp2_with fail
  have hH0 : HoldT cap w1.heap.size 0 false (.slice none 0 0) [] (w1.alloc (.cells #[.int .i64 0, .bool false, .slice none 0 0] 24)) :=
    ⟨T.valid_nil h1 h2, Bx.new _ _ _, RdK.nil _⟩
  have hbw := hb1.alloc hb1.size (.cells #[.int .i64 0, .bool false, .slice none 0 0] 24)
  go_loopw [34] (fun vi wr => ∃ (k : Nat) (cl : Int) (fin : Bool) (sv : Value) (tl : List T.Trk), k ≤ l.length ∧ vi = .int .i64 k ∧ HoldT cap w1.heap.size cl fin sv tl wr ∧ Below w.heap.size w wr) (fun vi _ => l.length - (intOf vi).toNat)
  case atStart => exact ⟨0, 0, false, .slice none 0 0, [], by omega, rfl, hH0, hbw⟩
  case round =>
    clear hbw hH0
    obtain ⟨k, cl, fin, sv, tl, hk, rfl, hH, hb⟩ := hrel
    obtain ⟨wo, rfl⟩ : ∃ wo : World, wo = wr := ⟨_, rfl⟩
    obtain ⟨ta, tc, rfl, htac⟩ := RdS.form hH.rd
    by_cases hlt : k < l.length
    · obtain ⟨ha, hrange⟩ := HC.out k hlt
      obtain ⟨_, wfa, wfb⟩ := HWF.out k hlt
      have hrg : wo.rangeAt ab (ao + k * 4) (acs (ac l k)) := fun j u hu => (hb.cell (p := ⟨ab, ao + k * 4 + j, none⟩) (World.block_lt_of_cell? w _ (hrange j u hu))).trans (hrange j u hu)
      clear hrange
      generalize ac l k = x at hrg wfa wfb
      obtain ⟨xk, xa, xb, xf⟩ := x
      simp only at wfa wfb
      obtain ⟨hc0, hc1, hc2, hc3⟩ := rd4 hrg
      clear hrg
      have hix := fun w' => run_idxS Try.underlying35 Try.sizeAct (cap := sc) ha hlt _ rfl w'
      have Ha := Lib.hid ha; clear ha
      have ht0 := hH.box.cell (i := 0) rfl
      have ht1 := hH.box.cell (i := 1) rfl
      have ht2 := hH.box.cell (i := 2) rfl
      have hN := hH.box.lt
      simp only at hc0 hc1 hc2 hc3
      have hbA := (Below.refl wo.heap.size wo).alloc (Nat.le_refl _) (.cells #[.int .i64 xk, .int .i64 xa, .int .i64 xb, .bool xf] 26)
      go_wp2_with fail
      refine (do_any cap cl fin _ tl xk xa xb xf _ (RdK.keep hH.rd hbA) (few_of_valid hH.valid) wfa wfb).mono ?_
      have hD := doR_does hH.valid xk xa xb xf
      generalize doR cap cl fin tl xk xa xb xf = R at hD ⊢
      obtain ⟨rcl, rfin, rl, rcode⟩ := R
      rintro e w3 ⟨v3, rfl, hr3, hb3⟩
      obtain ⟨a3, c3, rfl, _⟩ := RdS.form hr3
      have hB3 := hbA.trans (hb3.mono hbA.size)
      have hH3 := hH.call hB3
      have hb3w := hb.trans (hB3.mono hb.size)
      simp only at hr3 hD ⊢
      clear hb3 hB3 hbA hc0 hc1 hc2 hc3 ht0 ht1 ht2 hH hb
      have HD := Lib.hid hD; clear hD
      by_cases he : rcode = 0
      · subst he
        have hV' := (HD.out.ok rfl).valid hH3.valid
        have hq0 := hH3.box.cell (i := 0) rfl
        have hq1 := hH3.box.cell (i := 1) rfl
        have hq2 := hH3.box.cell (i := 2) rfl
        have hqf := hH3.box.free
        have hql := hH3.box.lt
        have HH4 := Lib.hid ((hH3.put hV' hr3).call ((Below.refl _ _).alloc (Nat.le_refl _) (.cells #[.int .i64 rcl, .bool rfin, .slice a3 rl.length c3] 24)))
        have HB4 := Lib.hid ((((hb3w.setCell (p := ⟨w1.heap.size, 0, none⟩) hb1.size (.int .i64 rcl)).setCell (p := ⟨w1.heap.size, 1, none⟩) hb1.size (.bool rfin)).setCell (p := ⟨w1.heap.size, 2, none⟩) hb1.size (.slice a3 rl.length c3)).alloc (by have := hb3w.size; simpa using this) (.cells #[.int .i64 rcl, .bool rfin, .slice a3 rl.length c3] 24))
        clear hr3 hb3w hH3 hV' HD
        go_wp2_with fail
        refine ⟨⟨k + 1, rcl, rfin, _, rl, by omega, by go_num, HH4.out, HB4.out⟩, by simp [intOf]; omega⟩
      · have hc : (rcode == 0) = false := beq_eq_false_iff_ne.2 he
        have hbe := (Below.refl w3.heap.size w3).alloc (Nat.le_refl _) (.cells #[.int .i64 rcl, .bool rfin, .slice a3 rl.length c3] 24)
        have HH4 := Lib.hid (hH3.call hbe)
        have HB4 := Lib.hid (hb3w.trans (hbe.mono hb3w.size))
        clear he hr3 hb3w hH3 hbe HD
        go_wp2_with fail
        refine ⟨⟨k + 1, cl, fin, _, tl, by omega, by go_num, HH4.out, HB4.out⟩, by simp [intOf]; omega⟩
    · obtain rfl : k = l.length := by omega
      have HV := Lib.hid hH.valid
      have HHt := Lib.hid hH
      have HSe := Lib.hid (sessions_any cl fin _ tl wo hH.rd (few_of_valid hH.valid))
      have hcl : 0 ≤ cl ∧ cl ≤ 16 := ⟨hH.valid.2.2.2.1, hH.valid.2.2.2.2.1⟩
      have htn := hH.valid.2.2.1
      have hsl := sess_le cl tl tl.length
      have HMany := Lib.hid (T.sess_many hH.valid)
      have ht0 := hH.box.cell (i := 0) rfl
      have ht1 := hH.box.cell (i := 1) rfl
      have ht2 := hH.box.cell (i := 2) rfl
      clear hH
      go_wp2_with fail
      refine HSe.out.mono ?_
      rintro e w2 ⟨v2, rfl, hr2, hb2⟩
      have hH2 := HHt.out.call hb2
      have hle2 := hb.trans (hb2.mono hb.size)
      obtain ⟨a2, c2, rfl, _⟩ := RdD.form hr2
      have HH2 := Lib.hid hH2; have Hr2 := Lib.hid hr2
      clear hb2 hb hH2 hr2 ht0 ht1 ht2 HHt HSe
      obtain ⟨S, hS⟩ : ∃ S, S = T.sess cl tl tl.length := ⟨_, rfl⟩
      have HLead : Hid (∀ j, j < S.length → j < (T.sess cl tl tl.length).length ∧ atD sez S j = T.S1 cl tl tl.length j) := Lib.hid fun j hj => by rw [← hS]; exact ⟨hj, by rw [hS]; rfl⟩
      rw [← hS] at Hr2 hsl HMany
      simp only [← hS]
      clear hS
      go_wp2_with fail
      go_loopw [53] (fun vj wr => ∃ (j : Nat), j ≤ S.length ∧ vj = .int .i64 j ∧ Hid (HoldT cap w1.heap.size cl fin (.slice ta tl.length tc) tl wr) ∧ Hid (RdD sez scs 3 wr (.slice a2 S.length c2) S) ∧ Below w.heap.size w wr) (fun vj _ => S.length - (intOf vj).toNat)
      case atStart => exact ⟨0, by omega, rfl, HH2, Hr2, hle2⟩
      case round =>
        clear HH2 Hr2 hle2
        obtain ⟨j, hj, rfl, HH, Hr, hle⟩ := hrel
        by_cases hlt : j < S.length
        · obtain ⟨b5, off5, hses⟩ := sesAt Hr.out
          obtain ⟨ha5, hsj⟩ := hses j hlt
          obtain ⟨hj1, hat⟩ := HLead.out j hlt
          obtain ⟨L1, L2, L3, L4, L5, L6, L7, L8⟩ := T.lead HV.out hj1
          obtain ⟨y0, y1, y2⟩ := hsj
          rw [hat] at y0 y1 y2
          have HPrev : Hid (∀ m, j = m + 1 → SesAt wr b5 off5 S m ∧ atD sez S m = T.S1 cl tl tl.length m) := Lib.hid fun m e => ⟨(hses m (by omega)).2, (HLead.out m (by omega)).2⟩
          have hix := fun w' => run_idxS Try.underlying42 Try.sizeSes (cap := c2) ha5 hlt (j : Int) rfl w'
          have HL1 := Lib.hid L1; have HL2 := Lib.hid L2; have HL7 := Lib.hid L7; have HL8 := Lib.hid L8
          have Ha5 := Lib.hid ha5
          have hj40 : j < 99 := by omega
          clear hses hat L1 L2 L7 L8 ha5
          generalize hx : T.S1 cl tl tl.length j = x at *
          obtain ⟨st, cnt, bc⟩ := x
          have HX := Lib.hid hx
          simp only at y0 y1 y2 L3 L4 L5 L6
          subst L3
          clear hx
          replace HL1 : Hid (st = (T.tr (T.of tl ((j : Int) + 1) tl.length) 0).st) := HL1
          replace HL2 : Hid (st + cnt = Q.endL (T.of tl ((j : Int) + 1) tl.length)) := HL2
          replace HL7 : Hid (j = 0 → st = 0) := HL7
          replace HL8 : Hid (0 < j → st = (T.S1 cl tl tl.length (j - 1)).1 + (T.S1 cl tl tl.length (j - 1)).2.1 + 16) := HL8
          have hsum : IntKind.i64.wrap (st + cnt) = st + cnt := IntWalk.i64_in _ (by omega)
          have hn1 : IntKind.i64.wrap ((j : Int) + 1) = (j : Int) + 1 := IntWalk.i64_in _ (by omega)
          have hcmp1 : decide (cnt < 1) = false := decide_eq_false (by omega)
          have hcmp2 : decide (cap < st + cnt) = false := decide_eq_false (by omega)
          go_upto_region 17 with (fail)
          have hGx : Bx (wr.alloc (.cells #[.int .i64 st, .int .i64 cnt, .bool (decide ((j : Int) + 1 ≤ cl))] 46)) wr.heap.size 46 [.int .i64 st, .int .i64 cnt, .bool (decide ((j : Int) + 1 ≤ cl))] := Bx.new _ _ _
          have hal := (Below.refl wr.heap.size wr).alloc (Nat.le_refl _) (.cells #[.int .i64 st, .int .i64 cnt, .bool (decide ((j : Int) + 1 ≤ cl))] 46)
          have hle6 := hle.trans (hal.mono hle.size)
          have HH6 := Lib.hid (HH.out.call hal)
          have Hr6 := Lib.hid (RdD.keep Hr.out hal)
          obtain ⟨gx, hgx⟩ : ∃ g, g = wr.heap.size := ⟨_, rfl⟩
          rw [← hgx] at hGx
          simp only [← hgx]
          change Code.wp _ _ _ _ (wr.alloc (.cells #[.int .i64 st, .int .i64 cnt, .bool (decide ((j : Int) + 1 ≤ cl))] 46))
          clear hgx hal hle HH Hr y0 y1 y2 hix HPrev
          generalize wr.alloc (.cells #[.int .i64 st, .int .i64 cnt, .bool (decide ((j : Int) + 1 ≤ cl))] 46) = W at hGx hle6 HH6 Hr6 ⊢
          clear wr
          obtain ⟨b6, off6, hses⟩ := sesAt Hr6.out
          have g0 := hGx.cell (i := 0) rfl
          have g1 := hGx.cell (i := 1) rfl
          have g2 := hGx.cell (i := 2) rfl
          have t0 := HH6.out.box.cell (i := 0) rfl
          have HGx := Lib.hid hGx
          clear hGx
          go_cut [110] (fun v wx => v = .bool false ∧ ∃ n, wx = W.drewN n)
          case first =>
            by_cases hcl2 : (j : Int) + 1 ≤ cl
            · have e1 : decide ((j : Int) + 1 ≤ cl) = true := decide_eq_true (by omega)
              have e2 : decide ((j : Int) < cl) = true := decide_eq_true (by omega)
              rw [e1] at g2
              cases j with
              | zero =>
                have e3 : (st != 0) = false := by rw [HL7.out rfl]; rfl
                have e4 : (st == 0) = true := by rw [HL7.out rfl]; rfl
                have e5 : decide ((0 : Int) < cl) = true := decide_eq_true (by omega)
                clear hcl2 e1 hses
                go_quiet (fail)
                go_wp2_with fail
                go_meet
                case rel => exact ⟨rfl, _, rfl⟩
              | succ m =>
                obtain ⟨ha6, hm6⟩ := hses m (by omega)
                obtain ⟨z0, z1, z2⟩ := hm6
                rw [(HLead.out m (by omega)).2] at z0 z1 z2
                have hL8 := HL8.out (by omega)
                rw [show m + 1 - 1 = m by omega] at hL8
                obtain ⟨q1, q2, q3, L4, L5, L6, q7, q8⟩ := T.lead HV.out (HLead.out m (by omega)).1
                have hix := fun w' => run_idxS Try.underlying42 Try.sizeSes (cap := c2) ha6 (show m < S.length by omega) (m : Int) rfl w'
                clear q1 q2 q3 q7 q8
                generalize (T.S1 cl tl tl.length m).1 = st' at *
                generalize (T.S1 cl tl tl.length m).2.1 = cnt' at *
                have s1 : IntKind.i64.wrap (st' + cnt') = st' + cnt' := IntWalk.i64_in _ (by omega)
                have s2 : IntKind.i64.wrap (st' + cnt' + 16) = st := by rw [hL8]; exact IntWalk.i64_in _ (by omega)
                have s3 : (st != st) = false := by simp
                have s4 : st' + cnt' + 16 = st := hL8.symm
                have e3 : (((m + 1 : Nat) : Int) == 0) = false := beq_eq_false_iff_ne.2 (by omega)
                have e4 : decide (0 < ((m + 1 : Nat) : Int)) = true := decide_eq_true (by omega)
                have e5 : IntKind.i64.wrap (((m + 1 : Nat) : Int) - 1) = (m : Int) := by rw [show ((m + 1 : Nat) : Int) - 1 = (m : Int) by omega]; exact IntWalk.i64_in _ (by omega)
                have e6 : (((m : Int) + 1) == 0) = false := beq_eq_false_iff_ne.2 (by omega)
                have e7 : decide (0 < (m : Int) + 1) = true := decide_eq_true (by omega)
                have e8 : IntKind.i64.wrap ((m : Int) + 1 - 1) = (m : Int) := by rw [show (m : Int) + 1 - 1 = (m : Int) by omega]; exact IntWalk.i64_in _ (by omega)
                have e9 : decide ((m : Int) + 1 < cl) = true := decide_eq_true (by omega)
                have Ha6 := Lib.hid ha6
                clear hcl2 e1 hses hL8 ha6
                go_quiet (fail)
                go_wp2_with fail
                go_meet
                case rel => exact ⟨rfl, _, rfl⟩
            · have e1 : decide ((j : Int) + 1 ≤ cl) = false := decide_eq_false (by omega)
              have e2 : decide ((j : Int) < cl) = false := decide_eq_false (by omega)
              rw [e1] at g2
              cases j with
              | zero =>
                have e3 : (st != 0) = false := by rw [HL7.out rfl]; rfl
                have e4 : (st == 0) = true := by rw [HL7.out rfl]; rfl
                have e5 : decide ((0 : Int) < cl) = false := decide_eq_false (by omega)
                clear hcl2 e1 hses
                go_quiet (fail)
                go_wp2_with fail
                go_meet
                case rel => exact ⟨rfl, _, rfl⟩
              | succ m =>
                obtain ⟨ha6, hm6⟩ := hses m (by omega)
                obtain ⟨z0, z1, z2⟩ := hm6
                rw [(HLead.out m (by omega)).2] at z0 z1 z2
                have hL8 := HL8.out (by omega)
                rw [show m + 1 - 1 = m by omega] at hL8
                obtain ⟨q1, q2, q3, L4, L5, L6, q7, q8⟩ := T.lead HV.out (HLead.out m (by omega)).1
                have hix := fun w' => run_idxS Try.underlying42 Try.sizeSes (cap := c2) ha6 (show m < S.length by omega) (m : Int) rfl w'
                clear q1 q2 q3 q7 q8
                generalize (T.S1 cl tl tl.length m).1 = st' at *
                generalize (T.S1 cl tl tl.length m).2.1 = cnt' at *
                have s1 : IntKind.i64.wrap (st' + cnt') = st' + cnt' := IntWalk.i64_in _ (by omega)
                have s2 : IntKind.i64.wrap (st' + cnt' + 16) = st := by rw [hL8]; exact IntWalk.i64_in _ (by omega)
                have s3 : (st != st) = false := by simp
                have s4 : st' + cnt' + 16 = st := hL8.symm
                have e3 : (((m + 1 : Nat) : Int) == 0) = false := beq_eq_false_iff_ne.2 (by omega)
                have e4 : decide (0 < ((m + 1 : Nat) : Int)) = true := decide_eq_true (by omega)
                have e5 : IntKind.i64.wrap (((m + 1 : Nat) : Int) - 1) = (m : Int) := by rw [show ((m + 1 : Nat) : Int) - 1 = (m : Int) by omega]; exact IntWalk.i64_in _ (by omega)
                have e6 : (((m : Int) + 1) == 0) = false := beq_eq_false_iff_ne.2 (by omega)
                have e7 : decide (0 < (m : Int) + 1) = true := decide_eq_true (by omega)
                have e8 : IntKind.i64.wrap ((m : Int) + 1 - 1) = (m : Int) := by rw [show (m : Int) + 1 - 1 = (m : Int) by omega]; exact IntWalk.i64_in _ (by omega)
                have e9 : decide ((m : Int) + 1 < cl) = false := decide_eq_false (by omega)
                have Ha6 := Lib.hid ha6
                clear hcl2 e1 hses hL8 ha6
                go_quiet (fail)
                go_wp2_with fail
                go_meet
                case rel => exact ⟨rfl, _, rfl⟩
          obtain ⟨rfl, n6, hw6⟩ := hcut
          have HGy : Hid (Bx (W.drewN n6) gx 46 [.int .i64 st, .int .i64 cnt, .bool (decide ((j : Int) + 1 ≤ cl))]) := Lib.hid HGx.out
          have HH7 : Hid (HoldT cap w1.heap.size cl fin (.slice ta tl.length tc) tl (W.drewN n6)) := Lib.hid ⟨HH6.out.valid, HH6.out.box, HH6.out.rd⟩
          have Hr7 : Hid (RdD sez scs 3 (W.drewN n6) (.slice a2 S.length c2) S) := Lib.hid Hr6.out
          have hle7 := Go.Proofs.Ytiioojlihapdaaa.Below.drewN hle6 n6
          subst hw6
          clear HGx HH6 Hr6 hle6 g0 g1 g2 t0 hses hcmp1 hcmp2
          generalize W.drewN n6 = W7 at HGy HH7 Hr7 hle7 ⊢
          clear W
          have t0 := HH7.out.box.cell (i := 0) rfl
          have t1 := HH7.out.box.cell (i := 1) rfl
          have t2 := HH7.out.box.cell (i := 2) rfl
          by_cases hcl2 : (j : Int) + 1 ≤ cl
          · have e1 : decide ((j : Int) + 1 ≤ cl) = true := decide_eq_true hcl2
            have HS0 := Lib.hid (T.sess_of HV.out hj1)
            have HLI := Lib.hid (leadin_closed cap cl fin _ tl j ((j : Int) + 1) W7 HH7.out.rd HV.out rfl hj1 hcl2)
            rw [e1] at HGy
            have hCE := W10.col_ent (c := 4) HS0.out (by omega) (by omega)
            have hCw := W10.wf_ent (c := 4) HS0.out (by omega) (by omega)
            have hCl := Q.entL_length (T.of tl ((j : Int) + 1) tl.length) 4 (T.of tl ((j : Int) + 1) tl.length).length
            have hF1 := HS0.out.1
            have hF2 := HS0.out.2.1
            have HCo := Lib.hid (fun u W (h : W10.RdF W u (Q.entL (T.of tl ((j : Int) + 1) tl.length) 4 (T.of tl ((j : Int) + 1) tl.length).length)) => W10.col_any u _ W h (by rw [hCl]; omega) hCw)
            rw [hCE, ← HL2.out] at HCo
            generalize T.of tl ((j : Int) + 1) tl.length = F at *
            generalize Q.entL F 4 F.length = L at HLI HCo hCE hCw hCl
            clear e1 hcl2 hCE hCw hCl
            go_wp2_with fail
            refine HLI.out.mono ?_
            rintro e w8 ⟨v8, rfl, hr8, hb8⟩
            have HGz := Lib.hid (HGy.out.call hb8)
            have HH8 := Lib.hid (HH7.out.call hb8)
            have Hr8s := Lib.hid (RdD.keep Hr7.out hb8)
            have hle8 := hle7.trans (hb8.mono hle7.size)
            obtain ⟨a8, c8, rfl, _⟩ := RdD.form hr8
            have Hr8 := Lib.hid hr8
            have g0 := HGz.out.cell (i := 0) rfl
            have g1 := HGz.out.cell (i := 1) rfl
            have g2 := HGz.out.cell (i := 2) rfl
            clear hb8 hr8 HGy HH7 Hr7 hle7 t0 t1 t2 HLI
            go_wp2_with fail
            refine (HCo.out _ w8 Hr8.out).mono ?_
            rintro e w9 ⟨v9, rfl, hr9, hb9⟩
            have HGw := Lib.hid (HGz.out.call hb9)
            have HH9 := Lib.hid (HH8.out.call hb9)
            have Hr9s := Lib.hid (RdD.keep Hr8s.out hb9)
            have hle9 := hle8.trans (hb9.mono hle8.size)
            obtain ⟨a9, c9, rfl, _⟩ := RdD.form hr9
            obtain ⟨b9, off9, hst9⟩ := RdD.at hr9
            have hmap : ((List.range F.length).map fun i => (T.tr F i).st).length = F.length := by simp
            obtain ⟨ha9, hst0⟩ := hst9 0 (by rw [hmap]; omega)
            have hq9 := hst0 0 (.int .i64 (T.tr F 0).st) (by
              have : atD 0 ((List.range F.length).map fun i => (T.tr F i).st) 0 = (T.tr F 0).st := by unfold atD; rw [List.getElem?_map, List.getElem?_range (by omega)]; rfl
              rw [this]; rfl)
            simp only [Nat.zero_mul, Nat.add_zero] at hq9
            rw [← HL1.out] at hq9
            have g0 := HGw.out.cell (i := 0) rfl
            have g1 := HGw.out.cell (i := 1) rfl
            have hix9 := fun w' => run_idxS Try.underlying50 W10.Try.sizeInt (n := F.length) (cap := c9) ha9 (show 0 < F.length by omega) 0 rfl w'
            simp only [Nat.zero_mul, Nat.add_zero] at hix9
            have hd0 : ((F.length : Int) == 0) = false := beq_eq_false_iff_ne.2 (by omega)
            have hd1 : (F.length == 0) = false := beq_eq_false_iff_ne.2 (by omega)
            have hs9 : (st != st) = false := by simp
            have hs8 : (st + cnt != st + cnt) = false := by simp
            have Ha9 := Lib.hid ha9
            rw [hmap]
            clear hb9 hr9 HGz HH8 Hr8s hle8 hst9 hst0 ha9 g2
            go_upto_region 24 with (fail)
            go_quiet (fail)
            go_wp2_with fail
            refine ⟨⟨j + 1, by omega, by go_num, Lib.hid ⟨HH9.out.valid, HH9.out.box, HH9.out.rd⟩, Lib.hid Hr9s.out, Go.Proofs.Ytiioojlihapdaaa.Below.drewN hle9 _⟩, by simp [intOf]; omega⟩
          · have e1 : decide ((j : Int) + 1 ≤ cl) = false := decide_eq_false hcl2
            have HLI := Lib.hid (leadin_open cap cl fin _ tl j ((j : Int) + 1) W7 HH7.out.rd HV.out rfl hj1 (by omega))
            rw [e1] at HGy
            clear e1 hcl2
            go_wp2_with fail
            refine HLI.out.mono ?_
            rintro e w8 ⟨v8, rfl, rfl, hb8⟩
            have HGz := Lib.hid (HGy.out.call hb8)
            have HH8 := Lib.hid (HH7.out.call hb8)
            have Hr8s := Lib.hid (RdD.keep Hr7.out hb8)
            have hle8 := hle7.trans (hb8.mono hle7.size)
            have g2 := HGz.out.cell (i := 2) rfl
            clear hb8 HGy HH7 Hr7 hle7 t0 t1 t2 HLI
            go_wp2_with fail
            refine ⟨⟨j + 1, by omega, by go_num, HH8, Hr8s, hle8⟩, by simp [intOf]; omega⟩
        · obtain rfl : j = S.length := by omega
          have hd : decide (cl ≤ (S.length : Int)) = true := decide_eq_true HMany.out
          have q0 := HH.out.box.cell (i := 0) rfl
          go_wp2_with fail
          go_ret
          exact ⟨rfl, hle⟩
set_option maxRecDepth 100000 in
set_option maxHeartbeats 2000000 in
theorem tsessions_out (cap : Int) (l : List Ac) (sa : Option Addr) (sc : Nat) (w : World) (hn : l.length ≤ 9223372036854775807) (h : ¬ (1 ≤ cap ∧ cap ≤ 449849 ∧ l.length ≤ 40)) :
    Calls Try.prog 6 #[.int .i64 cap, .slice sa l.length sc] w (RB true w) := by
  by_cases h4 : l.length ≤ 40
  · by_cases h1 : 1 ≤ cap
    · have h2 : ¬ cap ≤ 449849 := fun h2 => h ⟨h1, h2, h4⟩
      clear h
      go_enter Try.func6, Try.ntmps6
      go_wp2_with fail
      refine (awake_any _).mono ?_
      rintro e w1 ⟨rfl, hb1⟩
      go_wp2_with fail
      go_ret
      exact ⟨rfl, hb1⟩
    · clear h
      go_enter Try.func6, Try.ntmps6
      go_wp2_with fail
      refine (awake_any _).mono ?_
      rintro e w1 ⟨rfl, hb1⟩
      go_wp2_with fail
      go_ret
      exact ⟨rfl, hb1⟩
  · clear h
    go_enter Try.func6, Try.ntmps6
    go_wp2_with fail
    refine (awake_any _).mono ?_
    rintro e w1 ⟨rfl, hb1⟩
    go_wp2_with fail
    go_ret
    exact ⟨rfl, hb1⟩

/-- the law -/
theorem tsessions_law (w : World) (cap : Int) (hc : (Lit.int .i64 cap).wf = true) (v : Value) (l : List Ac) (h : CameA w v l) :
    Calls Try.prog 6 #[.int .i64 cap, v] w fun e w' => e = .returned (.bool true) ∧ Below w.heap.size w w' := by
  obtain ⟨hr, hn⟩ := h
  by_cases hh : 1 ≤ cap ∧ cap ≤ 449849 ∧ l.length ≤ 40
  · exact tsessions_ok cap l v w hh.1 hh.2.1 hr hh.2.2
  · obtain ⟨sa, sc, rfl, _⟩ := RdS.form hr.1
    exact tsessions_out cap l sa sc w hn hh
end Go.Proofs.Ytiioojlihapdaaa
namespace Go.Proofs.Ytiioojlihapdaaa.tocSessions
open Go.ChangeShapes Go.WideShapes Go.ChangeAt Go.RowKit
open Go.ChangeMaps (open_string shut_string)
set_option linter.unusedVariables false
theorem own : ownKnob Try.prog.godebug = none := by kernel_rfl
theorem laidOut : laidOutB Try.prog = true := by kernel_rfl

set_option maxRecDepth 100000 in
set_option maxHeartbeats 1000000 in
theorem lifted (os : Os) (started : os.Started) (H : Type) (enc : TypeId × Value → H) :
    ReturnsInHanded {} Try.checked os 6 .any (Rows.tocSessionsSpec.pre6 enc Try.prog Try.f6 Rows.tocSessionsRow.domain false) (Rows.tocSessionsSpec.post enc Try.prog Try.f6 false true false false) := by
  refine returnsInHanded_of_change (C := Try.checked) own started (by kernel_rfl) Try.func6
    (ChangeSpec.witness6 (enc := enc) (C := Try.checked) false ⟨#[], #[.int .i64 0, .slice none 0 0], []⟩ 8 (by kernel_rfl) (by kernel_rfl) (by kernel_rfl) (by kernel_rfl)) ?_
  intro W base args ds gs before hval0 hW hcnd _
  have hval : ∀ (j : Nat) t v, Try.f6.params[j]? = some t → args[j]? = some v → Value.okWide Try.prog W .any base t v := hval0
  have hW' := hW
  obtain ⟨p, q, hA0, hV, rfl, hfz, hnd⟩ := hW
  have hA : DataW.TrodAll enc Try.prog W 0 (fun _ => true) true Try.f6.params.toList args.toList ds p := hA0
  rw [Try.params6] at hA hval
  obtain ⟨v0, vs0, d0, ds0, p0, q0, hargs, rfl, rfl, h0, r0⟩ := trodAll_cons hA
  obtain ⟨v1, vs1, d1, ds1, p1, q1, rfl, rfl, rfl, h1, r1⟩ := trodAll_cons r0
  obtain ⟨rfl, rfl, rfl⟩ := trodAll_nil r1
  obtain rfl : args = #[v0, v1] := by cases args; simp_all
  obtain ⟨rfl, rfl⟩ := trodVars_none hV
  have k0 := h0
  have lt0 : ∀ x ∈ p0, x.block < W.heap.size := by obtain ⟨m, hm⟩ := k0; exact DataW.trod_lt m _ _ _ hm
  obtain ⟨a0, rfl, _, _, w0⟩ := open_int Try.underlying3 (hval 0 3 v0 rfl rfl) h0
  have k1 := h1
  have lt1 : ∀ x ∈ p1, x.block < W.heap.size := by obtain ⟨m, hm⟩ := k1; exact DataW.trod_lt m _ _ _ hm
  obtain ⟨a1, w1⟩ := open_cacts (hval 1 35 v1 rfl rfl) h1
  refine (tsessions_law W a0 w0 v1 a1 w1).mono fun e W' ⟨he, bel⟩ => ?_
  subst he
  exact ⟨_, rfl, _, _, _, [], _, [], hW', trodAll_mk1 (shut_bool Try.underlying4 _), (trodAll_cons_mk (Below.trod laidOut (by kernel_rfl) (of_decide_eq_true (by kernel_rfl)) k0 bel lt0) (trodAll_cons_mk (Below.trod laidOut (by kernel_rfl) (of_decide_eq_true (by kernel_rfl)) k1 bel lt1) trodAll_mk0)), rfl, bel.frame _, fun h => by cases h⟩

theorem over : Rows.tocSessionsRow.holds Try.pinned (OpenSpec.ofChange Rows.tocSessionsSpec) :=
  OpenClaim.holds_of_wide 6 Try.f6 rfl rfl rfl rfl rfl rfl rfl ⟨rfl, rfl, rfl, rfl, rfl⟩ rfl rfl rfl rfl rfl (by kernel_rfl) Try.func6 (by kernel_rfl)
    (of_decide_eq_true (by kernel_rfl)) (by unfold Func.isWrapper; first | (rw [if_pos (by decide +kernel)]; kernel_rfl) | (rw [if_neg (by decide +kernel)]; exact ⟨rfl, rfl⟩))
    (fun os started H enc _ => lifted os started H enc)

/-- The statement. -/
theorem proved : Rows.TocSessionsSaid := over
end Go.Proofs.Ytiioojlihapdaaa.tocSessions
