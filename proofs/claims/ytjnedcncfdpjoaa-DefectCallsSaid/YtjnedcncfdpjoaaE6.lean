/- Chapter 13: Block walked. -/
import Derived.Test.YtjnedcncfdpjoaaE5
namespace Go.Proofs.Ytjnedcncfdpjoaa.D13
open Go.RowKit Go.Maps
set_option linter.unusedVariables false

def blkR (T : Tab) (x : Int) : Int × Bool := match T.blk x with
  | some b => (b, true)
  | none => (0, false)
/-- it returns 'v' and writes nothing that was there -/
def RetB (v : Value) (w : World) (e : Ending) (w' : World) : Prop := e = .returned v ∧ Below w.heap.size w w'
set_option maxRecDepth 100000 in
set_option maxHeartbeats 2000000 in
theorem block_spare {w : World} {g gm : Nat} {vp : Value} {T : Tab} (h : TabW w g gm vp T) (x : Int) (hx : In64 x) (hge : (T.first : Int) ≤ x) :
    Calls Try.prog 14 #[.pointer (some ⟨g, 0, none⟩), .int .i64 x] w (RetB (.tuple #[.int .i64 (blkR T x).1, .bool (blkR T x).2]) w) := by
  have HF := Lib.hid (first_any h)
  have HT := Lib.hid h
  have HFW := Lib.hid (fun W hW => first_any (w := W) (g := g) (gm := gm) (vp := vp) (T := T) hW)
  obtain ⟨D, hown, hf⟩ := h.map
  have HD := Lib.hid hf
  have HO := Lib.hid hown
  have hfi : T.first ≤ 5000 := by have := h.ok.pl; have := h.ok.b2; unfold Tab.first; omega
  obtain ⟨c0, c1, c2, c3, c4⟩ := h.cells
  have hd : decide ((T.first : Int) ≤ x) = true := decide_eq_true hge
  clear h hown hf
  go_enter Try.func14, Try.ntmps14
  go_wp2_with fail
  refine HF.out.mono ?_
  rintro e w1 ⟨rfl, q, rfl⟩
  have hown1 : (w.drewN q).ownsMap Try.prog 3 (plainElem Try.prog 3) gm T.used D := by
    obtain ⟨es, clock, hb, F, hs, hD⟩ := HO.out
    exact ⟨es, clock, hb, F, hs, hD⟩
  have hb1 := Below.drewN (Below.refl w.heap.size w) q
  have hT1 := HT.out.below hb1
  obtain ⟨d0, d1, d2, d3, d4⟩ := hT1.cells
  have HSZ : Hid ((w.drewN q).heap.size = w.heap.size) := Lib.hid rfl
  have HT1 := Lib.hid hT1
  clear hT1 c0 c1 c2 c3 c4 HF HO HT
  generalize w.drewN q = w2 at *
  go_wp2_with (first
    | (at_range; refine wpList_range_own _ rfl _ 36 rfl 3 3 lawI Try.underlying36 _ gm T.used _ rfl hown1 ?_; intro w0 hrg0 hg0 hs0)
    | fail)
  go_frame
  have hb0 : Below w2.heap.size w2 w0 := (Below.refl _ _).grown hg0 (Nat.le_refl _) (fun k hk => by cases hk)
  have HAD : Hid (∀ (k c : Int), In64 k → Maps.has D (.int .i64 k) = true → (∀ zd, D.atKey (.int .i64 k) zd = .lit (.int .i64 c)) → ∃ s : Nat, T.mv k = some s ∧ c = s) := Lib.hid (fun k c hk hh hat => by
    obtain ⟨e1, e2⟩ := HD.out k hk
    rw [hh] at e1
    rw [hat] at e2
    cases e : T.mv k with
    | none => simp [e] at e1
    | some s =>
      refine ⟨s, rfl, ?_⟩
      simp only [e, Option.map_some, Option.getD_some, DataW.lit.injEq, Lit.int.injEq, true_and] at e2
      exact e2)
  have HST : Hid (∀ b s, T.mv b = some s → (T.first : Int) + s = x → Maps.has D (.int .i64 b) = true) := Lib.hid (fun b s hs _ => by
    have h1 := HT1.out.ok.mr b s hs
    have h2 := HT1.out.ok.b2
    rw [(HD.out b (by unfold In64; omega)).1]
    show ((T.mv b).map Int.ofNat).isSome = true
    rw [hs]; rfl)
  have HNO : Hid ((∀ b s, T.mv b = some s → (T.first : Int) + s ≠ x) → blkR T x = (0, false)) := Lib.hid (fun hno => by
    unfold blkR
    rw [HT1.out.ok.blk_spare_none hge hno])
  have HYES : Hid (∀ (k : Int) (s : Nat), T.mv k = some s → (T.first : Int) + s = x → blkR T x = (k, true)) := Lib.hid (fun k s hs e => by
    unfold blkR
    rw [← e, HT1.out.ok.blk_spare hs]
    have := HT1.out.ok.mr k s hs
    simp only [Prod.mk.injEq, and_true]
    omega)
  have HBW := Lib.hid hb1
  have HB0 := Lib.hid hb0
  have HRG := Lib.hid hrg0
  clear hb1 hb0 hown1 hg0 hrg0 d0 d1 d2 d3 d4 HD
  go_loopw [6] (fun _ wr => ∃ (left : Lit → Bool) (cnt : Nat), wr.ranges Try.prog 3 (plainElem Try.prog 3) gm w2.heap.size T.used D left cnt ∧ Hid (∀ kl, left kl = true → Maps.has D kl = true) ∧ Hid (∀ b s, T.mv b = some s → (T.first : Int) + s = x → left (.int .i64 b) = true) ∧ Below w2.heap.size w2 wr)
    (fun _ wr => wr.rangeLeft gm w2.heap.size)
  case atStart => exact ⟨_, _, HRG.out, Lib.hid fun _ h => h, Lib.hid HST.out, HB0.out⟩
  case round =>
    obtain ⟨left, cnt, hrg, HL, HC, hb⟩ := hrel
    go_wp2_with (first
      | (at_next; refine wpList_next_ranges_ii _ rfl _ rfl 3 3 .i64 .i64 lawI Try.underlying3 Try.underlying3 gm w2.heap.size T.used _ _ _ rfl hrg ?_ ?_)
      | fail)
    · intro _ hl0
      have HR : Hid (blkR T x = (0, false)) := Lib.hid (HNO.out fun b s hs e => by have := HC.out b s hs e; rw [hl0] at this; cases this)
      have hbb := HBW.out.trans (hb.mono (Nat.le_of_eq HSZ.out.symm))
      clear hl0
      go_wp2_with fail
      go_ret2
      refine ⟨?_, hbb⟩
      rw [HR.out]
      rfl
    · intro k c w3 cnt1 hwk hwc hlk hat hrg1 hlt hg1 hs1 hen
      obtain ⟨s, hs, hcs⟩ := HAD.out k c (in64_of hwk) (HL.out _ hlk) hat
      have hb3 : Below w2.heap.size w2 w3 := hb.grown hg1 hb.size (fun j hj => by cases hj; exact Nat.le_refl _)
      have HF3 := Lib.hid (HFW.out w3 (HT1.out.below hb3))
      have hus : s ≤ 64 := by have := HT1.out.ok.mr k s hs; have := HT1.out.ok.us; have := HT1.out.ok.sp; omega
      subst hcs
      have hbb := HBW.out.trans (hb3.mono (Nat.le_of_eq HSZ.out.symm))
      have HR3 := Lib.hid hrg1
      have HGR := Lib.hid hrg
      have HS := Lib.hid hs
      have HB3 := Lib.hid hb3
      clear hat hrg1 hrg hs hg1 hs1 hb3 hb hlk
      go_wp2_with fail
      refine HF3.out.mono ?_
      rintro e w4 ⟨rfl, q4, rfl⟩
      by_cases he : (T.first : Int) + s = x
      · have HR : Hid (blkR T x = (k, true)) := Lib.hid (HYES.out k s HS.out he)
        have he' : ((T.first : Int) + s == x) = true := by rw [beq_iff_eq]; exact he
        clear he
        go_wp2_with fail
        go_ret2
        refine ⟨?_, Below.drewN hbb _⟩
        rw [HR.out]
        rfl
      · have he' : ((T.first : Int) + s == x) = false := by rw [beq_eq_false_iff_ne]; exact he
        have HC2 : Hid (∀ b t, T.mv b = some t → (T.first : Int) + t = x → (left (.int .i64 b) && !(Lit.int .i64 b).sameKey (.int .i64 k)) = true) := Lib.hid (fun b t hbt e => by
          have hne : (Lit.int .i64 b) ≠ .int .i64 k := fun e2 => by
            injection e2 with _ e3
            subst e3
            rw [HS.out] at hbt
            obtain rfl := Option.some.inj hbt
            exact he e
          rw [HC.out b t hbt e, sameKey_ne hne]; rfl)
        have HL2 : Hid (∀ kl, (left kl && !kl.sameKey (.int .i64 k)) = true → Maps.has D kl = true) := Lib.hid (fun kl h => by
          rw [Bool.and_eq_true] at h
          exact HL.out kl h.1)
        have HR4 := Lib.hid (HR3.out.kept (w' := w3.drewN q4) (row := none) ⟨rfl, rfl, rfl, Nat.le_refl _, fun _ _ _ => rfl⟩ (by simp) (by simp))
        clear he
        go_wp2_with fail
        go_roundw
        case rel => exact ⟨_, cnt1, HR4.out, HL2, HC2, Below.drewN HB3.out _⟩
        case measure => rw [HR4.out.left_eq, HGR.out.left_eq]; exact hlt
set_option maxRecDepth 100000 in
set_option maxHeartbeats 4000000 in
theorem block_home {w : World} {g gm : Nat} {vp : Value} {T : Tab} (h : TabW w g gm vp T) (x : Int) (hx : -100000 ≤ x) (hlt : x < (T.first : Int)) :
    Calls Try.prog 14 #[.pointer (some ⟨g, 0, none⟩), .int .i64 x] w (RetB (.tuple #[.int .i64 (blkR T x).1, .bool (blkR T x).2]) w) := by
  have HF := Lib.hid (first_any h)
  have HFW := Lib.hid (fun W hb => bsearch13 vp T.prim x W (h.rd.keep hb) (by have := h.ok.pl; omega) h.ok.ps)
  have HHW := Lib.hid (fun W hb b => has_any (h.below (w' := W) hb) b)
  have HMW := Lib.hid (fun W (hb : Below w.heap.size w W) y hy => (h.map.below hb).run y hy)
  have HB : Hid (blkR T x = if (T.prim.contains x || ((T.mv (x - cnt T.prim x)).isSome || !decide (0 ≤ x - cnt T.prim x ∧ x - cnt T.prim x < T.blocks))) = true then (0, false) else (x - cnt T.prim x, true)) := Lib.hid (by
    unfold blkR
    rw [h.ok.blk_home hlt]
    by_cases hc : x ∈ T.prim ∨ (T.mv (x - cnt T.prim x)).isSome = true ∨ ¬ (0 ≤ x - cnt T.prim x ∧ x - cnt T.prim x < T.blocks)
    · have e : (T.prim.contains x || ((T.mv (x - cnt T.prim x)).isSome || !decide (0 ≤ x - cnt T.prim x ∧ x - cnt T.prim x < T.blocks))) = true := by
        rw [Bool.or_eq_true, Bool.or_eq_true]
        rcases hc with h1 | h1 | h1
        · exact .inl (by simpa using h1)
        · exact .inr (.inl h1)
        · exact .inr (.inr (by rw [decide_eq_false h1]; rfl))
      rw [if_pos hc, if_pos e]
    · have e : ¬ (T.prim.contains x || ((T.mv (x - cnt T.prim x)).isSome || !decide (0 ≤ x - cnt T.prim x ∧ x - cnt T.prim x < T.blocks))) = true := fun e => hc (by
        rw [Bool.or_eq_true, Bool.or_eq_true] at e
        rcases e with h1 | h1 | h1
        · exact .inl (by simpa using h1)
        · exact .inr (.inl h1)
        · exact .inr (.inr fun e2 => by rw [decide_eq_true e2] at h1; cases h1))
      rw [if_neg hc, if_neg e]
      have h1 : 0 ≤ x - (cnt T.prim x : Int) := Classical.byContradiction fun e => hc (.inr (.inr fun e2 => e e2.1))
      simp only [Prod.mk.injEq, and_true]
      omega)
  have HT := Lib.hid h
  have hfi : T.first ≤ 5000 := by have := h.ok.pl; have := h.ok.b2; unfold Tab.first; omega
  have hcn := cnt_le T.prim x
  have hpl := h.ok.pl
  have hd : decide ((T.first : Int) ≤ x) = false := decide_eq_false (by omega)
  obtain ⟨y, hy⟩ : ∃ y, y = x - (cnt T.prim x : Int) := ⟨_, rfl⟩
  rw [← hy] at HB
  have HY := Lib.hid hy
  have y1 : -200000 ≤ y := by omega
  have y2 : y ≤ 200000 := by omega
  generalize cnt T.prim x = n at *
  clear h hlt hcn
  have hcases : (T.prim.contains x = true) ∨ (T.prim.contains x = false ∧ ∃ s, T.mv y = some s) ∨ (T.prim.contains x = false ∧ T.mv y = none ∧ ¬ (0 ≤ y ∧ y < (T.blocks : Int))) ∨ (T.prim.contains x = false ∧ T.mv y = none ∧ 0 ≤ y ∧ y < (T.blocks : Int)) := by
    cases T.prim.contains x
    · cases e : T.mv y
      · by_cases hq : 0 ≤ y ∧ y < (T.blocks : Int)
        · exact .inr (.inr (.inr ⟨rfl, rfl, hq.1, hq.2⟩))
        · exact .inr (.inr (.inl ⟨rfl, rfl, hq⟩))
      · exact .inr (.inl ⟨rfl, _, rfl⟩)
    · exact .inl rfl
  rcases hcases with k1 | ⟨k1, s, k2⟩ | ⟨k1, k2, k3⟩ | ⟨k1, k2, k3, k4⟩
  · have hres : Hid (blkR T x = (0, false)) := Lib.hid (by have := HB.out; rw [k1] at this; simpa using this)
    rw [k1] at HFW
    clear k1
    clear hy HB
    go_enter Try.func14, Try.ntmps14
    go_wp2_with fail
    refine HF.out.mono ?_
    rintro e w1 ⟨rfl, q1, rfl⟩
    have hb1 := Below.drewN (Below.refl w.heap.size w) q1
    obtain ⟨d0, d1, d2, d3, d4⟩ := (HT.out.below hb1).cells
    have HS := Lib.hid (HFW.out _ hb1)
    have HB1 := Lib.hid hb1
    clear hb1 HF HFW
    generalize w.drewN q1 = w1 at *
    go_wp2_with fail
    refine HS.out.mono ?_
    rintro e w2 ⟨rfl, q2, rfl⟩
    have hb2 := Below.drewN HB1.out q2
    clear d0 d1 d2 d3 d4 HS HB1
    generalize w1.drewN q2 = w2 at *
    obtain ⟨d0, d1, d2, d3, d4⟩ := (HT.out.below hb2).cells
    have hm := HMW.out _ hb2 y (by unfold In64; omega)
    have HH := Lib.hid (HHW.out _ hb2 y)
    have HB2 := Lib.hid hb2
    have hy2 : x - (n : Int) = y := HY.out.symm
    clear hb2 HMW HHW HY
    generalize (T.mv y).map Int.ofNat = o at hm
    go_wp2_with fail
    go_ret2
    refine ⟨?_, HB2.out⟩
    rw [hres.out]
    rfl
  · have hres : Hid (blkR T x = (0, false)) := Lib.hid (by have := HB.out; rw [k1, k2] at this; simpa using this)
    rw [k1] at HFW
    clear k1
    clear hy HB
    go_enter Try.func14, Try.ntmps14
    go_wp2_with fail
    refine HF.out.mono ?_
    rintro e w1 ⟨rfl, q1, rfl⟩
    have hb1 := Below.drewN (Below.refl w.heap.size w) q1
    obtain ⟨d0, d1, d2, d3, d4⟩ := (HT.out.below hb1).cells
    have HS := Lib.hid (HFW.out _ hb1)
    have HB1 := Lib.hid hb1
    clear hb1 HF HFW
    generalize w.drewN q1 = w1 at *
    go_wp2_with fail
    refine HS.out.mono ?_
    rintro e w2 ⟨rfl, q2, rfl⟩
    have hb2 := Below.drewN HB1.out q2
    clear d0 d1 d2 d3 d4 HS HB1
    generalize w1.drewN q2 = w2 at *
    obtain ⟨d0, d1, d2, d3, d4⟩ := (HT.out.below hb2).cells
    have hm := HMW.out _ hb2 y (by unfold In64; omega)
    have HH := Lib.hid (HHW.out _ hb2 y)
    have HB2 := Lib.hid hb2
    have hy2 : x - (n : Int) = y := HY.out.symm
    clear hb2 HMW HHW HY
    simp only [k2, Option.map_some, Option.getD_some, Option.isSome_some] at hm
    go_wp2_with fail
    go_ret2
    refine ⟨?_, HB2.out⟩
    rw [hres.out]
    rfl
  · have hres : Hid (blkR T x = (0, false)) := Lib.hid (by have := HB.out; rw [k1, k2, decide_eq_false k3] at this; simpa using this)
    rw [k1] at HFW
    clear k1
    clear hy HB
    go_enter Try.func14, Try.ntmps14
    go_wp2_with fail
    refine HF.out.mono ?_
    rintro e w1 ⟨rfl, q1, rfl⟩
    have hb1 := Below.drewN (Below.refl w.heap.size w) q1
    obtain ⟨d0, d1, d2, d3, d4⟩ := (HT.out.below hb1).cells
    have HS := Lib.hid (HFW.out _ hb1)
    have HB1 := Lib.hid hb1
    clear hb1 HF HFW
    generalize w.drewN q1 = w1 at *
    go_wp2_with fail
    refine HS.out.mono ?_
    rintro e w2 ⟨rfl, q2, rfl⟩
    have hb2 := Below.drewN HB1.out q2
    clear d0 d1 d2 d3 d4 HS HB1
    generalize w1.drewN q2 = w2 at *
    obtain ⟨d0, d1, d2, d3, d4⟩ := (HT.out.below hb2).cells
    have hm := HMW.out _ hb2 y (by unfold In64; omega)
    have HH := Lib.hid (HHW.out _ hb2 y)
    have HB2 := Lib.hid hb2
    have hy2 : x - (n : Int) = y := HY.out.symm
    clear hb2 HMW HHW HY
    simp only [k2, Option.map_none, Option.getD_none, Option.isSome_none] at hm
    rw [decide_eq_false k3] at HH
    go_wp2_with fail
    refine HH.out.mono ?_
    rintro e w3 ⟨rfl, rfl⟩
    go_wp2_with fail
    go_ret2
    refine ⟨?_, HB2.out⟩
    rw [hres.out]
    rfl
  · have hres : Hid (blkR T x = (y, true)) := Lib.hid (by have := HB.out; rw [k1, k2, decide_eq_true (And.intro k3 k4)] at this; simpa using this)
    rw [k1] at HFW
    clear k1
    clear hy HB
    go_enter Try.func14, Try.ntmps14
    go_wp2_with fail
    refine HF.out.mono ?_
    rintro e w1 ⟨rfl, q1, rfl⟩
    have hb1 := Below.drewN (Below.refl w.heap.size w) q1
    obtain ⟨d0, d1, d2, d3, d4⟩ := (HT.out.below hb1).cells
    have HS := Lib.hid (HFW.out _ hb1)
    have HB1 := Lib.hid hb1
    clear hb1 HF HFW
    generalize w.drewN q1 = w1 at *
    go_wp2_with fail
    refine HS.out.mono ?_
    rintro e w2 ⟨rfl, q2, rfl⟩
    have hb2 := Below.drewN HB1.out q2
    clear d0 d1 d2 d3 d4 HS HB1
    generalize w1.drewN q2 = w2 at *
    obtain ⟨d0, d1, d2, d3, d4⟩ := (HT.out.below hb2).cells
    have hm := HMW.out _ hb2 y (by unfold In64; omega)
    have HH := Lib.hid (HHW.out _ hb2 y)
    have HB2 := Lib.hid hb2
    have hy2 : x - (n : Int) = y := HY.out.symm
    clear hb2 HMW HHW HY
    simp only [k2, Option.map_none, Option.getD_none, Option.isSome_none] at hm
    rw [decide_eq_true (And.intro k3 k4)] at HH
    go_wp2_with fail
    refine HH.out.mono ?_
    rintro e w3 ⟨rfl, rfl⟩
    go_wp2_with fail
    go_ret2
    refine ⟨?_, HB2.out⟩
    rw [hres.out]
    rfl
theorem block_any {w : World} {g gm : Nat} {vp : Value} {T : Tab} (h : TabW w g gm vp T) (x : Int) (h1 : -100000 ≤ x) (h2 : x ≤ 100000) :
    Calls Try.prog 14 #[.pointer (some ⟨g, 0, none⟩), .int .i64 x] w (RetB (.tuple #[.int .i64 (blkR T x).1, .bool (blkR T x).2]) w) := by
  by_cases hge : (T.first : Int) ≤ x
  · exact block_spare h x (by unfold In64; omega) hge
  · exact block_home h x h1 (by omega)
end Go.Proofs.Ytjnedcncfdpjoaa.D13
