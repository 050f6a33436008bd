/- The law TocAppends walked (chapter 14). -/
import Derived.Test.YtiioojlihapdaaaTkAw
import Derived.Test.YtiioojlihapdaaaTkStep
import Derived.Test.YtiioojlihapdaaaTkFind
import Derived.Test.YtiioojlihapdaaaTkOpen
import Derived.Test.YtiioojlihapdaaaBx
import Derived.Deep.Cut
import Derived.Outline
namespace Go.Proofs.Ytiioojlihapdaaa
open Go.RowKit
set_option linter.unusedVariables false

/-- operations as cells -/
def acs (x : Ac) : List Value := [.int .i64 x.kind, .int .i64 x.a, .int .i64 x.b, .bool x.fz]
def acz : Ac := ⟨0, 0, 0, false⟩
def ac (l : List Ac) (i : Nat) : Ac := (l[i]?).getD acz
def RdA (w : World) (v : Value) (l : List Ac) : Prop := RdS w 4 v l.length (fun i => acs (ac l i)) ∧ ∀ i, i < l.length → In64 (ac l i).kind ∧ In64 (ac l i).a ∧ In64 (ac l i).b
theorem Try.sizeAct : (Try.prog.info? 26).map (·.size) = some 4 := by kernel_rfl
theorem Try.sizeBool : (Try.prog.info? 4).map (·.size) = some 1 := by kernel_rfl
theorem Try.infoBool : (Try.prog.info? 4).map (fun i => (i.zero, i.size, i.bytes)) = some (some (.bool false), 1, 1) := by kernel_rfl
theorem rd4 {w : World} {b o : Nat} {x : Ac} (h : w.rangeAt b o (acs x)) :
    w.cell? ⟨b, o, none⟩ = some (.int .i64 x.kind) ∧ w.cell? ⟨b, o + 1, none⟩ = some (.int .i64 x.a) ∧ w.cell? ⟨b, o + 2, none⟩ = some (.int .i64 x.b) ∧ w.cell? ⟨b, o + 3, none⟩ = some (.bool x.fz) :=
  ⟨h 0 _ rfl, h 1 _ rfl, h 2 _ rfl, h 3 _ rfl⟩

/-- the blocks from 'a' on, 'j' of them, are marked -/
def markB (bl : List Bool) (a : Nat) : Nat → List Bool
  | 0 => bl
  | j + 1 => (markB bl a j).set (a + j) true
theorem markB_length (bl : List Bool) (a : Nat) : ∀ j, (markB bl a j).length = bl.length
  | 0 => rfl
  | j + 1 => by rw [markB, List.length_set]; exact markB_length bl a j
theorem markB_get (bl : List Bool) (a : Nat) {k : Nat} (hk : k < bl.length) : ∀ j, (markB bl a j)[k]? = some (decide (a ≤ k ∧ k < a + j) || bl.getD k false)
  | 0 => by
    have : ¬ (a ≤ k ∧ k < a + 0) := by omega
    rw [decide_eq_false this]; simp [markB, hk]
  | j + 1 => by
    rw [markB]
    by_cases e : a + j = k
    · subst e
      rw [List.getElem?_set_self (by rw [markB_length]; exact hk)]
      simp
    · rw [List.getElem?_set_ne e, markB_get bl a hk j]
      have : (a ≤ k ∧ k < a + j) ↔ (a ≤ k ∧ k < a + (j + 1)) := by omega
      simp [this]
/-- what is marked is what is appended -/
def Marks (l : List T.Trk) (cap : Nat) (bl : List Bool) : Prop := bl.length = cap ∧ ∀ k, k < cap → (bl.getD k false = true ↔ T.Done l k)
theorem Marks.same {l l' : List T.Trk} {cap : Nat} {bl : List Bool} (h : Marks l cap bl) (hd : ∀ k, T.Done l' k ↔ T.Done l k) : Marks l' cap bl := ⟨h.1, fun k hk => (h.2 k hk).trans (hd _).symm⟩
theorem Marks.nil (cap : Nat) : Marks [] cap (List.replicate cap false) := ⟨by simp, fun k hk => by
  have : ¬ T.Done [] k := T.done_nil _
  simp [hk, this]⟩

theorem Marks.grown {l : List T.Trk} {cap : Nat} {bl : List Bool} {i an : Nat} {b : Nat} (h : Marks l cap bl) (hi : i < l.length) (ha : (T.tr l i).nx = an) (hb : 1 ≤ b) (hst : (T.tr l i).st ≤ (T.tr l i).nx) : Marks (l.set i (T.grown (T.tr l i) b)) cap (markB bl an b) := by
  refine ⟨by rw [markB_length]; exact h.1, fun k hk => ?_⟩
  rw [T.done_grown hi b (by omega) hst k, List.getD_eq_getElem?_getD, markB_get bl an (by rw [h.1]; exact hk), Option.getD_some, Bool.or_eq_true, decide_eq_true_iff, h.2 k hk, ha]
  constructor
  · rintro (g | g)
    · exact .inr (by omega)
    · exact .inl g
  · rintro (g | g)
    · exact .inr g
    · exact .inl (by omega)
/-- the table that holds between two operations -/
structure Hold (cap : Int) (N gd : Nat) (cl : Int) (fin : Bool) (sv : Value) (l : List T.Trk) (bl : List Bool) (W : World) : Prop where
  valid : T.validR cap cl fin l
  box : Bx W N 24 [.int .i64 cl, .bool fin, sv]
  rd : RdK W sv l
  done : Bx W gd 4 (bb bl)
section
variable {cap : Int} {N gd : Nat} {cl : Int} {fin : Bool} {sv : Value} {l : List T.Trk} {bl : List Bool} {W W' : World}
theorem Hold.call (h : Hold cap N gd cl fin sv l bl W) (hb : Below W.heap.size W W') : Hold cap N gd cl fin sv l bl W' :=
  ⟨h.valid, h.box.call hb, h.rd.keep hb, h.done.call hb⟩
theorem Hold.put (h : Hold cap N gd cl fin sv l bl W) (hN : N ≠ gd) {cl' : Int} {fin' : Bool} {sv' : Value} {l' : List T.Trk} (hv : T.validR cap cl' fin' l') (hr : RdK W sv' l') :
    Hold cap N gd cl' fin' sv' l' bl (((W.setCell ⟨N, 0, none⟩ (.int .i64 cl')).setCell ⟨N, 1, none⟩ (.bool fin')).setCell ⟨N, 2, none⟩ sv') :=
  ⟨hv, ((h.box.set 0 _).set 1 _).set 2 _, B1.rd (cl := cl) (fin := fin) (sv := sv) h.box hr _ _ _, ((h.done.far (by exact hN) _).far (by exact hN) _).far (by exact hN) _⟩
theorem Hold.mark (h : Hold cap N gd cl fin sv l bl W) (hN : N ≠ gd) (k : Nat) : Hold cap N gd cl fin sv l (bl.set k true) (W.setCell ⟨gd, k, none⟩ (.bool true)) :=
  ⟨h.valid, h.box.far (by exact Ne.symm hN) _, RdS.farB h.rd h.done (fun i hi => ⟨0, _, rfl, bb_int _ _ _⟩) _ _, by rw [← bb_set]; exact h.done.set k _⟩
end

set_option maxRecDepth 100000 in
set_option maxHeartbeats 8000000 in
theorem appends_ok (cap : Int) (l : List Ac) (av : Value) (w : World) (h1 : 1 ≤ cap) (h2 : cap ≤ 2000) (hr : RdA w av l) (hn : l.length ≤ 40) :
    Calls Try.prog 4 #[.int .i64 cap, av] w (RB true w) := by
  obtain ⟨⟨sa, sc, ab, ao, rfl, hac, hcell⟩, hwf⟩ := hr
  have HC := Lib.hid hcell; clear hcell
  have HWF := Lib.hid hwf; clear hwf
  go_enter Try.func4, Try.ntmps4
  go_wp2_with fail
  refine (awake_any _).mono ?_
  rintro e w1 ⟨rfl, hb1⟩
  go_wp2_with (refine wpList_mkBool rfl _ _ rfl Try.underlying36 Try.infoBool cap.toNat rfl rfl (by omega) (by omega) (by omega) ?_; intro w2 hbx hb2)
  have hbw : Below w.heap.size w w2 := (hb1.alloc hb1.size _).trans (hb2.mono (by simp; have := hb1.size; omega))
  have hH0 : Hold cap w1.heap.size (w1.heap.size + 1) 0 false (.slice none 0 0) [] (List.replicate cap.toNat false) w2 :=
    ⟨T.valid_nil h1 (by omega), (Bx.new _ _ _).call hb2, RdK.nil _, by simpa using hbx⟩
  have hne : w1.heap.size ≠ w1.heap.size + 1 := by omega
  clear hbx hb2
  go_loopw [36] (fun vi wr => ∃ (k : Nat) (cl : Int) (fin : Bool) (sv : Value) (tl : List T.Trk) (bl : List Bool), k ≤ l.length ∧ vi = .int .i64 k ∧ Hold cap w1.heap.size (w1.heap.size + 1) cl fin sv tl bl wr ∧ Marks tl cap.toNat bl ∧ Below w.heap.size w wr) (fun vi _ => l.length - (intOf vi).toNat)
  case atStart => exact ⟨0, 0, false, .slice none 0 0, [], List.replicate cap.toNat false, by omega, rfl, by simpa using hH0, Marks.nil _, hbw⟩
  case round =>
    clear hbw hH0
    obtain ⟨k, cl, fin, sv, tl, bl, hk, rfl, hH, hM, hb⟩ := hrel
    obtain ⟨wo, rfl⟩ : ∃ wo : World, wo = wr := ⟨_, rfl⟩
    obtain ⟨ta, tc, rfl, htac⟩ := RdS.form hH.rd
    have hgo := hH.done.lt
    by_cases hlt : k < l.length
    · obtain ⟨ha, hrange⟩ := HC.out k hlt
      obtain ⟨_, wfa, wfb⟩ := HWF.out k hlt
      have hrg : wo.rangeAt ab (ao + k * 4) (acs (ac l k)) := fun j u hu => (hb.cell (p := ⟨ab, ao + k * 4 + j, none⟩) (World.block_lt_of_cell? w _ (hrange j u hu))).trans (hrange j u hu)
      clear hrange
      generalize ac l k = x at hrg wfa wfb
      obtain ⟨xk, xa, xb, xf⟩ := x
      simp only at wfa wfb
      obtain ⟨hc0, hc1, hc2, hc3⟩ := rd4 hrg
      clear hrg
      have hix := fun w' => run_idxS Try.underlying35 Try.sizeAct (cap := sc) ha hlt _ rfl w'
      have Ha := Lib.hid ha; clear ha
      have ht0 := hH.box.cell (i := 0) rfl
      have ht1 := hH.box.cell (i := 1) rfl
      have ht2 := hH.box.cell (i := 2) rfl
      have hN := hH.box.lt
      simp only at hc0 hc1 hc2 hc3
      have hbA := (Below.refl wo.heap.size wo).alloc (Nat.le_refl _) (.cells #[.int .i64 xk, .int .i64 xa, .int .i64 xb, .bool xf] 26)
      go_wp2_with fail
      refine (do_any cap cl fin _ tl xk xa xb xf _ (RdK.keep hH.rd hbA) (few_of_valid hH.valid) wfa wfb).mono ?_
      have hD := doR_does hH.valid xk xa xb xf
      generalize doR cap cl fin tl xk xa xb xf = R at hD ⊢
      obtain ⟨rcl, rfin, rl, rcode⟩ := R
      rintro e w3 ⟨v3, rfl, hr3, hb3⟩
      obtain ⟨a3, c3, rfl, _⟩ := RdS.form hr3
      have hB3 := hbA.trans (hb3.mono hbA.size)
      have hH3 := hH.call hB3
      have hA3 := (Bx.new wo 26 [.int .i64 xk, .int .i64 xa, .int .i64 xb, .bool xf]).call hb3
      have hb3w := hb.trans (hB3.mono hb.size)
      have hz3 := hb3.size
      simp only [World.size_alloc] at hz3
      simp only at hr3 hD ⊢
      clear hb3 hB3 hbA hc0 hc1 hc2 hc3 ht0 ht1 ht2 hH hb
      have HD := Lib.hid hD; clear hD
      by_cases he : rcode = 0
      · subst he
        have hq0 := hH3.box.cell (i := 0) rfl
        have hq1 := hH3.box.cell (i := 1) rfl
        have hq2 := hH3.box.cell (i := 2) rfl
        have hqf := hH3.box.free
        have hql := hH3.box.lt
        have hA3l := hA3.lt
        go_upto_region 13 with (fail)
        clear hq0 hq1 hq2 hqf
        have hH4 := hH3.put hne ((HD.out.ok rfl).valid hH3.valid) hr3
        have hA4 := ((hA3.far (p := ⟨w1.heap.size, 0, none⟩) (by simp only; omega) (.int .i64 rcl)).far (p := ⟨w1.heap.size, 1, none⟩) (by simp only; omega) (.bool rfin)).far (p := ⟨w1.heap.size, 2, none⟩) (by simp only; omega) (.slice a3 rl.length c3)
        have hb4 : Below w.heap.size w ((((w3.setCell ⟨w1.heap.size, 0, none⟩ (.int .i64 rcl)).setCell ⟨w1.heap.size, 1, none⟩ (.bool rfin)).setCell ⟨w1.heap.size, 2, none⟩ (.slice a3 rl.length c3))) := ((hb3w.setCell hb1.size _).setCell hb1.size _).setCell hb1.size _
        have hbe := (Below.refl _ ((((w3.setCell ⟨w1.heap.size, 0, none⟩ (.int .i64 rcl)).setCell ⟨w1.heap.size, 1, none⟩ (.bool rfin)).setCell ⟨w1.heap.size, 2, none⟩ (.slice a3 rl.length c3)))).alloc (Nat.le_refl _) (.cells #[.int .i64 rcl, .bool rfin, .slice a3 rl.length c3] 24)
        have hH5 := hH4.call hbe
        have hA5 := hA4.call hbe
        have hb5 := hb4.trans (hbe.mono hb4.size)
        clear hH4 hA4 hb4 hbe
        generalize ((((w3.setCell ⟨w1.heap.size, 0, none⟩ (.int .i64 rcl)).setCell ⟨w1.heap.size, 1, none⟩ (.bool rfin)).setCell ⟨w1.heap.size, 2, none⟩ (.slice a3 rl.length c3))).alloc (.cells #[.int .i64 rcl, .bool rfin, .slice a3 rl.length c3] 24) = w5 at hH5 hA5 hb5 ⊢
        have hV3 := Lib.hid hH3.valid
        clear hr3 hA3 hb3w hH3
        have he0 := hA5.cell (i := 0) rfl
        have he1 := hA5.cell (i := 1) rfl
        have he2 := hA5.cell (i := 2) rfl
        by_cases hk1 : xk = 1
        · subst hk1
          obtain ⟨i, hi, hs, hnx, hxb, hxb2, hrl⟩ := HD.out.app rfl rfl
          have hat := hV3.out.at hi
          obtain ⟨hat1, hat2, hat3, hat4, hat5⟩ := hat
          obtain ⟨an, rfl⟩ : ∃ an : Nat, xa = an := ⟨xa.toNat, by omega⟩
          obtain ⟨bn, rfl⟩ : ∃ bn : Nat, xb = bn := ⟨xb.toNat, by omega⟩
          simp only at hrl
          have hrn : rl.length = tl.length := by rw [hrl, List.length_set]
          have hil : i < rl.length := by rw [hrn]; exact hi
          have htr : T.tr rl i = T.grown (T.tr tl i) bn := by rw [hrl, T.tr_set_eq _ _ _ hi]
          have hcap : (an : Int) + bn ≤ cap := by omega
          have HFr : Hid (∀ j, j < bn → bl.getD (an + j) false = false) := Lib.hid fun j hj => by
            have h9 := (hM.2 (an + j) (by omega))
            have h8 := T.fresh hV3.out hi (k := ((an + j : Nat) : Int)) (by omega) (by omega)
            simpa using fun h => h8 (h9.1 h)
          have HFind : Hid (∀ j, j < bn → (T.tr rl i).st ≤ an + j ∧ (an : Int) + j < (T.tr rl i).st + (T.tr rl i).len ∧ ∀ i', i' < i → ¬ ((T.tr rl i').st ≤ an + j ∧ (an : Int) + j < (T.tr rl i').st + (T.tr rl i').len)) := Lib.hid fun j hj => by
            have q1 : (T.tr rl i).st ≤ (an : Int) + j := by rw [htr]; unfold T.grown; simp only; omega
            have q2 : (an : Int) + j < (T.tr rl i).st + (T.tr rl i).len := by rw [htr]; unfold T.grown; simp only; omega
            refine ⟨q1, q2, fun i' hi' h => ?_⟩
            have := T.only hH5.valid.2.2.2.2.2.1 (i := i') (j := i) (Nat.lt_trans hi' hil) hil h.1 h.2 q1 q2
            omega
          have HNum : Hid ((T.tr rl i).num = (i : Int) + 1) := Lib.hid (hH5.valid.at (i := i) hil).1
          have HNx : Hid ((T.tr rl i).nx = (an : Int) + bn) := Lib.hid (by rw [htr]; unfold T.grown; simp only; omega)
          have HMk : Hid (Marks rl cap.toNat (markB bl an bn)) := Lib.hid (by rw [hrl]; exact hM.grown hi hnx (by omega) hat4)
          clear hM hrl htr hat1 hat2 hat3 hat4 hat5 hnx hs hi HD hxb2 hrn
          go_wp2_with fail
          clear he0 he1 he2
          go_loopw [55] (fun vj wr => ∃ (j : Nat), j ≤ bn ∧ vj = .int .i64 j ∧ Hold cap w1.heap.size (w1.heap.size + 1) rcl rfin (.slice a3 rl.length c3) rl (markB bl an j) wr ∧ Bx wr wo.heap.size 26 [.int .i64 1, .int .i64 an, .int .i64 bn, .bool xf] ∧ Below w.heap.size w wr) (fun vj _ => bn - (intOf vj).toNat)
          case atStart => exact ⟨0, by omega, rfl, hH5, hA5, hb5⟩
          case round =>
            clear hH5 hA5 hb5
            obtain ⟨j, hj, rfl, hH6, hA6, hb6⟩ := hrel
            have he1 := hA6.cell (i := 1) rfl
            have he2 := hA6.cell (i := 2) rfl
            by_cases hjb : j < bn
            · have hlen : (markB bl an j).length = cap.toNat := by rw [markB_length]; have := HMk.out.1; rwa [markB_length] at this
              have hdc : wr.cell? ⟨w1.heap.size + 1, an + j, none⟩ = some (.bool false) := hH6.done.cell (bb_get (by
                rw [markB_get bl an (by rw [markB_length] at hlen; omega) j, HFr.out j hjb]
                have : ¬ (an ≤ an + j ∧ an + j < an + j) := by omega
                rw [decide_eq_false this]; rfl))
              have hdf := hH6.done.free (an + j)
              have hixd := fun w' => run_idx (P := Try.prog) (cap := cap.toNat) Try.underlying36 Try.sizeBool (rfl : some (⟨w1.heap.size + 1, 0, none⟩ : Addr) = _) (by omega : an + j < cap.toNat) ((an : Int) + j) (by omega) w'
              simp only [Nat.zero_add] at hixd
              have hq1 : (an : Int) + j < cap := by omega
              clear hlen
              go_upto_region 21 with (fail)
              have hH7 := hH6.mark hne (an + j)
              have hA7 := hA6.far (p := ⟨w1.heap.size + 1, an + j, none⟩) (by simp only; omega) (.bool true)
              have hb7 := hb6.setCell (p := ⟨w1.heap.size + 1, an + j, none⟩) (Nat.le_succ_of_le hb1.size) (.bool true)
              generalize wr.setCell ⟨w1.heap.size + 1, an + j, none⟩ (.bool true) = w7 at hH7 hA7 hb7 ⊢
              clear hH6 hA6 hb6 he1 he2 hdc hdf hixd
              have hq0 := hH7.box.cell (i := 0) rfl
              have hq1' := hH7.box.cell (i := 1) rfl
              have hq2 := hH7.box.cell (i := 2) rfl
              go_wp2_with fail
              obtain ⟨f1, f2, f3⟩ := HFind.out j hjb
              refine (find_hit rcl rfin _ rl _ w7 hH7.rd (few_of_valid hH7.valid) i hil f1 f2 f3).mono ?_
              rw [HNum.out]
              rintro e w8 ⟨rfl, hb8⟩
              clear f1 f2 f3 hq0 hq1' hq2
              have hH8 := hH7.call hb8
              have hA8 := hA7.call hb8
              have hb9 := hb7.trans (hb8.mono hb7.size)
              clear hH7 hA7 hb7 hb8
              have hq0 := hH8.box.cell (i := 0) rfl
              have hq1' := hH8.box.cell (i := 1) rfl
              have hq2 := hH8.box.cell (i := 2) rfl
              obtain ⟨za, zc, zb, zo, hzv, hzac, hzcell⟩ := hH8.rd
              obtain ⟨rfl, rfl⟩ : a3 = za ∧ c3 = zc := by injection hzv with e1 e2 e3; exact ⟨e1, e3⟩
              obtain ⟨hza, hzr⟩ := hzcell i hil
              have hz4 := (rd7 hzr).2.2.2.2.1
              rw [HNx.out] at hz4
              have hix3 := fun w' => run_idxS Try.underlying22 Try.sizeTrack (cap := c3) hza hil (i : Int) rfl w'
              have HZ := Lib.hid hza; clear hza
              clear hzcell hzr hzv
              have hi99 : i ≤ 98 := by have := hH8.valid.2.2.1; omega
              have hi0 : (0 : Int) ≤ i := by omega
              have hi98 : (i : Int) ≤ 98 := by omega
              go_wp2_with fail
              go_roundw
              case rel => exact ⟨j + 1, by omega, by go_num, hH8, hA8, hb9⟩
              case measure => simp [intOf]; omega
            · obtain rfl : j = bn := by omega
              clear he1 he2
              go_wp2_with fail
              go_roundw
              case rel => exact ⟨k + 1, rcl, rfin, _, rl, _, by omega, by go_num, hH6, HMk.out, hb6⟩
              case measure => simp [intOf]; omega
        · have hk' : (xk != 1) = true := by rw [bne_iff_ne]; exact hk1
          have hS := HD.out.same rfl hk1
          have HS := Lib.hid hS; clear hS
          clear hk1
          go_wp2_with fail
          go_roundw
          case rel => exact ⟨k + 1, rcl, rfin, _, rl, bl, by omega, by go_num, hH5, hM.same HS.out, hb5⟩
          case measure => simp [intOf]; omega
      · have he' : (rcode != 0) = true := by rw [bne_iff_ne]; exact he
        clear he
        go_wp2_with fail
        go_roundw
        case rel => exact ⟨k + 1, cl, fin, _, tl, bl, by omega, by go_num, hH3.call ((Below.refl _ _).alloc (Nat.le_refl _) _), hM, hb3w.alloc hb3w.size _⟩
        case measure => simp [intOf]; omega
    · have ht0 := hH.box.cell (i := 0) rfl
      have ht1 := hH.box.cell (i := 1) rfl
      have ht2 := hH.box.cell (i := 2) rfl
      go_wp2_with fail
      clear ht0 ht1 ht2
      go_loopw [113] (fun vi wr => ∃ (m : Nat), m ≤ tl.length ∧ vi = .int .i64 m ∧ Below wo.heap.size wo wr) (fun vi _ => tl.length - (intOf vi).toNat)
      case atStart => exact ⟨0, by omega, rfl, Below.refl _ _⟩
      case round =>
        obtain ⟨m, hm, rfl, hbm⟩ := hrel
        have hbw := hb.trans (hbm.mono hb.size)
        have hwz := hbm.size
        have htl : tl.length ≤ 99 := hH.valid.2.2.1
        by_cases hml : m < tl.length
        · obtain ⟨za, zc, zb, zo, hzv, hzac, hzcell⟩ := hH.rd.keep hbm
          obtain ⟨rfl, rfl⟩ : ta = za ∧ tc = zc := by injection hzv with e1 e2 e3; exact ⟨e1, e3⟩
          obtain ⟨hza, hzr⟩ := hzcell m hml
          obtain ⟨_, hat2, hat3, hat4, hat5⟩ := hH.valid.at hml
          obtain ⟨sn, hsn⟩ : ∃ sn : Nat, (T.tr tl m).st = sn := ⟨(T.tr tl m).st.toNat, by omega⟩
          obtain ⟨nn, hnn⟩ : ∃ nn : Nat, (T.tr tl m).nx = nn := ⟨(T.tr tl m).nx.toNat, by omega⟩
          have HDn : Hid (∀ p, sn ≤ p → p < nn → wr.cell? ⟨w1.heap.size + 1, p, none⟩ = some (.bool true)) := Lib.hid fun p hp1 hp2 => by
            refine (hH.done.call hbm).cell (bb_get ?_)
            have h9 := (hM.2 p (by omega)).2 ⟨m, hml, by omega, by omega⟩
            have h8 : p < bl.length := by rw [hM.1]; omega
            simpa [h8] using h9
          have hsc : (nn : Int) ≤ cap := by omega
          have hsl : sn ≤ nn := by omega
          replace hzr : wr.rangeAt zb (zo + m * 7) (tcs (T.tr tl m)) := hzr
          clear hat2 hat3 hat4 hat5
          generalize T.tr tl m = x at hsn hnn hzr
          obtain ⟨x0, x1, x2, x3, x4, x5, x6⟩ := x
          change x2 = _ at hsn
          change x4 = _ at hnn
          subst hsn hnn
          obtain ⟨hc0, hc1, hc2, hc3, hc4, hc5, hc6⟩ := rd7 hzr
          have hix3 := fun w' => run_idxS Try.underlying22 Try.sizeTrack (cap := tc) hza hml (m : Int) rfl w'
          have HZ := Lib.hid hza; clear hza
          clear hzcell hzr hzv
          have hgl : w1.heap.size + 1 < wr.heap.size := by omega
          go_wp2_with fail
          clear hc0 hc1 hc2 hc3 hc4 hc5 hc6
          go_loop [17] (fun v => ∃ (p : Nat), sn ≤ p ∧ p ≤ nn ∧ v = .int .i64 p) (fun v => nn - (intOf v).toNat)
          case atStart => exact ⟨sn, by omega, by omega, rfl⟩
          case round =>
            obtain ⟨p, hp1, hp2, rfl⟩ := hrel
            by_cases hpn : p < nn
            · have hdc := HDn.out p hp1 hpn
              have hixd := fun w' => run_idx (P := Try.prog) (cap := cap.toNat) Try.underlying36 Try.sizeBool (rfl : some (⟨w1.heap.size + 1, 0, none⟩ : Addr) = _) (by omega : p < cap.toNat) (p : Int) rfl w'
              simp only [Nat.zero_add] at hixd
              go_wp2_with fail
              go_round
              case rel => exact ⟨p + 1, by omega, by omega, by go_num⟩
              case measure => simp [intOf]; omega
            · go_wp2_with fail
              go_roundw
              case rel => exact ⟨m + 1, by omega, by go_num, hbm.alloc (by omega) _⟩
              case measure => simp [intOf]; omega
        · go_wp2_with fail
          go_ret
          exact ⟨rfl, hbw⟩
set_option maxRecDepth 100000 in
set_option maxHeartbeats 2000000 in
theorem appends_out (cap : Int) (l : List Ac) (sa : Option Addr) (sc : Nat) (w : World) (hn : l.length ≤ 9223372036854775807) (h : ¬ (1 ≤ cap ∧ cap ≤ 2000 ∧ l.length ≤ 40)) :
    Calls Try.prog 4 #[.int .i64 cap, .slice sa l.length sc] w (RB true w) := by
  by_cases h4 : l.length ≤ 40
  · by_cases h1 : 1 ≤ cap
    · have h2 : ¬ cap ≤ 2000 := fun h2 => h ⟨h1, h2, h4⟩
      clear h
      go_enter Try.func4, Try.ntmps4
      go_wp2_with fail
      refine (awake_any _).mono ?_
      rintro e w1 ⟨rfl, hb1⟩
      go_wp2_with fail
      go_ret
      exact ⟨rfl, hb1⟩
    · clear h
      go_enter Try.func4, Try.ntmps4
      go_wp2_with fail
      refine (awake_any _).mono ?_
      rintro e w1 ⟨rfl, hb1⟩
      go_wp2_with fail
      go_ret
      exact ⟨rfl, hb1⟩
  · clear h
    go_enter Try.func4, Try.ntmps4
    go_wp2_with fail
    refine (awake_any _).mono ?_
    rintro e w1 ⟨rfl, hb1⟩
    go_wp2_with fail
    go_ret
    exact ⟨rfl, hb1⟩

section
open Go.ChangeShapes Go.WideShapes Go.Deep
variable {H : Type} {enc : TypeId × Value → H} {w : World} {base b0 : Nat} {sp : Nat → Bool} {held : Bool}
theorem Try.cellsA : Try.prog.cellsOf 26 = 4 := by kernel_rfl
theorem Try.cellsB : Try.prog.cellsOf 4 = 1 := by kernel_rfl
def WfA (x : Ac) : Prop := In64 x.kind ∧ In64 x.a ∧ In64 x.b
set_option maxRecDepth 100000 in
theorem act_cells (n : Nat) (cs : List Value) (x : DataW H × List MemPlace) (h : DataW.trod enc Try.prog w base sp held n 26 cs = some x) : ∃ t : Ac, cs = acs t ∧ WfA t := by
  obtain ⟨ys, n', _, _, hlen, hyl, hf⟩ := DataW.trod_struct Try.underlying26 h
  rw [Try.cellsA] at hlen
  match cs, hlen with
  | [c0, c1, c2, c3], _ =>
    have g0 : DataW.trod enc Try.prog w base sp held n' 3 (([c0, c1, c2, c3].drop 0).take (Try.prog.cellsOf 3)) = ys[0]? := hf 0 _ rfl
    have g1 : DataW.trod enc Try.prog w base sp held n' 3 (([c0, c1, c2, c3].drop 1).take (Try.prog.cellsOf 3)) = ys[1]? := hf 1 _ rfl
    have g2 : DataW.trod enc Try.prog w base sp held n' 3 (([c0, c1, c2, c3].drop 2).take (Try.prog.cellsOf 3)) = ys[2]? := hf 2 _ rfl
    have g3 : DataW.trod enc Try.prog w base sp held n' 4 (([c0, c1, c2, c3].drop 3).take (Try.prog.cellsOf 4)) = ys[3]? := hf 3 _ rfl
    rw [Try.cellsI] at g0 g1 g2
    rw [Try.cellsB] at g3
    simp only [List.drop, List.take] at g0 g1 g2 g3
    obtain ⟨a0, e0, w0⟩ := leaf_int Try.underlying3 g0 (some_at hyl (by decide))
    obtain ⟨a1, e1, w1⟩ := leaf_int Try.underlying3 g1 (some_at hyl (by decide))
    obtain ⟨a2, e2, w2⟩ := leaf_int Try.underlying3 g2 (some_at hyl (by decide))
    obtain ⟨a3, e3⟩ := leaf_bool Try.underlying4 g3 (some_at hyl (by decide))
    simp only [List.cons.injEq, and_true] at e0 e1 e2 e3
    subst e0 e1 e2 e3
    exact ⟨⟨a0, a1, a2, a3⟩, rfl, w0, w1, w2⟩
/-- a slice of operations that came in -/
def CameA (w : World) (v : Value) (l : List Ac) : Prop := RdA w v l ∧ l.length ≤ 9223372036854775807
set_option maxRecDepth 100000 in
theorem open_cacts {v : Value} {d : DataW H} {ps : List MemPlace} {r : Reach} (hval : Value.okWide Try.prog w r b0 35 v) (hd : DataW.Trod enc Try.prog w base sp held 35 v d ps) : ∃ l, CameA w v l := by
  obtain ⟨a, len, cap, rfl⟩ := okWide_slice Try.underlying35 hval
  obtain ⟨fuel, hf⟩ := hd
  obtain ⟨l, h1, h2, h3⟩ := open_rdS acz acs WfA Try.underlying35 Try.cellsA (by omega) (fun n cs x h => act_cells n cs x h) (by simpa [Value.cells] using hf)
  exact ⟨l, ⟨h1, h3⟩, h2⟩
end
/-- the law -/
theorem appends_law (w : World) (cap : Int) (hc : (Lit.int .i64 cap).wf = true) (v : Value) (l : List Ac) (h : CameA w v l) :
    Calls Try.prog 4 #[.int .i64 cap, v] w fun e w' => e = .returned (.bool true) ∧ Below w.heap.size w w' := by
  obtain ⟨hr, hn⟩ := h
  by_cases hh : 1 ≤ cap ∧ cap ≤ 2000 ∧ l.length ≤ 40
  · exact appends_ok cap l v w hh.1 hh.2.1 hr hh.2.2
  · obtain ⟨sa, sc, rfl, _⟩ := RdS.form hr.1
    exact appends_out cap l sa sc w hn hh
end Go.Proofs.Ytiioojlihapdaaa
