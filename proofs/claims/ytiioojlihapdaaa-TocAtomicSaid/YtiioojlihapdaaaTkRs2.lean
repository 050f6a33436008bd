/- Reserve of the reference walked, continued (chapter 14). -/
import Derived.Test.YtiioojlihapdaaaTkRes
import Derived.Deep.RegionLaw
import Derived.Deep.Cut
import Derived.Deep.CutBlock
import Derived.Deep.DeepCutAuto
import Derived.Outline
namespace Go.Proofs.Ytiioojlihapdaaa
open Go.RowKit
set_option linter.unusedVariables false
theorem step_appT {ops : Array Oper} {o : Oper} {a : Act} {w : World} {K : Act → World → Prop} {Q : Exit → Act → World → Prop} {E : Prop} (hg : o.guard = none) (s x : Operand)
    (hop : o.op = .call { callee := .builtin .append, args := #[s, x], argTypes := #[22, 22] }) {base : Nat}
    {v : Value} {n : Nat} {l : List T.Trk} (hown : w.ownsRow base 40 7 v n (fl l)) (hv : a.eval s = v) {vs : Value} {m : List T.Trk} (hs : RdK w vs m) (hx : a.eval x = vs)
    (h63 : n + m.length ≤ 1099511627776) (hbase : base ≤ w.heap.size)
    (hK : ∀ v' w', w'.ownsRow base 40 7 v' (n + m.length) (fl (l ++ m)) → w.grownBy w' v.ownBlock → K (a.put o.dst v') w') :
    if Region.wanted o (yielded ops a.tmps) = true then Oper.wp Try.prog o a w K Q else E := by
  have hw : Region.wanted o (yielded ops a.tmps) = true := by simp [Region.wanted, hg]
  rw [if_pos hw]
  obtain ⟨i0, hi, hz0, hz1, hz2⟩ := info_parts Try.infoTrack
  obtain ⟨v', w', hrun, r1, r2, r3⟩ := run_app (ty := o.type) Try.underlying22 hi hz0 hz1 hz2 rfl (by omega) hown hs.reads (fl_one m) (by unfold maxLen; omega) (by omega) hbase
  unfold Oper.wp
  simp [execOp, hop, resolve, invoke, builtin, hv, hx, hrun, Result.andThen]
  rw [← fl_append] at r1
  exact hK v' w' r1 r2
theorem ra_all {w wc w5 : World} {N : Nat} {cl : Int} {fin : Bool} {sv : Value} {y0 y1 y2 y3 y4 y5 y6 : Int} (hst : St wc N cl fin sv) (hb1 : Below w.heap.size w wc) (hN : w.heap.size ≤ N) (hbx : Below (wc.heap.size + 1) (wc.alloc (.cells #[.int .i64 y0, .int .i64 y1, .int .i64 y2, .int .i64 y3, .int .i64 y4, .int .i64 y5, .int .i64 y6] 40)) w5) :
    St w5 N cl fin sv ∧ Below w.heap.size w w5 ∧ wc.heap.size < w5.heap.size ∧ w5.cell? ⟨N, 2, none⟩ = some sv ∧ w5.cell? ⟨wc.heap.size, 0, none⟩ = some (.int .i64 y0) ∧ w5.cell? ⟨wc.heap.size, 1, none⟩ = some (.int .i64 y1) ∧ w5.cell? ⟨wc.heap.size, 2, none⟩ = some (.int .i64 y2) ∧ w5.cell? ⟨wc.heap.size, 3, none⟩ = some (.int .i64 y3) ∧ w5.cell? ⟨wc.heap.size, 4, none⟩ = some (.int .i64 y4) ∧ w5.cell? ⟨wc.heap.size, 5, none⟩ = some (.int .i64 y5) ∧ w5.cell? ⟨wc.heap.size, 6, none⟩ = some (.int .i64 y6) := by
  have hlt := hst.lt
  have hs := hbx.size
  simp only [World.size_alloc] at hs
  have hst5 : St w5 N cl fin sv := (hst.alloc _).keep hbx (by omega)
  refine ⟨hst5, (hb1.alloc hb1.size _).trans (hbx.mono (by have := hb1.size; omega)), by omega, hst5.facts.2.2.1, ?_⟩
  refine ⟨(hbx.cell (p := ⟨wc.heap.size, 0, none⟩) (by simp only; omega)).trans (by simp [go_sem]), (hbx.cell (p := ⟨wc.heap.size, 1, none⟩) (by simp only; omega)).trans (by simp [go_sem]), (hbx.cell (p := ⟨wc.heap.size, 2, none⟩) (by simp only; omega)).trans (by simp [go_sem]), (hbx.cell (p := ⟨wc.heap.size, 3, none⟩) (by simp only; omega)).trans (by simp [go_sem]), (hbx.cell (p := ⟨wc.heap.size, 4, none⟩) (by simp only; omega)).trans (by simp [go_sem]), (hbx.cell (p := ⟨wc.heap.size, 5, none⟩) (by simp only; omega)).trans (by simp [go_sem]), (hbx.cell (p := ⟨wc.heap.size, 6, none⟩) (by simp only; omega)).trans (by simp [go_sem])⟩
theorem ra_gr {wc W w5 : World} {o : Obj} {A : Nat} (hW : Below (wc.heap.size + 1) (wc.alloc o) W) (hg : W.drew.grownBy w5 (some A)) (hA : wc.heap.size + 1 ≤ A) (hs : wc.heap.size + 1 ≤ W.heap.size) : Below (wc.heap.size + 1) (wc.alloc o) w5 :=
  hW.drew.trans ((Below.refl _ W.drew).grown hg hs (fun k hk => by obtain rfl := Option.some.inj hk; exact hA))
theorem own_nilAt {w : World} {base g : Nat} (h : w.heap[g]? = some (.cells #[] 40 (0, 0))) (hb : base ≤ g) : w.ownsRow base 40 7 (.slice (some ⟨g, 0, none⟩) 0 0) 0 (fl []) :=
  ⟨rfl, .inr ⟨g, 0, #[], rfl, hb, h, Nat.le_refl _, by simp [maxLen], rfl, rfl⟩⟩
theorem rdK_at1 {w : World} {g : Nat} {y : T.Trk} (h : w.heap[g]? = some (tobj y)) : RdK w (.slice (some ⟨g, 0, none⟩) 1 1) [y] := by
  refine ⟨_, 1, g, 0, rfl, Nat.le_refl _, fun i hi => ⟨rfl, fun j u hu => ?_⟩⟩
  have h0 : i = 0 := by simpa using hi
  subst h0
  rw [cell_of_row w g _ _ _ _ h, ← hu]
  simp [tcs, T.tr]


set_option maxRecDepth 100000 in
set_option maxHeartbeats 2000000 in
theorem rreserve_5 (cap cl : Int) (sv : Value) (l : List T.Trk) (count pk : Int) (w : World) (hr : RdK w sv l) (hf : Few l) (hV : T.validB cap cl false l = true) (hp : T.okPk count pk) (hi : -9223372036854775808 ≤ count ∧ count ≤ 9223372036854775807) (hn : l.length ≠ 99) (hn2 : cl ≠ 16) (hx : cap - T.stN cl l < count) : Calls Try.prog 32 #[.int .i64 cap, tval cl false sv, .int .i64 count, .int .i64 pk] w (OpP (Res.bad 12) w) := by
  have HI := Lib.hid hi; clear hi
  obtain ⟨pk1, pk2, pk3, pk4⟩ := hp
  have hcb : count ≤ 9223372036854775807 := HI.out.2
  have kd1 : decide (count < 1) = false := decide_eq_false (by omega)
  have kd2 : decide (pk < 0) = false := decide_eq_false (by omega)
  have kd3 : decide (1024 < pk) = false := decide_eq_false (by omega)
  have kd4 : 0 < pk → (count % pk != 0) = false := fun h => by
    have := pk4 h
    rw [Int.tmod_eq_emod_of_nonneg (by omega)] at this
    simp [this]
  clear pk4
  obtain ⟨c1, c2, c3, c4, c5, _⟩ := T.validB_true.1 hV
  obtain ⟨at1, at2⟩ := stN_bds (T.validB_true.1 hV)
  have hq1 : ((l.length : Int) == 99) = false := by rw [beq_eq_false_iff_ne]; omega
  have hq2 : (cl == 16) = false := by rw [beq_eq_false_iff_ne]; omega
  have HFw := Lib.hid hf
  by_cases hl0 : l.length = 0
  · have hat0 : T.stN cl l = 0 := by unfold T.stN; rw [if_pos hl0]
    rw [hat0] at hx
    have HY0 := Lib.hid hat0; clear hat0
    have hn0 : decide (0 < (l.length : Int)) = false := decide_eq_false (by omega)
    have hn1 : decide (0 < l.length) = false := decide_eq_false (by omega)
    have HL0 := Lib.hid hl0; clear hl0
    have hd : decide (cap - 0 < count) = true := decide_eq_true hx
    have hd' : decide (cap < count) = true := decide_eq_true (by omega)
    by_cases hz : pk = 0
    · have hzd : decide (0 < pk) = false := decide_eq_false (by omega)
      clear kd4 hz
      obtain ⟨a, c, rfl, hac⟩ := RdS.form hr
      have hb0 := box2_below w cl false (.slice a l.length c)
      have hcon := rvalid_any cap cl false _ l _ (hr.keep hb0) hf
      have HCON := Lib.hid hcon; clear hcon
      have hst0 := St.new w cl false (.slice a l.length c)
      have HV := Lib.hid hV; clear hV
      go_enter Try.func32, Try.ntmps32
      go_wp2_with fail
      refine HCON.out.mono ?_
      rintro e w1 ⟨rfl, hb⟩
      rw [HV.out]
      have hst := hst0.call hb
      have hb1 := hb0.trans (hb.mono hb0.size)
      obtain ⟨ht0, ht1, ht2, hs0, hs1, hs2, hf0, hf1⟩ := hst.facts
      have hw1 := hst.lt
      have hw0 : w.heap.size < w1.heap.size := by omega
      clear hb hst0 hb0
      go_wp2_with fail
      refine bodyPost_ret (v := .tuple #[tval 0 false (.slice none 0 0), .int .i64 12]) (by simp [results, Try.results32, go_sem, hs0, hs1, hs2]) rfl ⟨_, rfl, RdK.nil _, ?_⟩
      exact ((hb1.setCell (by simp) _).setCell (by simp) _).setCell (by simp) _
    · have hzd : decide (0 < pk) = true := decide_eq_true (by omega)
      have kd5 := kd4 (by omega)
      have hz0 : 0 < pk := by omega
      clear kd4 hz
      obtain ⟨a, c, rfl, hac⟩ := RdS.form hr
      have hb0 := box2_below w cl false (.slice a l.length c)
      have hcon := rvalid_any cap cl false _ l _ (hr.keep hb0) hf
      have HCON := Lib.hid hcon; clear hcon
      have hst0 := St.new w cl false (.slice a l.length c)
      have HV := Lib.hid hV; clear hV
      go_enter Try.func32, Try.ntmps32
      go_wp2_with fail
      refine HCON.out.mono ?_
      rintro e w1 ⟨rfl, hb⟩
      rw [HV.out]
      have hst := hst0.call hb
      have hb1 := hb0.trans (hb.mono hb0.size)
      obtain ⟨ht0, ht1, ht2, hs0, hs1, hs2, hf0, hf1⟩ := hst.facts
      have hw1 := hst.lt
      have hw0 : w.heap.size < w1.heap.size := by omega
      clear hb hst0 hb0
      go_wp2_with fail
      refine bodyPost_ret (v := .tuple #[tval 0 false (.slice none 0 0), .int .i64 12]) (by simp [results, Try.results32, go_sem, hs0, hs1, hs2]) rfl ⟨_, rfl, RdK.nil _, ?_⟩
      exact ((hb1.setCell (by simp) _).setCell (by simp) _).setCell (by simp) _
  · obtain ⟨m, hm⟩ : ∃ m, l.length = m + 1 := ⟨l.length - 1, by omega⟩
    have hat0 : T.stN cl l = if (T.tr l m).ses ≤ cl then (T.tr l m).st + (T.tr l m).len + 16 else (T.tr l m).st + (T.tr l m).len := by
      unfold T.stN T.sB T.eB
      rw [if_neg hl0, if_neg hl0, if_neg hl0, hm]; rfl
    obtain ⟨sm1, sm2, sm3, sm4, sm5, sm6, sm7⟩ := HFw.out.2 m (by omega)
    have hn0 : decide (0 < (l.length : Int)) = true := decide_eq_true (by omega)
    have hn1 : decide (0 < l.length) = true := decide_eq_true (by omega)
    have hml : m < l.length := by omega
    have hm1 : ((l.length : Int) - 1) = (m : Int) := by omega
    have hm2 : IntKind.i64.wrap ((l.length : Int) - 1) = (m : Int) := by rw [hm1]; exact IntWalk.i64_in _ (by omega)
    have Hm := Lib.hid hm; clear hm
    by_cases hz : pk = 0
    · have hzd : decide (0 < pk) = false := decide_eq_false (by omega)
      clear kd4 hz
      obtain ⟨a, c, rfl, hac⟩ := RdS.form hr
      have hb0 := box2_below w cl false (.slice a l.length c)
      have hcon := rvalid_any cap cl false _ l _ (hr.keep hb0) hf
      have HCON := Lib.hid hcon; clear hcon
      have hst0 := St.new w cl false (.slice a l.length c)
      have HV := Lib.hid hV; clear hV
      go_enter Try.func32, Try.ntmps32
      go_wp2_with fail
      refine HCON.out.mono ?_
      rintro e w1 ⟨rfl, hb⟩
      rw [HV.out]
      have hst := hst0.call hb
      have hb1 := hb0.trans (hb.mono hb0.size)
      obtain ⟨ht0, ht1, ht2, hs0, hs1, hs2, hf0, hf1⟩ := hst.facts
      have hw1 := hst.lt
      have hw0 : w.heap.size < w1.heap.size := by omega
      clear hb hst0 hb0
      have hrx := RdK.keep hr hb1
      obtain ⟨a', c', b, off, hv', hac', hcell⟩ := hrx
      obtain ⟨rfl, _, rfl⟩ : a = a' ∧ True ∧ c = c' := by injection hv' with h1 h2 h3; exact ⟨h1, trivial, h3⟩
      obtain ⟨ha, hrange⟩ := hcell m hml
      simp only at hrange
      clear hcell hv'
      have hix := fun w' => run_idxS Try.underlying22 Try.sizeTrack (cap := c) ha hml _ rfl w'
      obtain ⟨x, hxe⟩ : ∃ x, x = T.tr l m := ⟨_, rfl⟩
      rw [← hxe] at hrange hat0 sm3 sm4
      obtain ⟨hc0, hc1, hc2, hc3, hc4, hc5, hc6⟩ := rd7 hrange
      unfold sm at sm3 sm4
      have Ha := Lib.hid ha; clear ha hrange hxe
      by_cases hses : x.ses ≤ cl
      · have hsd : decide (x.ses ≤ cl) = true := decide_eq_true hses
        rw [if_pos hses] at hat0
        rw [hat0] at hx at1 at2
        clear hat0 hses
        have hd : decide (cap - (x.st + x.len + 16) < count) = true := decide_eq_true hx
        go_wp2_with fail
        go_quiet (fail)
        go_wp2_with fail
        go_quiet (fail)
        go_wp2_with fail
        refine bodyPost_ret (v := .tuple #[tval 0 false (.slice none 0 0), .int .i64 12]) (by simp [results, Try.results32, go_sem, hs0, hs1, hs2]) rfl ⟨_, rfl, RdK.nil _, ?_⟩
        exact (((Below.drewN hb1 _).setCell (by simp) _).setCell (by simp) _).setCell (by simp) _
      · have hsd : decide (x.ses ≤ cl) = false := decide_eq_false hses
        rw [if_neg hses] at hat0
        rw [hat0] at hx at1 at2
        clear hat0 hses
        have hd : decide (cap - (x.st + x.len) < count) = true := decide_eq_true hx
        go_wp2_with fail
        go_quiet (fail)
        go_wp2_with fail
        go_quiet (fail)
        go_wp2_with fail
        refine bodyPost_ret (v := .tuple #[tval 0 false (.slice none 0 0), .int .i64 12]) (by simp [results, Try.results32, go_sem, hs0, hs1, hs2]) rfl ⟨_, rfl, RdK.nil _, ?_⟩
        exact (((Below.drewN hb1 _).setCell (by simp) _).setCell (by simp) _).setCell (by simp) _
    · have hzd : decide (0 < pk) = true := decide_eq_true (by omega)
      have kd5 := kd4 (by omega)
      have hz0 : 0 < pk := by omega
      clear kd4 hz
      obtain ⟨a, c, rfl, hac⟩ := RdS.form hr
      have hb0 := box2_below w cl false (.slice a l.length c)
      have hcon := rvalid_any cap cl false _ l _ (hr.keep hb0) hf
      have HCON := Lib.hid hcon; clear hcon
      have hst0 := St.new w cl false (.slice a l.length c)
      have HV := Lib.hid hV; clear hV
      go_enter Try.func32, Try.ntmps32
      go_wp2_with fail
      refine HCON.out.mono ?_
      rintro e w1 ⟨rfl, hb⟩
      rw [HV.out]
      have hst := hst0.call hb
      have hb1 := hb0.trans (hb.mono hb0.size)
      obtain ⟨ht0, ht1, ht2, hs0, hs1, hs2, hf0, hf1⟩ := hst.facts
      have hw1 := hst.lt
      have hw0 : w.heap.size < w1.heap.size := by omega
      clear hb hst0 hb0
      have hrx := RdK.keep hr hb1
      obtain ⟨a', c', b, off, hv', hac', hcell⟩ := hrx
      obtain ⟨rfl, _, rfl⟩ : a = a' ∧ True ∧ c = c' := by injection hv' with h1 h2 h3; exact ⟨h1, trivial, h3⟩
      obtain ⟨ha, hrange⟩ := hcell m hml
      simp only at hrange
      clear hcell hv'
      have hix := fun w' => run_idxS Try.underlying22 Try.sizeTrack (cap := c) ha hml _ rfl w'
      obtain ⟨x, hxe⟩ : ∃ x, x = T.tr l m := ⟨_, rfl⟩
      rw [← hxe] at hrange hat0 sm3 sm4
      obtain ⟨hc0, hc1, hc2, hc3, hc4, hc5, hc6⟩ := rd7 hrange
      unfold sm at sm3 sm4
      have Ha := Lib.hid ha; clear ha hrange hxe
      by_cases hses : x.ses ≤ cl
      · have hsd : decide (x.ses ≤ cl) = true := decide_eq_true hses
        rw [if_pos hses] at hat0
        rw [hat0] at hx at1 at2
        clear hat0 hses
        have hd : decide (cap - (x.st + x.len + 16) < count) = true := decide_eq_true hx
        go_wp2_with fail
        go_quiet (fail)
        go_wp2_with fail
        go_quiet (fail)
        go_wp2_with fail
        refine bodyPost_ret (v := .tuple #[tval 0 false (.slice none 0 0), .int .i64 12]) (by simp [results, Try.results32, go_sem, hs0, hs1, hs2]) rfl ⟨_, rfl, RdK.nil _, ?_⟩
        exact (((Below.drewN hb1 _).setCell (by simp) _).setCell (by simp) _).setCell (by simp) _
      · have hsd : decide (x.ses ≤ cl) = false := decide_eq_false hses
        rw [if_neg hses] at hat0
        rw [hat0] at hx at1 at2
        clear hat0 hses
        have hd : decide (cap - (x.st + x.len) < count) = true := decide_eq_true hx
        go_wp2_with fail
        go_quiet (fail)
        go_wp2_with fail
        go_quiet (fail)
        go_wp2_with fail
        refine bodyPost_ret (v := .tuple #[tval 0 false (.slice none 0 0), .int .i64 12]) (by simp [results, Try.results32, go_sem, hs0, hs1, hs2]) rfl ⟨_, rfl, RdK.nil _, ?_⟩
        exact (((Below.drewN hb1 _).setCell (by simp) _).setCell (by simp) _).setCell (by simp) _
set_option maxRecDepth 100000 in
set_option maxHeartbeats 12000000 in
theorem rreserve_6 (cap cl : Int) (sv : Value) (l : List T.Trk) (count pk : Int) (w : World) (hr : RdK w sv l) (hf : Few l) (hV : T.validB cap cl false l = true) (hp : T.okPk count pk) (hi : -9223372036854775808 ≤ count ∧ count ≤ 9223372036854775807) (hn : l.length ≠ 99) (hn2 : cl ≠ 16) (hx : ¬ cap - T.stN cl l < count) : Calls Try.prog 32 #[.int .i64 cap, tval cl false sv, .int .i64 count, .int .i64 pk] w (OpP ⟨cl, false, l ++ [T.newT cl l count pk], 0⟩ w) := by
  have HI := Lib.hid hi; clear hi
  obtain ⟨pk1, pk2, pk3, pk4⟩ := hp
  have hcb : count ≤ 9223372036854775807 := HI.out.2
  have kd1 : decide (count < 1) = false := decide_eq_false (by omega)
  have kd2 : decide (pk < 0) = false := decide_eq_false (by omega)
  have kd3 : decide (1024 < pk) = false := decide_eq_false (by omega)
  have kd4 : 0 < pk → (count % pk != 0) = false := fun h => by
    have := pk4 h
    rw [Int.tmod_eq_emod_of_nonneg (by omega)] at this
    simp [this]
  clear pk4
  obtain ⟨c1, c2, c3, c4, c5, _⟩ := T.validB_true.1 hV
  obtain ⟨at1, at2⟩ := stN_bds (T.validB_true.1 hV)
  have hq1 : ((l.length : Int) == 99) = false := by rw [beq_eq_false_iff_ne]; omega
  have hq2 : (cl == 16) = false := by rw [beq_eq_false_iff_ne]; omega
  have HFw := Lib.hid hf
  by_cases hz : pk = 0
  · have hzd : decide (0 < pk) = false := decide_eq_false (by omega)
    clear kd4 hz
    obtain ⟨a, c, rfl, hac⟩ := RdS.form hr
    have hb0 := box2_below w cl false (.slice a l.length c)
    have hcon := rvalid_any cap cl false _ l _ (hr.keep hb0) hf
    have HCON := Lib.hid hcon; clear hcon
    have hst0 := St.new w cl false (.slice a l.length c)
    have HV := Lib.hid hV; clear hV
    go_enter Try.func32, Try.ntmps32
    go_wp2_with fail
    refine HCON.out.mono ?_
    rintro e w1 ⟨rfl, hb⟩
    rw [HV.out]
    have hst := hst0.call hb
    have hb1 := hb0.trans (hb.mono hb0.size)
    obtain ⟨ht0, ht1, ht2, hs0, hs1, hs2, hf0, hf1⟩ := hst.facts
    have hw1 := hst.lt
    have hw0 : w.heap.size < w1.heap.size := by omega
    clear hb hst0 hb0
    obtain ⟨at_, hat⟩ : ∃ at_, at_ = T.stN cl l := ⟨_, rfl⟩
    rw [← hat] at at1 at2 hx
    have HAT := Lib.hid hat; clear hat
    go_upto_if 60 with (fail)
    go_cut [10] (fun s10 wx => s10 = .int .i64 at_ ∧ St wx w.heap.size cl false (.slice a l.length c) ∧ Below w.heap.size w wx)
    case first =>
      by_cases hl0 : l.length = 0
      · have hat0 : at_ = 0 := by rw [HAT.out]; unfold T.stN; rw [if_pos hl0]
        have hn0 : decide (0 < (l.length : Int)) = false := decide_eq_false (by omega)
        have hn1 : decide (0 < l.length) = false := decide_eq_false (by omega)
        have HL0 := Lib.hid hl0; clear hl0
        have HAT0 := Lib.hid hat0; clear hat0
        simp only [hn1]
        go_wp2_with fail
        go_meet
        case rel => exact ⟨by rw [HAT0.out], hst, hb1⟩
      · obtain ⟨m, hm⟩ : ∃ m, l.length = m + 1 := ⟨l.length - 1, by omega⟩
        have hat0 : T.stN cl l = if (T.tr l m).ses ≤ cl then (T.tr l m).st + (T.tr l m).len + 16 else (T.tr l m).st + (T.tr l m).len := by
          unfold T.stN T.sB T.eB
          rw [if_neg hl0, if_neg hl0, if_neg hl0, hm]; rfl
        obtain ⟨sm1, sm2, sm3, sm4, sm5, sm6, sm7⟩ := HFw.out.2 m (by omega)
        have hn0 : decide (0 < (l.length : Int)) = true := decide_eq_true (by omega)
        have hn1 : decide (0 < l.length) = true := decide_eq_true (by omega)
        have hml : m < l.length := by omega
        have hm1 : ((l.length : Int) - 1) = (m : Int) := by omega
        have hm2 : IntKind.i64.wrap ((l.length : Int) - 1) = (m : Int) := by rw [hm1]; exact IntWalk.i64_in _ (by omega)
        have Hm := Lib.hid hm; clear hm
        have hrx := RdK.keep hr hb1
        obtain ⟨a', c', b, off, hv', hac', hcell⟩ := hrx
        obtain ⟨rfl, _, rfl⟩ : a = a' ∧ True ∧ c = c' := by injection hv' with h1 h2 h3; exact ⟨h1, trivial, h3⟩
        obtain ⟨ha, hrange⟩ := hcell m hml
        simp only at hrange
        clear hcell hv'
        have hix := fun w' => run_idxS Try.underlying22 Try.sizeTrack (cap := c) ha hml _ rfl w'
        obtain ⟨x, hxe⟩ : ∃ x, x = T.tr l m := ⟨_, rfl⟩
        rw [← hxe] at hrange hat0 sm3 sm4
        obtain ⟨hc0, hc1, hc2, hc3, hc4, hc5, hc6⟩ := rd7 hrange
        unfold sm at sm3 sm4
        have Ha := Lib.hid ha; clear ha hrange hxe
        rw [← HAT.out] at hat0
        by_cases hses : x.ses ≤ cl
        · have hsd : decide (x.ses ≤ cl) = true := decide_eq_true hses
          rw [if_pos hses] at hat0
          have HAT0 := Lib.hid hat0
          clear hat0 hses
          go_wp2_with fail
          go_quiet (fail)
          go_wp2_with fail
          go_quiet (fail)
          go_wp2_with fail
          go_meet
          case rel => exact ⟨by rw [HAT0.out], hst, ⟨hb1.os, hb1.tape, hb1.output, hb1.size, hb1.block⟩⟩
        · have hsd : decide (x.ses ≤ cl) = false := decide_eq_false hses
          rw [if_neg hses] at hat0
          have HAT0 := Lib.hid hat0
          clear hat0 hses
          go_wp2_with fail
          go_quiet (fail)
          go_wp2_with fail
          go_quiet (fail)
          go_wp2_with fail
          go_meet
          case rel => exact ⟨by rw [HAT0.out], hst, ⟨hb1.os, hb1.tape, hb1.output, hb1.size, hb1.block⟩⟩
    clear ht0 ht1 ht2 hs0 hs1 hs2 hf0 hf1 hst hb1 hw1 hw0
    obtain ⟨rfl, hst, hb1⟩ := hcut
    obtain ⟨ht0, ht1, ht2, hs0, hs1, hs2, hf0, hf1⟩ := hst.facts
    have hw1 := hst.lt
    have hd : decide (cap - at_ < count) = false := decide_eq_false (by omega)
    obtain ⟨y, hy⟩ : ∃ y : T.Trk, y = ⟨(l.length : Int) + 1, cl + 1, at_, count, at_, 0, pk⟩ := ⟨_, rfl⟩
    have HY : Hid (y = T.newT cl l count pk) := Lib.hid (by rw [hy, HAT.out]; rfl)
    have hyf : y.num = (l.length : Int) + 1 ∧ y.ses = cl + 1 ∧ y.st = at_ ∧ y.len = count ∧ y.nx = at_ ∧ y.sta = 0 ∧ y.pk = pk := by rw [hy]; exact ⟨rfl, rfl, rfl, rfl, rfl, rfl, rfl⟩
    have HYF := Lib.hid hyf; clear hyf hy
    go_upto_region 18 with (fail)
    have hXl : w.heap.size + 1 < wc.heap.size := hst.lt
    have hXl0 : w.heap.size < wc.heap.size := by omega
    have hXl1 : w.heap.size < wc.heap.size + 1 := by omega
    have hXl2 : w.heap.size < wc.heap.size + 1 + 1 := by omega
    have hXl3 : wc.heap.size < wc.heap.size + 1 + 1 := by omega
    have hYo : tobj y = (.cells #[.int .i64 ((l.length : Int) + 1), .int .i64 (cl + 1), .int .i64 at_, .int .i64 count, .int .i64 at_, .int .i64 0, .int .i64 pk] 40) := by obtain ⟨q0, q1, q2, q3, q4, q5, q6⟩ := HYF.out; unfold tobj; rw [q0, q1, q2, q3, q4, q5, q6]
    have HYO := Lib.hid hYo; clear hYo
    have hrc := RdK.keep hr hb1
    have hW1 : Below (wc.heap.size + 1) (wc.alloc (.cells #[.int .i64 ((l.length : Int) + 1), .int .i64 (cl + 1), .int .i64 at_, .int .i64 count, .int .i64 at_, .int .i64 0, .int .i64 pk] 40)) ((wc.alloc (.cells #[.int .i64 ((l.length : Int) + 1), .int .i64 (cl + 1), .int .i64 at_, .int .i64 count, .int .i64 at_, .int .i64 0, .int .i64 pk] 40)).alloc (.cells #[] 40)) := (Below.refl _ _).alloc (by simp) _
    have hA1 : ((wc.alloc (.cells #[.int .i64 ((l.length : Int) + 1), .int .i64 (cl + 1), .int .i64 at_, .int .i64 count, .int .i64 at_, .int .i64 0, .int .i64 pk] 40)).alloc (.cells #[] 40)).drew.ownsRow (wc.heap.size + 1) 40 7 (.slice (some ⟨wc.heap.size + 1, 0, none⟩) 0 0) 0 (fl []) := own_nilAt (w := World.drew ((wc.alloc (.cells #[.int .i64 ((l.length : Int) + 1), .int .i64 (cl + 1), .int .i64 at_, .int .i64 count, .int .i64 at_, .int .i64 0, .int .i64 pk] 40)).alloc (.cells #[] 40))) (by have h : (((wc.alloc (.cells #[.int .i64 ((l.length : Int) + 1), .int .i64 (cl + 1), .int .i64 at_, .int .i64 count, .int .i64 at_, .int .i64 0, .int .i64 pk] 40)).alloc (.cells #[] 40))).heap[wc.heap.size + 1]? = some (.cells #[] 40) := (by have := heap_alloc_new (wc.alloc (.cells #[.int .i64 ((l.length : Int) + 1), .int .i64 (cl + 1), .int .i64 at_, .int .i64 count, .int .i64 at_, .int .i64 0, .int .i64 pk] 40)) (.cells #[] 40); rwa [World.size_alloc] at this); exact h) (by omega)
    have hR1 : RdK ((wc.alloc (.cells #[.int .i64 ((l.length : Int) + 1), .int .i64 (cl + 1), .int .i64 at_, .int .i64 count, .int .i64 at_, .int .i64 0, .int .i64 pk] 40)).alloc (.cells #[] 40)).drew (.slice a l.length c) l := hrc.keepW fun k hk => (hW1.block k (by omega)).trans (Below.heap_alloc _ _ _ hk)
    have HW1 := Lib.hid hW1; have HA1 := Lib.hid hA1; have HR1 := Lib.hid hR1; clear hW1 hA1 hR1
    have hW2 : Below (wc.heap.size + 1) (wc.alloc (.cells #[.int .i64 ((l.length : Int) + 1), .int .i64 (cl + 1), .int .i64 at_, .int .i64 count, .int .i64 at_, .int .i64 0, .int .i64 pk] 40)) (((wc.alloc (.cells #[.int .i64 ((l.length : Int) + 1), .int .i64 (cl + 1), .int .i64 at_, .int .i64 count, .int .i64 at_, .int .i64 0, .int .i64 pk] 40)).alloc (.cells #[] 40)).alloc (.cells #[.int .i64 ((l.length : Int) + 1), .int .i64 (cl + 1), .int .i64 at_, .int .i64 count, .int .i64 at_, .int .i64 0, .int .i64 pk] 40)) := ((Below.refl _ _).alloc (by simp) _).alloc (by simp <;> omega) _
    have hA2 : (((wc.alloc (.cells #[.int .i64 ((l.length : Int) + 1), .int .i64 (cl + 1), .int .i64 at_, .int .i64 count, .int .i64 at_, .int .i64 0, .int .i64 pk] 40)).alloc (.cells #[] 40)).alloc (.cells #[.int .i64 ((l.length : Int) + 1), .int .i64 (cl + 1), .int .i64 at_, .int .i64 count, .int .i64 at_, .int .i64 0, .int .i64 pk] 40)).drew.ownsRow (wc.heap.size + 1) 40 7 (.slice (some ⟨wc.heap.size + 1, 0, none⟩) 0 0) 0 (fl []) := own_nilAt (w := World.drew (((wc.alloc (.cells #[.int .i64 ((l.length : Int) + 1), .int .i64 (cl + 1), .int .i64 at_, .int .i64 count, .int .i64 at_, .int .i64 0, .int .i64 pk] 40)).alloc (.cells #[] 40)).alloc (.cells #[.int .i64 ((l.length : Int) + 1), .int .i64 (cl + 1), .int .i64 at_, .int .i64 count, .int .i64 at_, .int .i64 0, .int .i64 pk] 40))) (by have h : ((((wc.alloc (.cells #[.int .i64 ((l.length : Int) + 1), .int .i64 (cl + 1), .int .i64 at_, .int .i64 count, .int .i64 at_, .int .i64 0, .int .i64 pk] 40)).alloc (.cells #[] 40)).alloc (.cells #[.int .i64 ((l.length : Int) + 1), .int .i64 (cl + 1), .int .i64 at_, .int .i64 count, .int .i64 at_, .int .i64 0, .int .i64 pk] 40))).heap[wc.heap.size + 1]? = some (.cells #[] 40) := ((Below.heap_alloc _ _ _ (by simp)).trans (by have := heap_alloc_new (wc.alloc (.cells #[.int .i64 ((l.length : Int) + 1), .int .i64 (cl + 1), .int .i64 at_, .int .i64 count, .int .i64 at_, .int .i64 0, .int .i64 pk] 40)) (.cells #[] 40); rwa [World.size_alloc] at this)); exact h) (by omega)
    have hR2 : RdK (((wc.alloc (.cells #[.int .i64 ((l.length : Int) + 1), .int .i64 (cl + 1), .int .i64 at_, .int .i64 count, .int .i64 at_, .int .i64 0, .int .i64 pk] 40)).alloc (.cells #[] 40)).alloc (.cells #[.int .i64 ((l.length : Int) + 1), .int .i64 (cl + 1), .int .i64 at_, .int .i64 count, .int .i64 at_, .int .i64 0, .int .i64 pk] 40)).drew (.slice a l.length c) l := hrc.keepW fun k hk => (hW2.block k (by omega)).trans (Below.heap_alloc _ _ _ hk)
    have HW2 := Lib.hid hW2; have HA2 := Lib.hid hA2; have HR2 := Lib.hid hR2; clear hW2 hA2 hR2
    have hW3 : Below (wc.heap.size + 1) (wc.alloc (.cells #[.int .i64 ((l.length : Int) + 1), .int .i64 (cl + 1), .int .i64 at_, .int .i64 count, .int .i64 at_, .int .i64 0, .int .i64 pk] 40)) (((wc.alloc (.cells #[.int .i64 ((l.length : Int) + 1), .int .i64 (cl + 1), .int .i64 at_, .int .i64 count, .int .i64 at_, .int .i64 0, .int .i64 pk] 40)).alloc (.cells #[.int .i64 ((l.length : Int) + 1), .int .i64 (cl + 1), .int .i64 at_, .int .i64 count, .int .i64 at_, .int .i64 0, .int .i64 pk] 40)).alloc (.cells #[] 40)) := ((Below.refl _ _).alloc (by simp) _).alloc (by simp <;> omega) _
    have hA3 : (((wc.alloc (.cells #[.int .i64 ((l.length : Int) + 1), .int .i64 (cl + 1), .int .i64 at_, .int .i64 count, .int .i64 at_, .int .i64 0, .int .i64 pk] 40)).alloc (.cells #[.int .i64 ((l.length : Int) + 1), .int .i64 (cl + 1), .int .i64 at_, .int .i64 count, .int .i64 at_, .int .i64 0, .int .i64 pk] 40)).alloc (.cells #[] 40)).drew.ownsRow (wc.heap.size + 1) 40 7 (.slice (some ⟨wc.heap.size + 1 + 1, 0, none⟩) 0 0) 0 (fl []) := own_nilAt (w := World.drew (((wc.alloc (.cells #[.int .i64 ((l.length : Int) + 1), .int .i64 (cl + 1), .int .i64 at_, .int .i64 count, .int .i64 at_, .int .i64 0, .int .i64 pk] 40)).alloc (.cells #[.int .i64 ((l.length : Int) + 1), .int .i64 (cl + 1), .int .i64 at_, .int .i64 count, .int .i64 at_, .int .i64 0, .int .i64 pk] 40)).alloc (.cells #[] 40))) (by have h : ((((wc.alloc (.cells #[.int .i64 ((l.length : Int) + 1), .int .i64 (cl + 1), .int .i64 at_, .int .i64 count, .int .i64 at_, .int .i64 0, .int .i64 pk] 40)).alloc (.cells #[.int .i64 ((l.length : Int) + 1), .int .i64 (cl + 1), .int .i64 at_, .int .i64 count, .int .i64 at_, .int .i64 0, .int .i64 pk] 40)).alloc (.cells #[] 40))).heap[wc.heap.size + 1 + 1]? = some (.cells #[] 40) := (by have := heap_alloc_new ((wc.alloc (.cells #[.int .i64 ((l.length : Int) + 1), .int .i64 (cl + 1), .int .i64 at_, .int .i64 count, .int .i64 at_, .int .i64 0, .int .i64 pk] 40)).alloc (.cells #[.int .i64 ((l.length : Int) + 1), .int .i64 (cl + 1), .int .i64 at_, .int .i64 count, .int .i64 at_, .int .i64 0, .int .i64 pk] 40)) (.cells #[] 40); rwa [World.size_alloc, World.size_alloc] at this); exact h) (by omega)
    have hR3 : RdK (((wc.alloc (.cells #[.int .i64 ((l.length : Int) + 1), .int .i64 (cl + 1), .int .i64 at_, .int .i64 count, .int .i64 at_, .int .i64 0, .int .i64 pk] 40)).alloc (.cells #[.int .i64 ((l.length : Int) + 1), .int .i64 (cl + 1), .int .i64 at_, .int .i64 count, .int .i64 at_, .int .i64 0, .int .i64 pk] 40)).alloc (.cells #[] 40)).drew (.slice a l.length c) l := hrc.keepW fun k hk => (hW3.block k (by omega)).trans (Below.heap_alloc _ _ _ hk)
    have HW3 := Lib.hid hW3; have HA3 := Lib.hid hA3; have HR3 := Lib.hid hR3; clear hW3 hA3 hR3
    have hB2 : (((wc.alloc (.cells #[.int .i64 ((l.length : Int) + 1), .int .i64 (cl + 1), .int .i64 at_, .int .i64 count, .int .i64 at_, .int .i64 0, .int .i64 pk] 40)).alloc (.cells #[] 40)).alloc (.cells #[.int .i64 ((l.length : Int) + 1), .int .i64 (cl + 1), .int .i64 at_, .int .i64 count, .int .i64 at_, .int .i64 0, .int .i64 pk] 40)).heap[wc.heap.size + 1 + 1]? = some (tobj y) := by
      rw [HYO.out]
      exact by have := heap_alloc_new ((wc.alloc (.cells #[.int .i64 ((l.length : Int) + 1), .int .i64 (cl + 1), .int .i64 at_, .int .i64 count, .int .i64 at_, .int .i64 0, .int .i64 pk] 40)).alloc (.cells #[] 40)) (.cells #[.int .i64 ((l.length : Int) + 1), .int .i64 (cl + 1), .int .i64 at_, .int .i64 count, .int .i64 at_, .int .i64 0, .int .i64 pk] 40); rwa [World.size_alloc, World.size_alloc] at this
    have HB2 := Lib.hid hB2; clear hB2
    have hB3 : (((wc.alloc (.cells #[.int .i64 ((l.length : Int) + 1), .int .i64 (cl + 1), .int .i64 at_, .int .i64 count, .int .i64 at_, .int .i64 0, .int .i64 pk] 40)).alloc (.cells #[.int .i64 ((l.length : Int) + 1), .int .i64 (cl + 1), .int .i64 at_, .int .i64 count, .int .i64 at_, .int .i64 0, .int .i64 pk] 40)).alloc (.cells #[] 40)).heap[wc.heap.size + 1]? = some (tobj y) := by
      rw [HYO.out]
      exact (Below.heap_alloc _ _ _ (by simp)).trans (by have := heap_alloc_new (wc.alloc (.cells #[.int .i64 ((l.length : Int) + 1), .int .i64 (cl + 1), .int .i64 at_, .int .i64 count, .int .i64 at_, .int .i64 0, .int .i64 pk] 40)) (.cells #[.int .i64 ((l.length : Int) + 1), .int .i64 (cl + 1), .int .i64 at_, .int .i64 count, .int .i64 at_, .int .i64 0, .int .i64 pk] 40); rwa [World.size_alloc] at this)
    have HB3 := Lib.hid hB3; clear hB3
    clear hrc
    go_region_law (first | ((with_reducible refine step_appT ?_ (.tmp 106) (.tmp 108) ?_ HA1.out ?_ HR1.out ?_ ?_ ?_ ?_); rfl; rfl; rfl; rfl; omega; (simp <;> omega); intro v5 w5 hown5 hg5; have hbx := ra_gr (A := wc.heap.size + 1) HW1.out hg5 (by omega) (by simp <;> omega); obtain ⟨hst5, hb5, hw5, he0, he1, he2, he3, he4, he5, he6, he7⟩ := ra_all hst hb1 (Nat.le_refl _) hbx; rw [Nat.zero_add, List.nil_append] at hown5; have hown5' := own_kept hown5 ((Below.refl _ _).alloc (Nat.le_refl _) (.cells #[.int .i64 ((l.length : Int) + 1), .int .i64 (cl + 1), .int .i64 at_, .int .i64 count, .int .i64 at_, .int .i64 0, .int .i64 pk] 40)).block; have hrB := RdK.one w5 y; rw [HYO.out] at hrB; have HRB := Lib.hid hrB; clear hrB) | ((with_reducible refine step_appT ?_ (.tmp 106) (.tmp 108) ?_ HA2.out ?_ HR2.out ?_ ?_ ?_ ?_); rfl; rfl; rfl; rfl; omega; (simp <;> omega); intro v5 w5 hown5 hg5; have hbx := ra_gr (A := wc.heap.size + 1) HW2.out hg5 (by omega) (by simp <;> omega); obtain ⟨hst5, hb5, hw5, he0, he1, he2, he3, he4, he5, he6, he7⟩ := ra_all hst hb1 (Nat.le_refl _) hbx; rw [Nat.zero_add, List.nil_append] at hown5; have hrB : RdK w5 _ [y] := rdK_at1 ((hg5.block (wc.heap.size + 1 + 1) (by simp) (by simp [Value.ownBlock])).trans HB2.out); have HRB := Lib.hid hrB; clear hrB) | ((with_reducible refine step_appT ?_ (.tmp 106) (.tmp 108) ?_ HA3.out ?_ HR3.out ?_ ?_ ?_ ?_); rfl; rfl; rfl; rfl; omega; (simp <;> omega); intro v5 w5 hown5 hg5; have hbx := ra_gr (A := wc.heap.size + 1 + 1) HW3.out hg5 (by omega) (by simp <;> omega); obtain ⟨hst5, hb5, hw5, he0, he1, he2, he3, he4, he5, he6, he7⟩ := ra_all hst hb1 (Nat.le_refl _) hbx; rw [Nat.zero_add, List.nil_append] at hown5; have hrB : RdK w5 _ [y] := rdK_at1 ((hg5.block (wc.heap.size + 1) (by simp) (by simp [Value.ownBlock])).trans HB3.out); have HRB := Lib.hid hrB; clear hrB) | ((with_reducible refine step_appT ?_ (.tmp 109) (.tmp 111) ?_ hown5' ?_ HRB.out ?_ ?_ ?_ ?_); rfl; rfl; rfl; rfl; (simp <;> omega); (simp <;> omega); intro v6 w6 hown6 hg6; have hbx6 := (hbx.alloc (by omega) _).grown hg6 (by simp <;> omega) (fun k hk => ownBlock_geT hown5' k hk); clear he0 he1 he2 he3 he4 he5 he6 he7; obtain ⟨hst6, hb6, hwx6, he0, he1, he2, he3, he4, he5, he6, he7⟩ := ra_all hst hb1 (Nat.le_refl _) hbx6; obtain ⟨a6, c6, rfl, _⟩ := RdS.form (RdK.ofOwn (l := l ++ [y]) (by rw [List.length_append]; exact hown6)); have hw6 := hst6.lt; obtain ⟨gt0, gt1, gt2, gs0, gs1, gs2, gf0, gf1⟩ := hst6.facts) | ((with_reducible refine step_appT ?_ (.tmp 109) (.tmp 111) ?_ hown5 ?_ HRB.out ?_ ?_ ?_ ?_); rfl; rfl; rfl; rfl; (simp <;> omega); omega; intro v6 w6 hown6 hg6; have hbx6 := hbx.grown hg6 (by omega) (fun k hk => ownBlock_geT hown5 k hk); clear he0 he1 he2 he3 he4 he5 he6 he7; obtain ⟨hst6, hb6, hwx6, he0, he1, he2, he3, he4, he5, he6, he7⟩ := ra_all hst hb1 (Nat.le_refl _) hbx6; obtain ⟨a6, c6, rfl, _⟩ := RdS.form (RdK.ofOwn (l := l ++ [y]) (by rw [List.length_append]; exact hown6)); have hw6 := hst6.lt; obtain ⟨gt0, gt1, gt2, gs0, gs1, gs2, gf0, gf1⟩ := hst6.facts))
    all_goals
      go_wp2_with fail
      refine bodyPost_ret (v := .tuple #[tval cl false (.slice a6 (l.length + 1) c6), .int .i64 0]) (by simp [results, Try.results32, go_sem, gs0, gs1, gs2]) rfl ⟨_, rfl, ?_, ?_⟩
      · rw [← HY.out]
        have h4 : w6.ownsRow (wc.heap.size + 1) 40 7 (.slice a6 (l.length + 1) c6) (l ++ [y]).length (fl (l ++ [y])) := by simpa using hown6
        exact RdK.ofOwn (own_set (own_set (own_set (own_set h4 (by simp only; omega) _) (by simp only; omega) _) (by simp only; omega) _) (by simp only; omega) _)
      · exact (((hb6.setCell (by simp) _).setCell (by simp) _).setCell (by simp) _).setCell (by simp) _
  · have hzd : decide (0 < pk) = true := decide_eq_true (by omega)
    have kd5 := kd4 (by omega)
    have hz0 : 0 < pk := by omega
    clear kd4 hz
    obtain ⟨a, c, rfl, hac⟩ := RdS.form hr
    have hb0 := box2_below w cl false (.slice a l.length c)
    have hcon := rvalid_any cap cl false _ l _ (hr.keep hb0) hf
    have HCON := Lib.hid hcon; clear hcon
    have hst0 := St.new w cl false (.slice a l.length c)
    have HV := Lib.hid hV; clear hV
    go_enter Try.func32, Try.ntmps32
    go_wp2_with fail
    refine HCON.out.mono ?_
    rintro e w1 ⟨rfl, hb⟩
    rw [HV.out]
    have hst := hst0.call hb
    have hb1 := hb0.trans (hb.mono hb0.size)
    obtain ⟨ht0, ht1, ht2, hs0, hs1, hs2, hf0, hf1⟩ := hst.facts
    have hw1 := hst.lt
    have hw0 : w.heap.size < w1.heap.size := by omega
    clear hb hst0 hb0
    obtain ⟨at_, hat⟩ : ∃ at_, at_ = T.stN cl l := ⟨_, rfl⟩
    rw [← hat] at at1 at2 hx
    have HAT := Lib.hid hat; clear hat
    go_upto_if 60 with (fail)
    go_cut [10] (fun s10 wx => s10 = .int .i64 at_ ∧ St wx w.heap.size cl false (.slice a l.length c) ∧ Below w.heap.size w wx)
    case first =>
      by_cases hl0 : l.length = 0
      · have hat0 : at_ = 0 := by rw [HAT.out]; unfold T.stN; rw [if_pos hl0]
        have hn0 : decide (0 < (l.length : Int)) = false := decide_eq_false (by omega)
        have hn1 : decide (0 < l.length) = false := decide_eq_false (by omega)
        have HL0 := Lib.hid hl0; clear hl0
        have HAT0 := Lib.hid hat0; clear hat0
        simp only [hn1]
        go_wp2_with fail
        go_meet
        case rel => exact ⟨by rw [HAT0.out], hst, hb1⟩
      · obtain ⟨m, hm⟩ : ∃ m, l.length = m + 1 := ⟨l.length - 1, by omega⟩
        have hat0 : T.stN cl l = if (T.tr l m).ses ≤ cl then (T.tr l m).st + (T.tr l m).len + 16 else (T.tr l m).st + (T.tr l m).len := by
          unfold T.stN T.sB T.eB
          rw [if_neg hl0, if_neg hl0, if_neg hl0, hm]; rfl
        obtain ⟨sm1, sm2, sm3, sm4, sm5, sm6, sm7⟩ := HFw.out.2 m (by omega)
        have hn0 : decide (0 < (l.length : Int)) = true := decide_eq_true (by omega)
        have hn1 : decide (0 < l.length) = true := decide_eq_true (by omega)
        have hml : m < l.length := by omega
        have hm1 : ((l.length : Int) - 1) = (m : Int) := by omega
        have hm2 : IntKind.i64.wrap ((l.length : Int) - 1) = (m : Int) := by rw [hm1]; exact IntWalk.i64_in _ (by omega)
        have Hm := Lib.hid hm; clear hm
        have hrx := RdK.keep hr hb1
        obtain ⟨a', c', b, off, hv', hac', hcell⟩ := hrx
        obtain ⟨rfl, _, rfl⟩ : a = a' ∧ True ∧ c = c' := by injection hv' with h1 h2 h3; exact ⟨h1, trivial, h3⟩
        obtain ⟨ha, hrange⟩ := hcell m hml
        simp only at hrange
        clear hcell hv'
        have hix := fun w' => run_idxS Try.underlying22 Try.sizeTrack (cap := c) ha hml _ rfl w'
        obtain ⟨x, hxe⟩ : ∃ x, x = T.tr l m := ⟨_, rfl⟩
        rw [← hxe] at hrange hat0 sm3 sm4
        obtain ⟨hc0, hc1, hc2, hc3, hc4, hc5, hc6⟩ := rd7 hrange
        unfold sm at sm3 sm4
        have Ha := Lib.hid ha; clear ha hrange hxe
        rw [← HAT.out] at hat0
        by_cases hses : x.ses ≤ cl
        · have hsd : decide (x.ses ≤ cl) = true := decide_eq_true hses
          rw [if_pos hses] at hat0
          have HAT0 := Lib.hid hat0
          clear hat0 hses
          go_wp2_with fail
          go_quiet (fail)
          go_wp2_with fail
          go_quiet (fail)
          go_wp2_with fail
          go_meet
          case rel => exact ⟨by rw [HAT0.out], hst, ⟨hb1.os, hb1.tape, hb1.output, hb1.size, hb1.block⟩⟩
        · have hsd : decide (x.ses ≤ cl) = false := decide_eq_false hses
          rw [if_neg hses] at hat0
          have HAT0 := Lib.hid hat0
          clear hat0 hses
          go_wp2_with fail
          go_quiet (fail)
          go_wp2_with fail
          go_quiet (fail)
          go_wp2_with fail
          go_meet
          case rel => exact ⟨by rw [HAT0.out], hst, ⟨hb1.os, hb1.tape, hb1.output, hb1.size, hb1.block⟩⟩
    clear ht0 ht1 ht2 hs0 hs1 hs2 hf0 hf1 hst hb1 hw1 hw0
    obtain ⟨rfl, hst, hb1⟩ := hcut
    obtain ⟨ht0, ht1, ht2, hs0, hs1, hs2, hf0, hf1⟩ := hst.facts
    have hw1 := hst.lt
    have hd : decide (cap - at_ < count) = false := decide_eq_false (by omega)
    obtain ⟨y, hy⟩ : ∃ y : T.Trk, y = ⟨(l.length : Int) + 1, cl + 1, at_, count, at_, 0, pk⟩ := ⟨_, rfl⟩
    have HY : Hid (y = T.newT cl l count pk) := Lib.hid (by rw [hy, HAT.out]; rfl)
    have hyf : y.num = (l.length : Int) + 1 ∧ y.ses = cl + 1 ∧ y.st = at_ ∧ y.len = count ∧ y.nx = at_ ∧ y.sta = 0 ∧ y.pk = pk := by rw [hy]; exact ⟨rfl, rfl, rfl, rfl, rfl, rfl, rfl⟩
    have HYF := Lib.hid hyf; clear hyf hy
    go_upto_region 18 with (fail)
    have hXl : w.heap.size + 1 < wc.heap.size := hst.lt
    have hXl0 : w.heap.size < wc.heap.size := by omega
    have hXl1 : w.heap.size < wc.heap.size + 1 := by omega
    have hXl2 : w.heap.size < wc.heap.size + 1 + 1 := by omega
    have hXl3 : wc.heap.size < wc.heap.size + 1 + 1 := by omega
    have hYo : tobj y = (.cells #[.int .i64 ((l.length : Int) + 1), .int .i64 (cl + 1), .int .i64 at_, .int .i64 count, .int .i64 at_, .int .i64 0, .int .i64 pk] 40) := by obtain ⟨q0, q1, q2, q3, q4, q5, q6⟩ := HYF.out; unfold tobj; rw [q0, q1, q2, q3, q4, q5, q6]
    have HYO := Lib.hid hYo; clear hYo
    have hrc := RdK.keep hr hb1
    have hW1 : Below (wc.heap.size + 1) (wc.alloc (.cells #[.int .i64 ((l.length : Int) + 1), .int .i64 (cl + 1), .int .i64 at_, .int .i64 count, .int .i64 at_, .int .i64 0, .int .i64 pk] 40)) ((wc.alloc (.cells #[.int .i64 ((l.length : Int) + 1), .int .i64 (cl + 1), .int .i64 at_, .int .i64 count, .int .i64 at_, .int .i64 0, .int .i64 pk] 40)).alloc (.cells #[] 40)) := (Below.refl _ _).alloc (by simp) _
    have hA1 : ((wc.alloc (.cells #[.int .i64 ((l.length : Int) + 1), .int .i64 (cl + 1), .int .i64 at_, .int .i64 count, .int .i64 at_, .int .i64 0, .int .i64 pk] 40)).alloc (.cells #[] 40)).drew.ownsRow (wc.heap.size + 1) 40 7 (.slice (some ⟨wc.heap.size + 1, 0, none⟩) 0 0) 0 (fl []) := own_nilAt (w := World.drew ((wc.alloc (.cells #[.int .i64 ((l.length : Int) + 1), .int .i64 (cl + 1), .int .i64 at_, .int .i64 count, .int .i64 at_, .int .i64 0, .int .i64 pk] 40)).alloc (.cells #[] 40))) (by have h : (((wc.alloc (.cells #[.int .i64 ((l.length : Int) + 1), .int .i64 (cl + 1), .int .i64 at_, .int .i64 count, .int .i64 at_, .int .i64 0, .int .i64 pk] 40)).alloc (.cells #[] 40))).heap[wc.heap.size + 1]? = some (.cells #[] 40) := (by have := heap_alloc_new (wc.alloc (.cells #[.int .i64 ((l.length : Int) + 1), .int .i64 (cl + 1), .int .i64 at_, .int .i64 count, .int .i64 at_, .int .i64 0, .int .i64 pk] 40)) (.cells #[] 40); rwa [World.size_alloc] at this); exact h) (by omega)
    have hR1 : RdK ((wc.alloc (.cells #[.int .i64 ((l.length : Int) + 1), .int .i64 (cl + 1), .int .i64 at_, .int .i64 count, .int .i64 at_, .int .i64 0, .int .i64 pk] 40)).alloc (.cells #[] 40)).drew (.slice a l.length c) l := hrc.keepW fun k hk => (hW1.block k (by omega)).trans (Below.heap_alloc _ _ _ hk)
    have HW1 := Lib.hid hW1; have HA1 := Lib.hid hA1; have HR1 := Lib.hid hR1; clear hW1 hA1 hR1
    have hW2 : Below (wc.heap.size + 1) (wc.alloc (.cells #[.int .i64 ((l.length : Int) + 1), .int .i64 (cl + 1), .int .i64 at_, .int .i64 count, .int .i64 at_, .int .i64 0, .int .i64 pk] 40)) (((wc.alloc (.cells #[.int .i64 ((l.length : Int) + 1), .int .i64 (cl + 1), .int .i64 at_, .int .i64 count, .int .i64 at_, .int .i64 0, .int .i64 pk] 40)).alloc (.cells #[] 40)).alloc (.cells #[.int .i64 ((l.length : Int) + 1), .int .i64 (cl + 1), .int .i64 at_, .int .i64 count, .int .i64 at_, .int .i64 0, .int .i64 pk] 40)) := ((Below.refl _ _).alloc (by simp) _).alloc (by simp <;> omega) _
    have hA2 : (((wc.alloc (.cells #[.int .i64 ((l.length : Int) + 1), .int .i64 (cl + 1), .int .i64 at_, .int .i64 count, .int .i64 at_, .int .i64 0, .int .i64 pk] 40)).alloc (.cells #[] 40)).alloc (.cells #[.int .i64 ((l.length : Int) + 1), .int .i64 (cl + 1), .int .i64 at_, .int .i64 count, .int .i64 at_, .int .i64 0, .int .i64 pk] 40)).drew.ownsRow (wc.heap.size + 1) 40 7 (.slice (some ⟨wc.heap.size + 1, 0, none⟩) 0 0) 0 (fl []) := own_nilAt (w := World.drew (((wc.alloc (.cells #[.int .i64 ((l.length : Int) + 1), .int .i64 (cl + 1), .int .i64 at_, .int .i64 count, .int .i64 at_, .int .i64 0, .int .i64 pk] 40)).alloc (.cells #[] 40)).alloc (.cells #[.int .i64 ((l.length : Int) + 1), .int .i64 (cl + 1), .int .i64 at_, .int .i64 count, .int .i64 at_, .int .i64 0, .int .i64 pk] 40))) (by have h : ((((wc.alloc (.cells #[.int .i64 ((l.length : Int) + 1), .int .i64 (cl + 1), .int .i64 at_, .int .i64 count, .int .i64 at_, .int .i64 0, .int .i64 pk] 40)).alloc (.cells #[] 40)).alloc (.cells #[.int .i64 ((l.length : Int) + 1), .int .i64 (cl + 1), .int .i64 at_, .int .i64 count, .int .i64 at_, .int .i64 0, .int .i64 pk] 40))).heap[wc.heap.size + 1]? = some (.cells #[] 40) := ((Below.heap_alloc _ _ _ (by simp)).trans (by have := heap_alloc_new (wc.alloc (.cells #[.int .i64 ((l.length : Int) + 1), .int .i64 (cl + 1), .int .i64 at_, .int .i64 count, .int .i64 at_, .int .i64 0, .int .i64 pk] 40)) (.cells #[] 40); rwa [World.size_alloc] at this)); exact h) (by omega)
    have hR2 : RdK (((wc.alloc (.cells #[.int .i64 ((l.length : Int) + 1), .int .i64 (cl + 1), .int .i64 at_, .int .i64 count, .int .i64 at_, .int .i64 0, .int .i64 pk] 40)).alloc (.cells #[] 40)).alloc (.cells #[.int .i64 ((l.length : Int) + 1), .int .i64 (cl + 1), .int .i64 at_, .int .i64 count, .int .i64 at_, .int .i64 0, .int .i64 pk] 40)).drew (.slice a l.length c) l := hrc.keepW fun k hk => (hW2.block k (by omega)).trans (Below.heap_alloc _ _ _ hk)
    have HW2 := Lib.hid hW2; have HA2 := Lib.hid hA2; have HR2 := Lib.hid hR2; clear hW2 hA2 hR2
    have hW3 : Below (wc.heap.size + 1) (wc.alloc (.cells #[.int .i64 ((l.length : Int) + 1), .int .i64 (cl + 1), .int .i64 at_, .int .i64 count, .int .i64 at_, .int .i64 0, .int .i64 pk] 40)) (((wc.alloc (.cells #[.int .i64 ((l.length : Int) + 1), .int .i64 (cl + 1), .int .i64 at_, .int .i64 count, .int .i64 at_, .int .i64 0, .int .i64 pk] 40)).alloc (.cells #[.int .i64 ((l.length : Int) + 1), .int .i64 (cl + 1), .int .i64 at_, .int .i64 count, .int .i64 at_, .int .i64 0, .int .i64 pk] 40)).alloc (.cells #[] 40)) := ((Below.refl _ _).alloc (by simp) _).alloc (by simp <;> omega) _
    have hA3 : (((wc.alloc (.cells #[.int .i64 ((l.length : Int) + 1), .int .i64 (cl + 1), .int .i64 at_, .int .i64 count, .int .i64 at_, .int .i64 0, .int .i64 pk] 40)).alloc (.cells #[.int .i64 ((l.length : Int) + 1), .int .i64 (cl + 1), .int .i64 at_, .int .i64 count, .int .i64 at_, .int .i64 0, .int .i64 pk] 40)).alloc (.cells #[] 40)).drew.ownsRow (wc.heap.size + 1) 40 7 (.slice (some ⟨wc.heap.size + 1 + 1, 0, none⟩) 0 0) 0 (fl []) := own_nilAt (w := World.drew (((wc.alloc (.cells #[.int .i64 ((l.length : Int) + 1), .int .i64 (cl + 1), .int .i64 at_, .int .i64 count, .int .i64 at_, .int .i64 0, .int .i64 pk] 40)).alloc (.cells #[.int .i64 ((l.length : Int) + 1), .int .i64 (cl + 1), .int .i64 at_, .int .i64 count, .int .i64 at_, .int .i64 0, .int .i64 pk] 40)).alloc (.cells #[] 40))) (by have h : ((((wc.alloc (.cells #[.int .i64 ((l.length : Int) + 1), .int .i64 (cl + 1), .int .i64 at_, .int .i64 count, .int .i64 at_, .int .i64 0, .int .i64 pk] 40)).alloc (.cells #[.int .i64 ((l.length : Int) + 1), .int .i64 (cl + 1), .int .i64 at_, .int .i64 count, .int .i64 at_, .int .i64 0, .int .i64 pk] 40)).alloc (.cells #[] 40))).heap[wc.heap.size + 1 + 1]? = some (.cells #[] 40) := (by have := heap_alloc_new ((wc.alloc (.cells #[.int .i64 ((l.length : Int) + 1), .int .i64 (cl + 1), .int .i64 at_, .int .i64 count, .int .i64 at_, .int .i64 0, .int .i64 pk] 40)).alloc (.cells #[.int .i64 ((l.length : Int) + 1), .int .i64 (cl + 1), .int .i64 at_, .int .i64 count, .int .i64 at_, .int .i64 0, .int .i64 pk] 40)) (.cells #[] 40); rwa [World.size_alloc, World.size_alloc] at this); exact h) (by omega)
    have hR3 : RdK (((wc.alloc (.cells #[.int .i64 ((l.length : Int) + 1), .int .i64 (cl + 1), .int .i64 at_, .int .i64 count, .int .i64 at_, .int .i64 0, .int .i64 pk] 40)).alloc (.cells #[.int .i64 ((l.length : Int) + 1), .int .i64 (cl + 1), .int .i64 at_, .int .i64 count, .int .i64 at_, .int .i64 0, .int .i64 pk] 40)).alloc (.cells #[] 40)).drew (.slice a l.length c) l := hrc.keepW fun k hk => (hW3.block k (by omega)).trans (Below.heap_alloc _ _ _ hk)
    have HW3 := Lib.hid hW3; have HA3 := Lib.hid hA3; have HR3 := Lib.hid hR3; clear hW3 hA3 hR3
    have hB2 : (((wc.alloc (.cells #[.int .i64 ((l.length : Int) + 1), .int .i64 (cl + 1), .int .i64 at_, .int .i64 count, .int .i64 at_, .int .i64 0, .int .i64 pk] 40)).alloc (.cells #[] 40)).alloc (.cells #[.int .i64 ((l.length : Int) + 1), .int .i64 (cl + 1), .int .i64 at_, .int .i64 count, .int .i64 at_, .int .i64 0, .int .i64 pk] 40)).heap[wc.heap.size + 1 + 1]? = some (tobj y) := by
      rw [HYO.out]
      exact by have := heap_alloc_new ((wc.alloc (.cells #[.int .i64 ((l.length : Int) + 1), .int .i64 (cl + 1), .int .i64 at_, .int .i64 count, .int .i64 at_, .int .i64 0, .int .i64 pk] 40)).alloc (.cells #[] 40)) (.cells #[.int .i64 ((l.length : Int) + 1), .int .i64 (cl + 1), .int .i64 at_, .int .i64 count, .int .i64 at_, .int .i64 0, .int .i64 pk] 40); rwa [World.size_alloc, World.size_alloc] at this
    have HB2 := Lib.hid hB2; clear hB2
    have hB3 : (((wc.alloc (.cells #[.int .i64 ((l.length : Int) + 1), .int .i64 (cl + 1), .int .i64 at_, .int .i64 count, .int .i64 at_, .int .i64 0, .int .i64 pk] 40)).alloc (.cells #[.int .i64 ((l.length : Int) + 1), .int .i64 (cl + 1), .int .i64 at_, .int .i64 count, .int .i64 at_, .int .i64 0, .int .i64 pk] 40)).alloc (.cells #[] 40)).heap[wc.heap.size + 1]? = some (tobj y) := by
      rw [HYO.out]
      exact (Below.heap_alloc _ _ _ (by simp)).trans (by have := heap_alloc_new (wc.alloc (.cells #[.int .i64 ((l.length : Int) + 1), .int .i64 (cl + 1), .int .i64 at_, .int .i64 count, .int .i64 at_, .int .i64 0, .int .i64 pk] 40)) (.cells #[.int .i64 ((l.length : Int) + 1), .int .i64 (cl + 1), .int .i64 at_, .int .i64 count, .int .i64 at_, .int .i64 0, .int .i64 pk] 40); rwa [World.size_alloc] at this)
    have HB3 := Lib.hid hB3; clear hB3
    clear hrc
    go_region_law (first | ((with_reducible refine step_appT ?_ (.tmp 106) (.tmp 108) ?_ HA1.out ?_ HR1.out ?_ ?_ ?_ ?_); rfl; rfl; rfl; rfl; omega; (simp <;> omega); intro v5 w5 hown5 hg5; have hbx := ra_gr (A := wc.heap.size + 1) HW1.out hg5 (by omega) (by simp <;> omega); obtain ⟨hst5, hb5, hw5, he0, he1, he2, he3, he4, he5, he6, he7⟩ := ra_all hst hb1 (Nat.le_refl _) hbx; rw [Nat.zero_add, List.nil_append] at hown5; have hown5' := own_kept hown5 ((Below.refl _ _).alloc (Nat.le_refl _) (.cells #[.int .i64 ((l.length : Int) + 1), .int .i64 (cl + 1), .int .i64 at_, .int .i64 count, .int .i64 at_, .int .i64 0, .int .i64 pk] 40)).block; have hrB := RdK.one w5 y; rw [HYO.out] at hrB; have HRB := Lib.hid hrB; clear hrB) | ((with_reducible refine step_appT ?_ (.tmp 106) (.tmp 108) ?_ HA2.out ?_ HR2.out ?_ ?_ ?_ ?_); rfl; rfl; rfl; rfl; omega; (simp <;> omega); intro v5 w5 hown5 hg5; have hbx := ra_gr (A := wc.heap.size + 1) HW2.out hg5 (by omega) (by simp <;> omega); obtain ⟨hst5, hb5, hw5, he0, he1, he2, he3, he4, he5, he6, he7⟩ := ra_all hst hb1 (Nat.le_refl _) hbx; rw [Nat.zero_add, List.nil_append] at hown5; have hrB : RdK w5 _ [y] := rdK_at1 ((hg5.block (wc.heap.size + 1 + 1) (by simp) (by simp [Value.ownBlock])).trans HB2.out); have HRB := Lib.hid hrB; clear hrB) | ((with_reducible refine step_appT ?_ (.tmp 106) (.tmp 108) ?_ HA3.out ?_ HR3.out ?_ ?_ ?_ ?_); rfl; rfl; rfl; rfl; omega; (simp <;> omega); intro v5 w5 hown5 hg5; have hbx := ra_gr (A := wc.heap.size + 1 + 1) HW3.out hg5 (by omega) (by simp <;> omega); obtain ⟨hst5, hb5, hw5, he0, he1, he2, he3, he4, he5, he6, he7⟩ := ra_all hst hb1 (Nat.le_refl _) hbx; rw [Nat.zero_add, List.nil_append] at hown5; have hrB : RdK w5 _ [y] := rdK_at1 ((hg5.block (wc.heap.size + 1) (by simp) (by simp [Value.ownBlock])).trans HB3.out); have HRB := Lib.hid hrB; clear hrB) | ((with_reducible refine step_appT ?_ (.tmp 109) (.tmp 111) ?_ hown5' ?_ HRB.out ?_ ?_ ?_ ?_); rfl; rfl; rfl; rfl; (simp <;> omega); (simp <;> omega); intro v6 w6 hown6 hg6; have hbx6 := (hbx.alloc (by omega) _).grown hg6 (by simp <;> omega) (fun k hk => ownBlock_geT hown5' k hk); clear he0 he1 he2 he3 he4 he5 he6 he7; obtain ⟨hst6, hb6, hwx6, he0, he1, he2, he3, he4, he5, he6, he7⟩ := ra_all hst hb1 (Nat.le_refl _) hbx6; obtain ⟨a6, c6, rfl, _⟩ := RdS.form (RdK.ofOwn (l := l ++ [y]) (by rw [List.length_append]; exact hown6)); have hw6 := hst6.lt; obtain ⟨gt0, gt1, gt2, gs0, gs1, gs2, gf0, gf1⟩ := hst6.facts) | ((with_reducible refine step_appT ?_ (.tmp 109) (.tmp 111) ?_ hown5 ?_ HRB.out ?_ ?_ ?_ ?_); rfl; rfl; rfl; rfl; (simp <;> omega); omega; intro v6 w6 hown6 hg6; have hbx6 := hbx.grown hg6 (by omega) (fun k hk => ownBlock_geT hown5 k hk); clear he0 he1 he2 he3 he4 he5 he6 he7; obtain ⟨hst6, hb6, hwx6, he0, he1, he2, he3, he4, he5, he6, he7⟩ := ra_all hst hb1 (Nat.le_refl _) hbx6; obtain ⟨a6, c6, rfl, _⟩ := RdS.form (RdK.ofOwn (l := l ++ [y]) (by rw [List.length_append]; exact hown6)); have hw6 := hst6.lt; obtain ⟨gt0, gt1, gt2, gs0, gs1, gs2, gf0, gf1⟩ := hst6.facts))
    all_goals
      go_wp2_with fail
      refine bodyPost_ret (v := .tuple #[tval cl false (.slice a6 (l.length + 1) c6), .int .i64 0]) (by simp [results, Try.results32, go_sem, gs0, gs1, gs2]) rfl ⟨_, rfl, ?_, ?_⟩
      · rw [← HY.out]
        have h4 : w6.ownsRow (wc.heap.size + 1) 40 7 (.slice a6 (l.length + 1) c6) (l ++ [y]).length (fl (l ++ [y])) := by simpa using hown6
        exact RdK.ofOwn (own_set (own_set (own_set (own_set h4 (by simp only; omega) _) (by simp only; omega) _) (by simp only; omega) _) (by simp only; omega) _)
      · exact (((hb6.setCell (by simp) _).setCell (by simp) _).setCell (by simp) _).setCell (by simp) _
end Go.Proofs.Ytiioojlihapdaaa
