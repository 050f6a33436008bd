/- Chapter 13: Replace walked. -/
import Derived.Test.YtjnedcncfdpjoaaE4
namespace Go.Proofs.Ytjnedcncfdpjoaa.D13
open Go.RowKit Go.Maps
set_option linter.unusedVariables false

def replR (T : Tab) (b : Int) : (Int × Int) × Tab := if 0 ≤ b ∧ b < T.blocks then (if T.used = T.spares then ((0, 12), T) else (((T.first : Int) + T.used, 0), T.repl b)) else ((0, 2), T)
def ReplP (R : (Int × Int) × Tab) (g gm : Nat) (vp : Value) (w : World) (e : Ending) (w' : World) : Prop := e = .returned (.tuple #[.int .i64 R.1.1, .int .i64 R.1.2]) ∧ TabW w' g gm vp R.2 ∧ Turn g gm w w'
theorem TabW.stored {w w1 : World} {g gm : Nat} {vp : Value} {T : Tab} (h : TabW w g gm vp T) {b : Int} (h0 : 0 ≤ b) (h1 : b < T.blocks) (hu : T.used < T.spares) (hm : MapO w1 gm (T.used + 1) (setO (fun x => (T.mv x).map Int.ofNat) b T.used)) (hg : w.grownBy w1 (some gm)) :
    TabW (w1.setCell ⟨g, 2, none⟩ (.int .i64 ((T.used : Int) + 1))) g gm vp (T.repl b) ∧ Turn g gm w (w1.setCell ⟨g, 2, none⟩ (.int .i64 ((T.used : Int) + 1))) := by
  have hbox1 : Bx w1 g 57 [.int .i64 T.blocks, .int .i64 T.spares, .int .i64 T.used, vp, .map (some gm)] := (hg.block g h.box.lt (fun e => h.ne (Option.some.inj e))).trans h.box
  have hpri1 : w1.ownsRow 0 3 1 vp T.prim.length (is T.prim) := h.pri.kept hg (by
    cases e : vp.ownBlock with
    | none => exact .inl rfl
    | some k => exact .inr fun h2 => map13 h.pri h.map (by rw [e]; exact h2))
  have hne : ∀ k, k ≠ g → (w1.setCell ⟨g, 2, none⟩ (.int .i64 ((T.used : Int) + 1))).heap[k]? = w1.heap[k]? := fun k hk => Below.heap_setCell w1 ⟨g, 2, none⟩ _ k hk
  have hb2 : Bx (w1.setCell ⟨g, 2, none⟩ (.int .i64 ((T.used : Int) + 1))) g 57 [.int .i64 T.blocks, .int .i64 T.spares, .int .i64 ((T.used : Int) + 1), vp, .map (some gm)] := hbox1.set 2 _
  have hT : Turn g gm w1 (w1.setCell ⟨g, 2, none⟩ (.int .i64 ((T.used : Int) + 1))) :=
    ⟨rfl, rfl, rfl, by simp, fun k _ hk _ => hne k hk⟩
  have hT0 : Turn g gm w w1 := ⟨hg.os, hg.tape, hg.output, hg.size, fun k hk _ h2 => hg.block k hk (fun e => h2 (Option.some.inj e))⟩
  refine ⟨⟨h.ok.repl h0 h1 hu, ?_, ?_, ?_, h.ne⟩, hT0.trans hT⟩
  · have e : (((T.used + 1 : Nat)) : Int) = (T.used : Int) + 1 := by push_cast; rfl
    show Bx _ g _ [.int .i64 T.blocks, .int .i64 T.spares, .int .i64 ((T.used + 1 : Nat) : Int), vp, .map (some gm)]
    rw [e]
    exact hb2
  · show World.ownsRow _ 0 _ 1 vp T.prim.length (is T.prim)
    exact hT.own hpri1 (block13 hpri1 hbox1 (by decide)) (map13 hpri1 hm)
  · have e : (fun x => ((T.repl b).mv x).map Int.ofNat) = setO (fun x => (T.mv x).map Int.ofNat) b T.used := by
      funext x
      show ((if x = b then some T.used else T.mv x) : Option Nat).map Int.ofNat = if x = b then some (T.used : Int) else (T.mv x).map Int.ofNat
      split <;> rfl
    show MapO _ gm (T.used + 1) _
    rw [e]
    exact hm.kept (hne gm (Ne.symm h.ne))
set_option maxRecDepth 100000 in
set_option maxHeartbeats 2000000 in
theorem replace_any {w : World} {g gm : Nat} {vp : Value} {T : Tab} (h : TabW w g gm vp T) (b : Int) (hb : In64 b) :
    Calls Try.prog 11 #[.pointer (some ⟨g, 0, none⟩), .int .i64 b] w (ReplP (replR T b) g gm vp w) := by
  obtain ⟨c0, c1, c2, c3, c4⟩ := h.cells
  have HH := Lib.hid (has_any h b)
  have HT := Lib.hid h
  have h6 := h.ok.sp
  have h7 := h.ok.us
  unfold replR
  by_cases hr : 0 ≤ b ∧ b < (T.blocks : Int)
  · rw [if_pos hr]
    rw [decide_eq_true hr] at HH
    by_cases hu : T.used = T.spares
    · rw [if_pos hu]
      have hu' : ((T.used : Int) == (T.spares : Int)) = true := by rw [beq_iff_eq]; omega
      clear hr hu h
      go_enter Try.func11, Try.ntmps11
      go_wp2_with fail
      refine HH.out.mono ?_
      rintro e w' ⟨rfl, rfl⟩
      go_wp2_with fail
      go_quiet (fail)
      go_wp2_with fail
      go_ret2
      exact ⟨rfl, HT.out.below (Below.drewN (Below.refl _ _) _), .of (Below.drewN (Below.refl _ _) _)⟩
    · rw [if_neg hu]
      have hu' : ((T.used : Int) == (T.spares : Int)) = false := by rw [beq_eq_false_iff_ne]; omega
      have hu2 : T.used < T.spares := by omega
      have HR := Lib.hid hr
      clear hr hu h
      go_enter Try.func11, Try.ntmps11
      go_wp2_with fail
      refine HH.out.mono ?_
      rintro e w' ⟨rfl, rfl⟩
      go_wp2_with fail
      go_quiet (fail)
      have hT3 := HT.out.below (Below.drewN (Below.refl w.heap.size w) nq)
      have HN := Lib.hid (Turn.of (g := g) (gm := gm) (Below.drewN (Below.refl w.heap.size w) nq))
      obtain ⟨d0, d1, d2, d3, d4⟩ := hT3.cells
      have HT3 := Lib.hid hT3
      clear hT3 c0 c1 c2 c3 c4 HT HH
      generalize w.drewN nq = w3 at *
      go_wp2_with fail
      go_still_tail 9, (by kernel_rfl)
      repeat still_step
      change wpList _ _ _ _ _ w3.drew
      have hT4 := HT3.out.below ((Below.refl _ _).drew)
      refine wpList_setO rfl _ _ _ rfl hT4.map rfl rfl rfl hb (by unfold In64; omega) (by omega) ?_
      intro w4 hm4 hg4
      have hst := hT4.stored HR.out.1 HR.out.2 hu2 hm4 hg4
      have hb4 : Bx w4 g 57 [.int .i64 T.blocks, .int .i64 T.spares, .int .i64 T.used, vp, .map (some gm)] := (hg4.block g hT4.box.lt (fun e => hT4.ne (Option.some.inj e))).trans hT4.box
      have q2 := hb4.cell (i := 2) rfl
      have q3 := hb4.free 2
      have HS := Lib.hid hst
      have HP := Lib.hid (physical_any hst.1 b hb)
      have HE : Hid (physR (T.repl b) b = ((T.first : Int) + T.used, 0)) := Lib.hid (by
        unfold physR
        rw [if_pos (show 0 ≤ b ∧ b < ((T.repl b).blocks : Int) from HR.out), Tab.repl_phys, if_pos rfl])
      rw [HE.out] at HP
      have HN2 := Lib.hid (HN.out.trans ((Turn.of ((Below.refl w3.heap.size w3).drew)).trans hst.2))
      clear hst hb4 hm4 hg4 hT4 d0 d1 d2 d3 d4 HT3 HN
      go_wp2_with fail
      refine HP.out.mono ?_
      rintro e w' ⟨rfl, q, rfl⟩
      go_wp2_with fail
      go_ret2
      exact ⟨rfl, HS.out.1.below (Below.drewN (Below.refl _ _) _), HN2.out.trans (.of (Below.drewN (Below.refl _ _) _))⟩
  · rw [if_neg hr]
    rw [decide_eq_false hr] at HH
    clear hr h
    go_enter Try.func11, Try.ntmps11
    go_wp2_with fail
    refine HH.out.mono ?_
    rintro e w' ⟨rfl, rfl⟩
    go_wp2_with fail
    go_ret2
    exact ⟨rfl, HT.out, .refl⟩
end Go.Proofs.Ytjnedcncfdpjoaa.D13
