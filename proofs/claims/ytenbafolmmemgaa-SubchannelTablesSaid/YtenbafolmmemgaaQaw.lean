/- Chapter 10: the examples of the chapter (awake) walked. -/
import Derived.Test.YtenbafolmmemgaaQf
import Derived.Test.YtenbafolmmemgaaQen
import Derived.Test.YtenbafolmmemgaaQs
namespace Go.Proofs.Ytenbafolmmemgaa.W10
open Go.RowKit
set_option linter.unusedVariables false

def q0 : Q.Fr := ⟨4, 1, 1, 0, 0, 0, 0, 2, 0⟩
def x0 : T.Trk := ⟨1, 0, 0, 300, 0, 0, 0⟩
theorem body_q0 : bodyL q0 = [65, 1, 1, 0, 0, 0, 0, 0, 2, 0] := by decide
theorem ent_x0 : Q.entR [x0] 4 = ([⟨4, 0, 160, 0, 0, 0, 1, 0, 0⟩, ⟨4, 0, 161, 0, 0, 0, 1, 0, 0⟩, ⟨4, 0, 162, 0, 0, 0, 0, 6, 0⟩, ⟨4, 0, 1, 0, 0, 0, 0, 2, 0⟩], 0) := by decide
theorem ext_str (l : List UInt8) (n : Nat) : (str l).extract 0 n = str (l.take n) := by
  apply ByteArray.ext
  rw [ByteArray.data_extract]
  simp [str]
theorem wf_x0 : WfL [x0] := by
  intro i hi
  obtain rfl : i = 0 := by simp at hi; omega
  unfold WfT In64; decide
set_option maxRecDepth 100000 in
set_option maxHeartbeats 4000000 in
theorem awake_any (w : World) : Calls Try.prog 10 #[] w (RB true w) := by
  have hE := fun W => enc_yes q0 W (by decide)
  have hS : (str (encL q0)).size = 12 := by rw [str_size]; rfl
  have hS2 : ((str (encL q0)).extract 0 10).toList = [65, 1, 1, 0, 0, 0, 0, 0, 2, 0] := by rw [ext_str, str_toList]; exact (show (encL q0).take 10 = bodyL q0 from rfl).trans body_q0
  have HE := Lib.hid hE; clear hE
  generalize str (encL q0) = S at hS hS2 HE
  have HS := Lib.hid hS; have HS2 := Lib.hid hS2; clear hS hS2
  go_enter Try.func10, Try.ntmps10
  go_wp2_with fail
  refine (HE.out _).mono ?_
  rintro e w1 ⟨rfl, hb1⟩
  go_wp2_with fail
  refine (entries_any _ [x0] 4 _ (RdD.one (by omega) tcs_length w1 53 x0) (by simp) wf_x0).mono ?_
  rw [ent_x0]
  rintro e w2 ⟨v2, rfl, hr2, hb2⟩
  obtain ⟨a, c, rfl, hac⟩ := RdD.form hr2
  obtain ⟨b, off, hcell⟩ := RdF.cells hr2
  obtain ⟨ha, hrg⟩ := hcell 2 (by simp)
  have hle2 := (hb1.alloc hb1.size (tobj x0)).trans (hb2.mono (hb1.alloc hb1.size _).size)
  clear hcell hr2
  obtain ⟨hc0, hc1, hc2, hc3, hc4, hc5, hc6, hc7, hc8⟩ := rd9 hrg
  have hix := fun w' => run_idxS Try.underlying31 Try.sizeFr (cap := c) ha (by simp : 2 < 4) 2 rfl w'
  have Ha := Lib.hid ha; clear ha hrg
  have hS := HS.out
  have hS2 := HS2.out
  go_wp2_with fail
  go_ret
  exact ⟨ret_t rfl, hle2⟩
end Go.Proofs.Ytenbafolmmemgaa.W10
