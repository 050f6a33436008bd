/- Chapter 13: the closure of Encode walked. -/
import Derived.Test.YtjnedcncfdpjoaaEi
import Derived.Test.YtjnedcncfdpjoaaEg
import Derived.Test.YtjnedcncfdpjoaaEn3
import Derived.Test.YtjnedcncfdpjoaaQc
namespace Go.Proofs.Ytjnedcncfdpjoaa.D13
open Go.RowKit Go.Maps
set_option linter.unusedVariables false

/-- a number in two bytes -/
def b2 (n : Int) : List UInt8 := (E1.bigR n 2).1
theorem b2_le (n : Int) : (b2 n).length ≤ 2 := by
  unfold b2 E1.bigR
  split
  · simp [E1.beN, E1.leN_length]
  · simp
def encL (l : List Int) : List UInt8 := l.flatMap b2
theorem encL_le (l : List Int) : (encL l).length ≤ 2 * l.length := by
  unfold encL
  induction l with
  | nil => simp
  | cons x r ih =>
    rw [List.flatMap_cons, List.length_append, List.length_cons]
    have := b2_le x
    omega
theorem encL_append (l m : List Int) : encL (l ++ m) = encL l ++ encL m := by simp [encL]
theorem encL_take {l : List Int} {k : Nat} (h : k < l.length) : encL (l.take (k + 1)) = encL (l.take k) ++ b2 (ixI l k) := by
  rw [ixI_append_take l k h, encL_append]
  simp [encL]
theorem str_append (l m : List UInt8) : str l ++ str m = str (l ++ m) := by
  apply ByteArray.ext
  simp [str]
/-- nothing but the block 'g' turns: words -/
theorem Turn1.of {g : Nat} {w w' : World} (h : Below w.heap.size w w') : Turn1 g w w' := ⟨h.os, h.tape, h.output, h.size, fun k hk _ => h.block k hk⟩
theorem Turn1.trans {g : Nat} {w w' w'' : World} (h : Turn1 g w w') (k : Turn1 g w' w'') : Turn1 g w w'' :=
  ⟨k.os.trans h.os, k.tape.trans h.tape, k.output.trans h.output, Nat.le_trans h.size k.size, fun i hi h1 => (k.block i (Nat.lt_of_lt_of_le hi h.size) h1).trans (h.block i hi h1)⟩
theorem Turn1.set (g : Nat) (w : World) (i : Nat) (v : Value) : Turn1 g w (w.setCell ⟨g, i, none⟩ v) :=
  ⟨rfl, rfl, rfl, by simp, fun k _ hk => Below.heap_setCell w ⟨g, i, none⟩ v k hk⟩
theorem Turn1.below {g B : Nat} {w w' : World} (h : Turn1 g w w') (hg : B ≤ g) (hB : B ≤ w.heap.size) : Below B w w' := ⟨h.os, h.tape, h.output, h.size, fun k hk => h.block k (by omega) (by omega)⟩
theorem RdI.turn1 {g : Nat} {w w' : World} {v : Value} {l : List Int} {s : ByteArray} {t : TypeId} (h : RdI w v l) (ht : Turn1 g w w') (hb : Bx w g t [.string s]) : RdI w' v l := by
  obtain ⟨h0, ⟨a, cap, b, off, e, hc, hcell⟩, hr⟩ := h
  refine ⟨h0, ⟨a, cap, b, off, e, hc, fun i hi => ⟨(hcell i hi).1, ?_⟩⟩, hr⟩
  have h2 := (hcell i hi).2
  have h3 := World.block_lt_of_cell? w _ h2
  have hne : b ≠ g := by
    intro e
    subst e
    unfold Bx at hb
    have h4 : ∃ n, off + i = n := ⟨_, rfl⟩
    obtain ⟨n, hn⟩ := h4
    rw [hn] at h2
    simp only [World.cell?, hb] at h2
    cases n with
    | zero => simp at h2
    | succ n => simp at h2
  rw [← h2]
  simp [World.cell?, ht.block b (by simpa using h3) hne]
set_option maxRecDepth 100000 in
set_option maxHeartbeats 4000000 in
/-- 'add(l...)' -/
theorem enc1_any {w : World} {gs : Nat} {cur : List UInt8} (hs : Bx w gs 9 [.string (str cur)]) (hc : cur.length ≤ 100000) (v : Value) (l : List Int) (h : RdI w v l) (hl : l.length ≤ 10000) :
    Calls Try.prog 46 #[v, .pointer (some ⟨gs, 0, none⟩)] w fun e w' => e = .returned (.tuple #[]) ∧ Bx w' gs 9 [.string (str (cur ++ encL l))] ∧ Turn1 gs w w' := by
  have HR := Lib.hid h
  obtain ⟨a, c, rfl⟩ := RdI.formD h
  have HS := Lib.hid hs
  clear h hs
  go_enter Try.func46, Try.ntmps46
  go_wp2_with fail
  go_loopw [9] (fun vk wr => ∃ k : Nat, k ≤ l.length ∧ vk = .int .i64 k ∧ Bx wr gs 9 [.string (str (cur ++ encL (l.take k)))] ∧ Turn1 gs w wr) (fun vk _ => l.length - (RowKit.intOf vk).toNat)
  case atStart => exact ⟨0, by omega, rfl, by simp [encL]; exact HS.out, .of (Below.refl _ _)⟩
  case round =>
    obtain ⟨k, hk, rfl, hB, hT⟩ := hrel
    have HB := Lib.hid hB
    have HT := Lib.hid hT
    by_cases hlt : k < l.length
    · obtain ⟨bl, off, hcell⟩ := RdI.at (HR.out.turn1 hT HS.out)
      obtain ⟨ha, hcl⟩ := hcell k hlt
      have hix := fun w' => run_idxS Try.underlying22 Try.sizeInt13 (cap := c) ha hlt (k : Int) rfl w'
      simp only [Nat.mul_one] at hix
      have hx := HR.out.2.2 k hlt
      have HBG := Lib.hid (fun W => E1.big2_any (ixI l k) W hx.2)
      have HTK := Lib.hid (encL_take hlt)
      have hlen : (cur ++ encL (l.take k)).length ≤ 200000 := by
        rw [List.length_append]
        have := encL_le (l.take k)
        rw [List.length_take] at this
        omega
      have hb2 := b2_le (ixI l k)
      unfold b2 at HTK hb2
      have HCU : Hid (cur ++ encL (l.take (k + 1)) = cur ++ encL (l.take k) ++ (E1.bigR (ixI l k) 2).1) := Lib.hid (by rw [HTK.out, List.append_assoc])
      generalize E1.bigR (ixI l k) 2 = bg at *
      generalize ixI l k = x at *
      generalize cur ++ encL (l.take k) = cu at *
      obtain ⟨bg1, bg2⟩ := bg
      have HA := Lib.hid ha
      clear ha hT hcell hB hx
      go_wp2_with fail
      refine (HBG.out wr).mono ?_
      rintro e w4 ⟨rfl, hb4⟩
      have hx4 := HB.out.call hb4
      have HX4 := Lib.hid hx4
      have HT4 := Lib.hid (HT.out.trans (Turn1.of hb4))
      have hc4 := hx4.cell (i := 0) rfl
      have hf4 := hx4.free 0
      have hsz : ¬ 9223372036854775807 < (str cu).size + (str bg1).size := by rw [str_size, str_size]; omega
      clear hx4 hb4
      go_wp2_with fail
      go_roundw
      case rel => exact ⟨k + 1, by omega, by go_num, by rw [show cur ++ encL (l.take (k + 1)) = cu ++ bg1 from HCU.out, ← str_append]; exact HX4.out.set 0 _, HT4.out.trans (Turn1.set gs _ 0 _)⟩
      case measure => simp [RowKit.intOf]; omega
    · obtain rfl : k = l.length := by omega
      rw [List.take_length] at HB
      go_wp2_with fail
      go_end0
      exact ⟨rfl, HB.out, HT.out⟩
end Go.Proofs.Ytjnedcncfdpjoaa.D13
