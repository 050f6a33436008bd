/- Chapter 14: decode of the package walked. -/
import Derived.Test.YtiioojlihapdaaaEnP4
import Derived.Test.YtiioojlihapdaaaSeq
import Derived.Outline
import Derived.RegionTactic
import Derived.BigRegion
/- Chapter 14: the closure of decode walked; what decode holds. -/
namespace Go.Proofs.Ytiioojlihapdaaa.E1
open Go.RowKit W10
set_option linter.unusedVariables false

/-- one block has turned, no other one -/
def One (b : Nat) (w w' : World) : Prop := Below b w w' ∧ ∀ k, k < w.heap.size → k ≠ b → w'.heap[k]? = w.heap[k]?
theorem own_blocks {w w' : World} {base e size n : Nat} {v : Value} {xs : List Value} (h : w.ownsRow base e size v n xs) (hb : ∀ k, base ≤ k → k < w.heap.size → w'.heap[k]? = w.heap[k]?) : w'.ownsRow base e size v n xs := by
  refine ⟨h.1, ?_⟩
  rcases h.2 with h2 | ⟨g, cap, cur, h1, h2, h3, h4⟩
  · exact .inl h2
  · exact .inr ⟨g, cap, cur, h1, h2, (hb g h2 (Array.getElem?_eq_some_iff.1 h3).1).trans h3, h4⟩
theorem bx_one {b g : Nat} {w w' : World} {t : TypeId} {cs : List Value} (h : Bx w g t cs) (hb : One b w w') (hne : g ≠ b) : Bx w' g t cs := (hb.2 g h.lt hne).trans h
theorem One.then {b : Nat} {w w1 w2 : World} (h : One b w w1) (hlt : b ≤ w.heap.size) (hb : Below w1.heap.size w1 w2) : One b w w2 :=
  ⟨h.1.trans (hb.mono (Nat.le_trans hlt h.1.size)), fun k hk hne => (hb.block k (Nat.lt_of_lt_of_le hk h.1.size)).trans (h.2 k hk hne)⟩
def NextP (l : List UInt8) (o size gA : Nat) (w : World) (e : Ending) (w' : World) : Prop :=
  e = .returned (.int .i64 (rdE l o size)) ∧ Bx w' gA 3 [.int .i64 ((o + size : Nat) : Int)] ∧ One gA w w'
set_option maxRecDepth 100000 in
set_option maxHeartbeats 1000000 in
theorem next_any (l : List UInt8) (o size : Nat) (x : Int) (gS gA : Nat) (w : World) (hs : Bx w gS 9 [.string (str l)]) (ha : Bx w gA 3 [.int .i64 (o : Int)]) (hx : x = size) (h1 : 1 ≤ size) (h4 : size ≤ 4) (ho : o ≤ 100000) (hl : l.length ≤ 1000000) (hne : gS ≠ gA) :
    Calls Try.prog 92 #[.int .i64 x, .pointer (some ⟨gS, 0, none⟩), .pointer (some ⟨gA, 0, none⟩)] w (NextP l o size gA w) := by
  have HR := Lib.hid (fun W => readbig_any l o size x (o : Int) W rfl hx h1 h4 (by omega) hl)
  subst hx
  have hs0 := hs.cell (i := 0) rfl
  have ha0 := ha.cell (i := 0) rfl
  have Ha := Lib.hid ha
  have hlt := ha.lt
  clear hs ha
  go_enter Try.func92, Try.ntmps92
  go_wp2_with fail
  refine (HR.out _).mono ?_
  rintro e w1 ⟨rfl, hb⟩
  have hA1 : Bx w1 gA 3 [.int .i64 (o : Int)] := Ha.out.call hb
  have ha1 := hA1.cell (i := 0) rfl
  have hf1 := hA1.free
  clear hs0 ha0
  go_wp2_with fail
  go_ret
  have h9 : Below gA w w1 := hb.mono (by omega)
  refine ⟨rfl, ?_, h9.setCell (p := ⟨gA, 0, none⟩) (Nat.le_refl _) _, fun k hk hne2 => ?_⟩
  · have h := hA1.set 0 (.int .i64 ((o + size : Nat) : Int))
    rw [Int.natCast_add] at h ⊢
    exact h
  · rw [Below.heap_setCell _ _ _ _ hne2]
    exact hb.block k hk
/-- what decode holds: the string, the offset, the table, the result's box -/
structure DcW (w0 : World) (gT : Nat) (l : List UInt8) (o : Nat) (cl : Int) (fin : Bool) (v : Value) (W : World) : Prop where
  s : Bx W w0.heap.size 9 [.string (str l)]
  z : Bx W (w0.heap.size + 1) 24 [.int .i64 0, .bool false, .slice none 0 0]
  a : Bx W (w0.heap.size + 2) 3 [.int .i64 (o : Int)]
  t : Bx W gT 24 [.int .i64 cl, .bool fin, v]
  le : Below w0.heap.size w0 W
  g : w0.heap.size + 2 < gT
theorem DcW.one {w0 : World} {gT : Nat} {l : List UInt8} {o o' : Nat} {cl : Int} {fin : Bool} {v : Value} {W W' : World} (h : DcW w0 gT l o cl fin v W) (hb : One (w0.heap.size + 2) W W') (ha : Bx W' (w0.heap.size + 2) 3 [.int .i64 (o' : Int)]) : DcW w0 gT l o' cl fin v W' :=
  ⟨bx_one h.s hb (by omega), bx_one h.z hb (by omega), ha, bx_one h.t hb (by have := h.g; omega), h.le.trans (hb.1.mono (by omega)), h.g⟩
theorem DcW.call {w0 : World} {gT : Nat} {l : List UInt8} {o : Nat} {cl : Int} {fin : Bool} {v : Value} {W W' : World} (h : DcW w0 gT l o cl fin v W) (hb : Below W.heap.size W W') : DcW w0 gT l o cl fin v W' :=
  ⟨h.s.call hb, h.z.call hb, h.a.call hb, h.t.call hb, h.le.trans (hb.mono h.le.size), h.g⟩
theorem DcW.own {w0 : World} {gT : Nat} {l : List UInt8} {o : Nat} {cl : Int} {fin : Bool} {v : Value} {W W' : World} (h : DcW w0 gT l o cl fin v W) (hb : Below (gT + 1) W W') : DcW w0 gT l o cl fin v W' :=
  have := h.g
  ⟨h.s.keepB hb (by omega), h.z.keepB hb (by omega), h.a.keepB hb (by omega), h.t.keepB hb (by omega), h.le.trans (hb.mono (by omega)), h.g⟩
theorem DcW.put {w0 : World} {gT : Nat} {l : List UInt8} {o : Nat} {cl : Int} {fin : Bool} {v : Value} {W : World} (h : DcW w0 gT l o cl fin v W) (v' : Value) : DcW w0 gT l o cl fin v' (W.setCell ⟨gT, 2, none⟩ v') :=
  have := h.g
  ⟨h.s.far (by simp only; omega) _, h.z.far (by simp only; omega) _, h.a.far (by simp only; omega) _, h.t.set 2 v', h.le.setCell (by simp only; omega) _, h.g⟩
theorem DcW.drew {w0 : World} {gT : Nat} {l : List UInt8} {o : Nat} {cl : Int} {fin : Bool} {v : Value} {W : World} (h : DcW w0 gT l o cl fin v W) : DcW w0 gT l o cl fin v W.drew := ⟨h.s, h.z, h.a, h.t, h.le.drew, h.g⟩
end Go.Proofs.Ytiioojlihapdaaa.E1
namespace Go.Proofs.Ytiioojlihapdaaa.E1
open Go.RowKit W10
set_option linter.unusedVariables false

/-- the string, the offset, the result's box -/
structure Dc3 (w0 : World) (l : List UInt8) (o : Nat) (W : World) : Prop where
  s : Bx W w0.heap.size 9 [.string (str l)]
  z : Bx W (w0.heap.size + 1) 24 [.int .i64 0, .bool false, .slice none 0 0]
  a : Bx W (w0.heap.size + 2) 3 [.int .i64 (o : Int)]
  le : Below w0.heap.size w0 W
theorem next_3 {w0 W : World} {l : List UInt8} {o : Nat} (h : Dc3 w0 l o W) (size : Nat) (x : Int) (hx : x = size) (h1 : 1 ≤ size) (h4 : size ≤ 4) (ho : o ≤ 100000) (hl : l.length ≤ 1000000) :
    Calls Try.prog 92 #[.int .i64 x, .pointer (some ⟨w0.heap.size, 0, none⟩), .pointer (some ⟨w0.heap.size + 2, 0, none⟩)] W fun e w' => e = .returned (.int .i64 (rdE l o size)) ∧ Dc3 w0 l (o + size) w' :=
  (next_any l o size x _ _ W h.s h.a hx h1 h4 ho hl (by omega)).mono fun e w' ⟨h1, h2, h3⟩ => ⟨h1, bx_one h.s h3 (by omega), bx_one h.z h3 (by omega), h2, h.le.trans (h3.1.mono (by omega))⟩
theorem next_W {w0 W : World} {gT : Nat} {l : List UInt8} {o : Nat} {cl : Int} {fin : Bool} {v : Value} (h : DcW w0 gT l o cl fin v W) (size : Nat) (x : Int) (hx : x = size) (h1 : 1 ≤ size) (h4 : size ≤ 4) (ho : o ≤ 100000) (hl : l.length ≤ 1000000) :
    Calls Try.prog 92 #[.int .i64 x, .pointer (some ⟨w0.heap.size, 0, none⟩), .pointer (some ⟨w0.heap.size + 2, 0, none⟩)] W fun e w' => e = .returned (.int .i64 (rdE l o size)) ∧ DcW w0 gT l (o + size) cl fin v w' ∧ One (w0.heap.size + 2) W w' :=
  (next_any l o size x _ _ W h.s h.a hx h1 h4 ho hl (by omega)).mono fun e w' ⟨h1, h2, h3⟩ => ⟨h1, h.one h3 h2, h3⟩
def offs : Nat → Nat
  | 0 => 0
  | 1 => 2
  | 2 => 4
  | 3 => 8
  | 4 => 12
  | 5 => 16
  | 6 => 18
  | _ => 20
/-- the world behind the first 'r' links of the round -/
def DcC (w0 : World) (gT : Nat) (H0 : Nat) (l : List UInt8) (o : Nat) (cl : Int) (fin : Bool) (vv : Value) (ts : List T.Trk) (n : Nat) (r : Nat) (W : World) : Prop :=
  (r ≤ 8 → DcW w0 gT l (o + offs r) cl fin vv W) ∧ (r ≤ 7 → W.ownsRow (gT + 1) 40 7 vv n (flD tcs ts)) ∧ (r = 9 → ∃ v', DcW w0 gT l (o + 20) cl fin v' W ∧ W.ownsRow (gT + 1) 40 7 v' (n + 1) (flD tcs (ts ++ [trkD l o]))) ∧ H0 ≤ W.heap.size
/-- what a link may do -/
def DcR (H0 base n : Nat) (xs : List Value) (r : Nat) (w W : World) : Prop :=
  (∀ k, H0 ≤ k → k < w.heap.size → W.heap[k]? = w.heap[k]?) ∧ w.heap.size ≤ W.heap.size ∧ (8 ≤ r → ∀ v', w.ownsRow base 40 7 v' n xs → W.ownsRow base 40 7 v' n xs)
theorem DcR.refl (H0 base n : Nat) (xs : List Value) (r : Nat) (w : World) : DcR H0 base n xs r w w := ⟨fun _ _ _ => rfl, Nat.le_refl _, fun _ _ h => h⟩
theorem DcR.call {H0 base n : Nat} {xs : List Value} {r : Nat} {w W : World} (hb : Below w.heap.size w W) : DcR H0 base n xs r w W := ⟨fun k _ h => hb.block k h, hb.size, fun _ _ h => ownD_keep h hb⟩
theorem DcR.one {H0 base n b : Nat} {xs : List Value} {r : Nat} {w W : World} (hb : One b w W) (h0 : b < H0) (h1 : b < base) : DcR H0 base n xs r w W :=
  ⟨fun k hk h => hb.2 k h (by omega), hb.1.size, fun _ _ h => own_blocks h fun k hk hl => hb.2 k hl (by omega)⟩
section
variable {w0 : World} {gT H0 : Nat} {l : List UInt8} {o : Nat} {cl : Int} {fin : Bool} {vv : Value} {ts : List T.Trk} {n : Nat} {r : Nat} {W W' : World}
theorem DcC.next (h : DcC w0 gT H0 l o cl fin vv ts n r W) (hr : r < 7) (h1 : DcW w0 gT l (o + offs (r + 1)) cl fin vv W') (h2 : One (w0.heap.size + 2) W W') : DcC w0 gT H0 l o cl fin vv ts n (r + 1) W' :=
  ⟨fun _ => h1, fun _ => own_blocks (h.2.1 (by omega)) fun k hk hl => h2.2 k hl (by have := h1.g; omega), fun h => by omega, Nat.le_trans h.2.2.2 h2.1.size⟩
theorem DcC.call (h : DcC w0 gT H0 l o cl fin vv ts n r W) (hb : Below W.heap.size W W') : DcC w0 gT H0 l o cl fin vv ts n r W' :=
  ⟨fun hr => (h.1 hr).call hb, fun hr => ownD_keep (h.2.1 hr) hb, fun hr => by obtain ⟨v', h1, h2⟩ := h.2.2.1 hr; exact ⟨v', h1.call hb, ownD_keep h2 hb⟩, Nat.le_trans h.2.2.2 hb.size⟩
end
theorem Try.infoTrk : (Try.prog.info? 40).map (fun i => (i.zero, i.size, i.bytes)) = some (some (.agg #[.int .i64 0, .int .i64 0, .int .i64 0, .int .i64 0, .int .i64 0, .int .i64 0, .int .i64 0]), 7, 56) := by kernel_rfl
theorem tcs_one (x : T.Trk) : ∀ u ∈ tcs x, u.oneCell' = true := by
  intro u hu
  simp only [tcs, List.mem_cons, List.not_mem_nil, or_false] at hu
  rcases hu with rfl | rfl | rfl | rfl | rfl | rfl | rfl <;> rfl
def dec12 (w0 : World) (gT H0 : Nat) (l : List UInt8) (o : Nat) (vv : Value) (ts : List T.Trk) (n : Nat) (i : Nat) (v : Value) (W : World) : Prop := match i with
  | 0 => v = .pointer (some ⟨gT, 2, none⟩)
  | 1 => v = vv
  | 2 => v = .func (.func 92) #[] #[.pointer (some ⟨w0.heap.size, 0, none⟩), .pointer (some ⟨w0.heap.size + 2, 0, none⟩)]
  | 3 => v = .int .i64 (rdE l o 2)
  | 4 => v = .func (.func 92) #[] #[.pointer (some ⟨w0.heap.size, 0, none⟩), .pointer (some ⟨w0.heap.size + 2, 0, none⟩)]
  | 5 => v = .int .i64 (rdE l (o + 2) 2)
  | 6 => v = .func (.func 92) #[] #[.pointer (some ⟨w0.heap.size, 0, none⟩), .pointer (some ⟨w0.heap.size + 2, 0, none⟩)]
  | 7 => v = .int .i64 (rdE l (o + 4) 4)
  | 8 => v = .func (.func 92) #[] #[.pointer (some ⟨w0.heap.size, 0, none⟩), .pointer (some ⟨w0.heap.size + 2, 0, none⟩)]
  | 9 => v = .int .i64 (rdE l (o + 8) 4)
  | 10 => v = .func (.func 92) #[] #[.pointer (some ⟨w0.heap.size, 0, none⟩), .pointer (some ⟨w0.heap.size + 2, 0, none⟩)]
  | 11 => v = .int .i64 (rdE l (o + 12) 4)
  | 12 => v = .func (.func 92) #[] #[.pointer (some ⟨w0.heap.size, 0, none⟩), .pointer (some ⟨w0.heap.size + 2, 0, none⟩)]
  | 13 => v = .int .i64 (rdE l (o + 16) 2)
  | 14 => v = .func (.func 92) #[] #[.pointer (some ⟨w0.heap.size, 0, none⟩), .pointer (some ⟨w0.heap.size + 2, 0, none⟩)]
  | 15 => v = .int .i64 (rdE l (o + 18) 2)
  | 16 => v = .agg #[.int .i64 (rdE l o 2), .int .i64 (rdE l (o + 2) 2), .int .i64 (rdE l (o + 4) 4), .int .i64 (rdE l (o + 8) 4), .int .i64 (rdE l (o + 12) 4), .int .i64 (rdE l (o + 16) 2), .int .i64 (rdE l (o + 18) 2)]
  | 17 => ∃ g, v = .slice (some ⟨g, 0, none⟩) 1 1 ∧ H0 ≤ g ∧ Bx W g 40 (tcs (trkD l o))
  | 18 => W.ownsRow (gT + 1) 40 7 v (n + 1) (flD tcs (ts ++ [trkD l o]))
  | 19 => v = .pointer (some ⟨gT, 2, none⟩)
  | _ => True
def dec12E : Nat → Option Nat
  | 3 => some 0
  | 5 => some 1
  | 7 => some 2
  | 9 => some 3
  | 11 => some 4
  | 13 => some 5
  | 15 => some 6
  | 18 => some 7
  | 20 => some 8
  | _ => none
theorem dec12_keep (w0 : World) (gT H0 : Nat) (l : List UInt8) (o : Nat) (vv : Value) (ts : List T.Trk) (n : Nat) (i r : Nat) (v : Value) (W W' : World) (hk : ∀ k, dec12E i = some k → k < r) (hR : (DcR H0 (gT + 1) (n + 1) (flD tcs (ts ++ [trkD l o]))) r W W') (h : dec12 w0 gT H0 l o vv ts n i v W) : dec12 w0 gT H0 l o vv ts n i v W' := by
  by_cases h17 : i = 17
  · subst h17
    obtain ⟨g, h1, h2, h3⟩ := h
    exact ⟨g, h1, h2, (hR.1 g h2 h3.lt).trans h3⟩
  by_cases h18 : i = 18
  · subst h18
    exact hR.2.2 (by have := hk 7 rfl; omega) v h
  unfold dec12 at h ⊢
  split at h <;> first | exact h | exact absurd rfl h17 | exact absurd rfl h18
theorem few_tks (l : List UInt8) (n : Nat) (h : n ≤ 99) : Few (tksD l n) := by
  refine ⟨by rw [tksD_length]; omega, fun i hi => ?_⟩
  rw [tksD_length] at hi
  have e : T.tr (tksD l n) i = trkD l (14 + 20 * i) := by simp [T.tr, tksD, hi]
  rw [e]
  have a1 := rdE_lt l (14 + 20 * i) 2 (by omega)
  have a2 := rdE_lt l (14 + 20 * i + 2) 2 (by omega)
  have a3 := rdE_lt l (14 + 20 * i + 4) 4 (by omega)
  have a4 := rdE_lt l (14 + 20 * i + 8) 4 (by omega)
  have a5 := rdE_lt l (14 + 20 * i + 12) 4 (by omega)
  have a6 := rdE_lt l (14 + 20 * i + 16) 2 (by omega)
  have a7 := rdE_lt l (14 + 20 * i + 18) 2 (by omega)
  unfold smT sm trkD
  simp only
  refine ⟨?_, ?_, ?_, ?_, ?_, ?_, ?_⟩ <;> omega
theorem okD_eq {cap : Int} {l : List UInt8} {n : Nat} (hl : l.length = 16 + 20 * n) (hc : cntD l = n) :
    okD cap l = (decide ((encodeR cap (seqD l) (clD l) (finD l) (tksD l n)).2 = 0) && decide ((encodeR cap (seqD l) (clD l) (finD l) (tksD l n)).1 = l)) := by
  unfold okD encodeR
  rw [hc]
  rw [decide_eq_true (show 16 ≤ l.length ∧ l.length = 16 + 20 * n by omega), Bool.true_and]
  cases T.validB cap (clD l) (finD l) (tksD l n) with
  | false => simp
  | true =>
    by_cases hq : seqD l ≤ 2147483647
    · rw [if_neg (by decide), if_pos ⟨by omega, by omega⟩]
      simp [hq]
    · rw [if_neg (by decide), if_neg (by omega)]
      simp [hq]
theorem str_same {l m : List UInt8} (h : l = m) : ((str l).toList == (str m).toList) = true := by rw [h]; simp
theorem str_other {l m : List UInt8} (h : l ≠ m) : ((str l).toList == (str m).toList) = false := by
  rw [str_toList, str_toList]; simpa using h
theorem rdk_three {W : World} {base g i : Nat} {v : Value} {ts : List T.Trk} (h : W.ownsRow base 40 7 v i (flD tcs ts)) (hl : ts.length = i) (hg : g < base) (a b c : Value) :
    RdK (((W.setCell ⟨g, 0, none⟩ a).setCell ⟨g, 1, none⟩ b).setCell ⟨g, 2, none⟩ c).drew v ts := by
  subst hl
  have h2 := ownD_far (ownD_far (ownD_far h (p := ⟨g, 0, none⟩) hg a) (p := ⟨g, 1, none⟩) hg b) (p := ⟨g, 2, none⟩) hg c
  exact RdD.ofOwn (d := T.z) tcs_length h2
/-- what decode gives -/
def DecP (cap : Int) (l : List UInt8) (w : World) (e : Ending) (w' : World) : Prop :=
  ∃ (cl : Int) (fin : Bool) (v : Value) (ts : List T.Trk) (q : Int), e = .returned (.tuple #[tval cl fin v, .int .i64 q, .bool (okD cap l)]) ∧ RdK w' v ts ∧ Below w.heap.size w w' ∧ (okD cap l = true → cl = clD l ∧ fin = finD l ∧ ts = tksD l (cntD l) ∧ q = seqD l)
set_option maxRecDepth 100000 in
set_option maxHeartbeats 4000000 in
theorem decode_main (cap : Int) (l : List UInt8) (n : Nat) (w : World) (hl : l.length = 16 + 20 * n) (hn : n ≤ 99) (hc : cntD l = n) : Calls Try.prog 79 #[.int .i64 cap, .string (str l)] w (DecP cap l w) := by
  have hsz := str_size l
  rw [hl] at hsz
  obtain ⟨w0, rfl⟩ : ∃ w0 : World, w0 = w := ⟨_, rfl⟩
  have hd0 : 16 ≤ 16 + 20 * (n : Int) := by omega
  have hd1 : 16 + 20 * (n : Int) ≤ 1996 := by omega
  have hd3 : ((16 + 20 * (n : Int) - 16) % 20 != 0) = false := by rw [bne_eq_false_iff_eq]; omega
  go_enter Try.func79, Try.ntmps79
  go_upto_region 5 with (fail)
  have HS0 : Dc3 w0 l 4 (((w0.alloc (.cells #[.string (str l)] 9)).alloc (.cells #[.int .i64 0, .bool false, .slice none 0 0] 24)).alloc (.cells #[.int .i64 4] 3)) :=
    ⟨((Bx.new w0 _ _).alloc _).alloc _, by have := (Bx.new (w0.alloc (.cells #[.string (str l)] 9)) 24 [.int .i64 0, .bool false, .slice none 0 0]).alloc (.cells #[.int .i64 4] 3); rw [World.size_alloc] at this; exact this,
      by have := Bx.new ((w0.alloc (.cells #[.string (str l)] 9)).alloc (.cells #[.int .i64 0, .bool false, .slice none 0 0] 24)) 3 [.int .i64 4]; rw [World.size_alloc, World.size_alloc] at this; exact this,
      (((Below.refl _ _).alloc (Nat.le_refl _) _).alloc (by simp) _).alloc (by simp; omega) _⟩
  generalize ((w0.alloc (.cells #[.string (str l)] 9)).alloc (.cells #[.int .i64 0, .bool false, .slice none 0 0] 24)).alloc (.cells #[.int .i64 4] 3) = w1 at HS0 ⊢
  simp only [show w0.heap.size + 1 + 1 = w0.heap.size + 2 from rfl]
  have hl1 : l.length ≤ 1000000 := by omega
  clear hd0 hd1 hd3 hsz
  go_wp2_with fail
  refine (next_3 HS0 4 4 rfl (by omega) (by omega) (by omega) hl1).mono ?_
  rintro e w2 ⟨rfl, HS2⟩
  replace HS2 : Dc3 w0 l 8 w2 := HS2
  go_wp2_with fail
  refine (next_3 HS2 2 2 rfl (by omega) (by omega) (by omega) hl1).mono ?_
  rintro e w3 ⟨rfl, HS3⟩
  replace HS3 : Dc3 w0 l 10 w3 := HS3
  go_wp2_with fail
  refine (next_3 HS3 2 2 rfl (by omega) (by omega) (by omega) hl1).mono ?_
  rintro e w4 ⟨rfl, HS4⟩
  replace HS4 : Dc3 w0 l 12 w4 := HS4
  clear HS0 HS2 HS3
  have hfin : (((rdE l 10 2 : Nat) : Int) == 1) = finD l := by
    unfold finD
    rw [Bool.eq_iff_iff, beq_iff_eq, beq_iff_eq]
    omega
  go_upto_region 7 with (fail)
  have HS5 : DcW w0 w4.heap.size l 12 (clD l) (finD l) (.slice none 0 0) (w4.alloc (.cells #[.int .i64 (rdE l 8 2), .bool (finD l), .slice none 0 0] 24)) :=
    ⟨HS4.s.alloc _, HS4.z.alloc _, HS4.a.alloc _, Bx.new w4 _ [.int .i64 (rdE l 8 2), .bool (finD l), .slice none 0 0], HS4.le.alloc HS4.le.size _, HS4.a.lt⟩
  obtain ⟨gT, hgT⟩ : ∃ gT, gT = w4.heap.size := ⟨_, rfl⟩
  rw [← hgT] at HS5
  simp only [← hgT]
  clear hgT hfin HS4
  generalize w4.alloc (.cells #[.int .i64 (rdE l 8 2), .bool (finD l), .slice none 0 0] 24) = w5 at HS5 ⊢
  go_wp2_with fail
  refine (next_W HS5 2 2 rfl (by omega) (by omega) (by omega) hl1).mono ?_
  rintro e w6 ⟨rfl, HS6, _⟩
  replace HS6 : DcW w0 gT l 14 (clD l) (finD l) (.slice none 0 0) w6 := HS6
  clear HS5
  have hcn : (rdE l 12 2 : Nat) = n := hc
  have HSZ := Lib.hid (hcn.trans hc.symm)
  have c0 := HS6.s.cell (i := 0) rfl
  have hd4 : ((n : Int) != (16 + 20 * (n : Int) - 16) / 20) = false := by rw [bne_eq_false_iff_eq]; omega
  have hsz2 := str_size l
  rw [hl] at hsz2
  go_wp2_with fail
  generalize Value.int .i64 (16 + 20 * (n : Int)) = v15
  generalize Value.bool (decide (16 + 20 * (n : Int) < 16)) = v16
  generalize Value.bool (decide (1996 < 16 + 20 * (n : Int))) = v20
  generalize Value.bool (decide (16 + 20 * (n : Int) < 16) || decide (1996 < 16 + 20 * (n : Int))) = v21
  generalize Value.int .i64 (16 + 20 * (n : Int) - 16) = v25
  generalize Value.int .i64 ((16 + 20 * (n : Int) - 16) % 20) = v26
  generalize Value.int .i64 ((16 + 20 * (n : Int) - 16) / 20) = v45
  clear c0 hd4 hsz2 hcn
  have hO6 : w6.ownsRow (gT + 1) 40 7 (.slice none 0 0) 0 (flD tcs (tksD l 0)) := ⟨rfl, .inl ⟨rfl, rfl⟩⟩
  have HCN := Lib.hid hc
  clear hc
  go_loopw [49] (fun vi wr => ∃ (i : Nat) (v : Value), i ≤ n ∧ vi = .int .i64 i ∧ DcW w0 gT l (14 + 20 * i) (clD l) (finD l) v wr ∧ wr.ownsRow (gT + 1) 40 7 v i (flD tcs (tksD l i))) (fun vi _ => n - (intOf vi).toNat)
  case atStart => exact ⟨0, _, by omega, rfl, HS6, hO6⟩
  case round =>
    clear HS6 hO6
    obtain ⟨i, vv, hi, rfl, HS, hO⟩ := hrel
    by_cases hlt : i < n
    · go_upto_region 12 with (fail)
      have HB : Hid (14 + 20 * i ≤ 3000 ∧ l.length ≤ 1000000) := Lib.hid ⟨by omega, hl1⟩
      have HN : Hid (i ≤ 1000) := Lib.hid (by omega)
      have HH : Hid (w0.heap.size + 2 < gT ∧ gT + 1 ≤ wr.heap.size) := Lib.hid ⟨HS.g, HS.t.lt⟩
      have HOB : Hid (∀ k, vv.ownBlock = some k → k < wr.heap.size) := Lib.hid (ownD_lt hO)
      have hC0 : DcC w0 gT wr.heap.size l (14 + 20 * i) (clD l) (finD l) vv (tksD l i) i 0 wr.drew := ⟨fun _ => HS.drew, fun _ => hO, fun h => by omega, Nat.le_refl _⟩
      obtain ⟨o, ho⟩ : ∃ o, o = 14 + 20 * i := ⟨_, rfl⟩
      obtain ⟨H0, hH0⟩ : ∃ H0, H0 = wr.heap.size := ⟨_, rfl⟩
      obtain ⟨ts, hts⟩ : ∃ ts, ts = tksD l i := ⟨_, rfl⟩
      rw [← ho, ← hH0, ← hts] at hC0
      rw [← ho] at HB
      rw [← hH0] at HH HOB
      have HO := Lib.hid ho
      have HTS := Lib.hid hts
      clear ho hH0 hts HS hO
      obtain ⟨cl, hcl⟩ : ∃ cl : Int, cl = clD l := ⟨_, rfl⟩
      rw [← hcl] at hC0
      have HCL := Lib.hid hcl
      clear hcl
      refine wp_region_seq (by kernel_rfl) (DcR H0 (gT + 1) (i + 1) (flD tcs (ts ++ [trkD l o]))) (DcC w0 gT H0 l o cl (finD l) vv ts i) (dec12 w0 gT H0 l o vv ts i) (fun _ => false) dec12E 9 (by kernel_rfl) (by kernel_rfl) (.inl (by kernel_rfl)) (dec12_keep w0 gT H0 l o vv ts i) (hC0) ⟨?_, ?_, ?_, ?_, ?_, ?_, ?_, ?_, ?_, ?_, ?_, ?_, ?_, ?_, ?_, ?_, ?_, ?_, ?_, ?_, ?_, trivial⟩ ?_
      · intro r a W hc hsz hold hdep hnot hlo hhi hrk
        have o10 : a.tmps.getD 10 undef = .pointer (some ⟨gT, 0, none⟩) := hold 10 (by kernel_rfl)
        clear hsz hold hdep hnot hlo hhi hrk
        refine stepR_do rfl (wanted_none rfl) ?_
        refine stepS_val (v := .pointer (some ⟨gT, 2, none⟩)) (DcR.refl _ _ _ _ _ _) hc rfl fun K hK => ?_
        go_simp
        exact hK
      · intro r a W hc hsz hold hdep hnot hlo hhi hrk
        have d0 : a.tmps.getD 51 undef = .pointer (some ⟨gT, 2, none⟩) := hdep 0 (by kernel_rfl) rfl _ rfl
        have hr8 := hhi 20 8 rfl (by kernel_rfl)
        have hD := (hc.1 hr8).t.cell (i := 2) rfl
        clear hsz hold hdep hnot hlo hhi hrk
        refine stepR_do rfl (wanted_none rfl) ?_
        refine stepS_val (v := vv) (DcR.refl _ _ _ _ _ _) hc rfl fun K hK => ?_
        go_simp
        exact hK
      · intro r a W hc hsz hold hdep hnot hlo hhi hrk
        have o8 : a.tmps.getD 8 undef = .func (.func 92) #[] #[.pointer (some ⟨w0.heap.size, 0, none⟩), .pointer (some ⟨w0.heap.size + 2, 0, none⟩)] := hold 8 (by kernel_rfl)
        clear hsz hold hdep hnot hlo hhi hrk
        refine stepR_do rfl (wanted_none rfl) ?_
        refine stepS_val (v := .func (.func 92) #[] #[.pointer (some ⟨w0.heap.size, 0, none⟩), .pointer (some ⟨w0.heap.size + 2, 0, none⟩)]) (DcR.refl _ _ _ _ _ _) hc rfl fun K hK => ?_
        go_simp
        exact hK
      · intro r a W hc hsz hold hdep hnot hlo hhi hrk
        have hr := hrk 0 rfl
        subst hr
        have d2 : a.tmps.getD 53 undef = .func (.func 92) #[] #[.pointer (some ⟨w0.heap.size, 0, none⟩), .pointer (some ⟨w0.heap.size + 2, 0, none⟩)] := hdep 2 (by kernel_rfl) rfl _ rfl
        have e2 : a.tmps[53]?.getD undef = .func (.func 92) #[] #[.pointer (some ⟨w0.heap.size, 0, none⟩), .pointer (some ⟨w0.heap.size + 2, 0, none⟩)] := by rw [← Array.getD_eq_getD_getElem?]; exact d2
        clear hsz hold hdep hnot hlo hhi hrk
        refine stepR_do rfl (wanted_none rfl) ?_
        have hD : DcW w0 gT l o cl (finD l) vv W := hc.1 (by omega)
        have hcc := next_W hD 2 2 rfl (by omega) (by omega) (by have := HB.out.1; omega) HB.out.2
        clear hD
        refine stepS_call2 (v := .int .i64 (rdE l o 2)) fun K hK => ?_
        go_simp
        refine hcc.mono ?_
        rintro e w' ⟨rfl, h1, h2⟩
        exact hK w' (DcR.one h2 (by have := HH.out; omega) (by have := HH.out; omega)) (DcC.next hc (by omega) h1 h2) rfl
      · intro r a W hc hsz hold hdep hnot hlo hhi hrk
        have o8 : a.tmps.getD 8 undef = .func (.func 92) #[] #[.pointer (some ⟨w0.heap.size, 0, none⟩), .pointer (some ⟨w0.heap.size + 2, 0, none⟩)] := hold 8 (by kernel_rfl)
        clear hsz hold hdep hnot hlo hhi hrk
        refine stepR_do rfl (wanted_none rfl) ?_
        refine stepS_val (v := .func (.func 92) #[] #[.pointer (some ⟨w0.heap.size, 0, none⟩), .pointer (some ⟨w0.heap.size + 2, 0, none⟩)]) (DcR.refl _ _ _ _ _ _) hc rfl fun K hK => ?_
        go_simp
        exact hK
      · intro r a W hc hsz hold hdep hnot hlo hhi hrk
        have hr := hrk 1 rfl
        subst hr
        have d4 : a.tmps.getD 55 undef = .func (.func 92) #[] #[.pointer (some ⟨w0.heap.size, 0, none⟩), .pointer (some ⟨w0.heap.size + 2, 0, none⟩)] := hdep 4 (by kernel_rfl) rfl _ rfl
        have e4 : a.tmps[55]?.getD undef = .func (.func 92) #[] #[.pointer (some ⟨w0.heap.size, 0, none⟩), .pointer (some ⟨w0.heap.size + 2, 0, none⟩)] := by rw [← Array.getD_eq_getD_getElem?]; exact d4
        clear hsz hold hdep hnot hlo hhi hrk
        refine stepR_do rfl (wanted_none rfl) ?_
        have hD : DcW w0 gT l (o + 2) cl (finD l) vv W := hc.1 (by omega)
        have hcc := next_W hD 2 2 rfl (by omega) (by omega) (by have := HB.out.1; omega) HB.out.2
        clear hD
        refine stepS_call2 (v := .int .i64 (rdE l (o + 2) 2)) fun K hK => ?_
        go_simp
        refine hcc.mono ?_
        rintro e w' ⟨rfl, h1, h2⟩
        exact hK w' (DcR.one h2 (by have := HH.out; omega) (by have := HH.out; omega)) (DcC.next hc (by omega) h1 h2) rfl
      · intro r a W hc hsz hold hdep hnot hlo hhi hrk
        have o8 : a.tmps.getD 8 undef = .func (.func 92) #[] #[.pointer (some ⟨w0.heap.size, 0, none⟩), .pointer (some ⟨w0.heap.size + 2, 0, none⟩)] := hold 8 (by kernel_rfl)
        clear hsz hold hdep hnot hlo hhi hrk
        refine stepR_do rfl (wanted_none rfl) ?_
        refine stepS_val (v := .func (.func 92) #[] #[.pointer (some ⟨w0.heap.size, 0, none⟩), .pointer (some ⟨w0.heap.size + 2, 0, none⟩)]) (DcR.refl _ _ _ _ _ _) hc rfl fun K hK => ?_
        go_simp
        exact hK
      · intro r a W hc hsz hold hdep hnot hlo hhi hrk
        have hr := hrk 2 rfl
        subst hr
        have d6 : a.tmps.getD 57 undef = .func (.func 92) #[] #[.pointer (some ⟨w0.heap.size, 0, none⟩), .pointer (some ⟨w0.heap.size + 2, 0, none⟩)] := hdep 6 (by kernel_rfl) rfl _ rfl
        have e6 : a.tmps[57]?.getD undef = .func (.func 92) #[] #[.pointer (some ⟨w0.heap.size, 0, none⟩), .pointer (some ⟨w0.heap.size + 2, 0, none⟩)] := by rw [← Array.getD_eq_getD_getElem?]; exact d6
        clear hsz hold hdep hnot hlo hhi hrk
        refine stepR_do rfl (wanted_none rfl) ?_
        have hD : DcW w0 gT l (o + 4) cl (finD l) vv W := hc.1 (by omega)
        have hcc := next_W hD 4 4 rfl (by omega) (by omega) (by have := HB.out.1; omega) HB.out.2
        clear hD
        refine stepS_call2 (v := .int .i64 (rdE l (o + 4) 4)) fun K hK => ?_
        go_simp
        refine hcc.mono ?_
        rintro e w' ⟨rfl, h1, h2⟩
        exact hK w' (DcR.one h2 (by have := HH.out; omega) (by have := HH.out; omega)) (DcC.next hc (by omega) h1 h2) rfl
      · intro r a W hc hsz hold hdep hnot hlo hhi hrk
        have o8 : a.tmps.getD 8 undef = .func (.func 92) #[] #[.pointer (some ⟨w0.heap.size, 0, none⟩), .pointer (some ⟨w0.heap.size + 2, 0, none⟩)] := hold 8 (by kernel_rfl)
        clear hsz hold hdep hnot hlo hhi hrk
        refine stepR_do rfl (wanted_none rfl) ?_
        refine stepS_val (v := .func (.func 92) #[] #[.pointer (some ⟨w0.heap.size, 0, none⟩), .pointer (some ⟨w0.heap.size + 2, 0, none⟩)]) (DcR.refl _ _ _ _ _ _) hc rfl fun K hK => ?_
        go_simp
        exact hK
      · intro r a W hc hsz hold hdep hnot hlo hhi hrk
        have hr := hrk 3 rfl
        subst hr
        have d8 : a.tmps.getD 59 undef = .func (.func 92) #[] #[.pointer (some ⟨w0.heap.size, 0, none⟩), .pointer (some ⟨w0.heap.size + 2, 0, none⟩)] := hdep 8 (by kernel_rfl) rfl _ rfl
        have e8 : a.tmps[59]?.getD undef = .func (.func 92) #[] #[.pointer (some ⟨w0.heap.size, 0, none⟩), .pointer (some ⟨w0.heap.size + 2, 0, none⟩)] := by rw [← Array.getD_eq_getD_getElem?]; exact d8
        clear hsz hold hdep hnot hlo hhi hrk
        refine stepR_do rfl (wanted_none rfl) ?_
        have hD : DcW w0 gT l (o + 8) cl (finD l) vv W := hc.1 (by omega)
        have hcc := next_W hD 4 4 rfl (by omega) (by omega) (by have := HB.out.1; omega) HB.out.2
        clear hD
        refine stepS_call2 (v := .int .i64 (rdE l (o + 8) 4)) fun K hK => ?_
        go_simp
        refine hcc.mono ?_
        rintro e w' ⟨rfl, h1, h2⟩
        exact hK w' (DcR.one h2 (by have := HH.out; omega) (by have := HH.out; omega)) (DcC.next hc (by omega) h1 h2) rfl
      · intro r a W hc hsz hold hdep hnot hlo hhi hrk
        have o8 : a.tmps.getD 8 undef = .func (.func 92) #[] #[.pointer (some ⟨w0.heap.size, 0, none⟩), .pointer (some ⟨w0.heap.size + 2, 0, none⟩)] := hold 8 (by kernel_rfl)
        clear hsz hold hdep hnot hlo hhi hrk
        refine stepR_do rfl (wanted_none rfl) ?_
        refine stepS_val (v := .func (.func 92) #[] #[.pointer (some ⟨w0.heap.size, 0, none⟩), .pointer (some ⟨w0.heap.size + 2, 0, none⟩)]) (DcR.refl _ _ _ _ _ _) hc rfl fun K hK => ?_
        go_simp
        exact hK
      · intro r a W hc hsz hold hdep hnot hlo hhi hrk
        have hr := hrk 4 rfl
        subst hr
        have d10 : a.tmps.getD 61 undef = .func (.func 92) #[] #[.pointer (some ⟨w0.heap.size, 0, none⟩), .pointer (some ⟨w0.heap.size + 2, 0, none⟩)] := hdep 10 (by kernel_rfl) rfl _ rfl
        have e10 : a.tmps[61]?.getD undef = .func (.func 92) #[] #[.pointer (some ⟨w0.heap.size, 0, none⟩), .pointer (some ⟨w0.heap.size + 2, 0, none⟩)] := by rw [← Array.getD_eq_getD_getElem?]; exact d10
        clear hsz hold hdep hnot hlo hhi hrk
        refine stepR_do rfl (wanted_none rfl) ?_
        have hD : DcW w0 gT l (o + 12) cl (finD l) vv W := hc.1 (by omega)
        have hcc := next_W hD 4 4 rfl (by omega) (by omega) (by have := HB.out.1; omega) HB.out.2
        clear hD
        refine stepS_call2 (v := .int .i64 (rdE l (o + 12) 4)) fun K hK => ?_
        go_simp
        refine hcc.mono ?_
        rintro e w' ⟨rfl, h1, h2⟩
        exact hK w' (DcR.one h2 (by have := HH.out; omega) (by have := HH.out; omega)) (DcC.next hc (by omega) h1 h2) rfl
      · intro r a W hc hsz hold hdep hnot hlo hhi hrk
        have o8 : a.tmps.getD 8 undef = .func (.func 92) #[] #[.pointer (some ⟨w0.heap.size, 0, none⟩), .pointer (some ⟨w0.heap.size + 2, 0, none⟩)] := hold 8 (by kernel_rfl)
        clear hsz hold hdep hnot hlo hhi hrk
        refine stepR_do rfl (wanted_none rfl) ?_
        refine stepS_val (v := .func (.func 92) #[] #[.pointer (some ⟨w0.heap.size, 0, none⟩), .pointer (some ⟨w0.heap.size + 2, 0, none⟩)]) (DcR.refl _ _ _ _ _ _) hc rfl fun K hK => ?_
        go_simp
        exact hK
      · intro r a W hc hsz hold hdep hnot hlo hhi hrk
        have hr := hrk 5 rfl
        subst hr
        have d12 : a.tmps.getD 63 undef = .func (.func 92) #[] #[.pointer (some ⟨w0.heap.size, 0, none⟩), .pointer (some ⟨w0.heap.size + 2, 0, none⟩)] := hdep 12 (by kernel_rfl) rfl _ rfl
        have e12 : a.tmps[63]?.getD undef = .func (.func 92) #[] #[.pointer (some ⟨w0.heap.size, 0, none⟩), .pointer (some ⟨w0.heap.size + 2, 0, none⟩)] := by rw [← Array.getD_eq_getD_getElem?]; exact d12
        clear hsz hold hdep hnot hlo hhi hrk
        refine stepR_do rfl (wanted_none rfl) ?_
        have hD : DcW w0 gT l (o + 16) cl (finD l) vv W := hc.1 (by omega)
        have hcc := next_W hD 2 2 rfl (by omega) (by omega) (by have := HB.out.1; omega) HB.out.2
        clear hD
        refine stepS_call2 (v := .int .i64 (rdE l (o + 16) 2)) fun K hK => ?_
        go_simp
        refine hcc.mono ?_
        rintro e w' ⟨rfl, h1, h2⟩
        exact hK w' (DcR.one h2 (by have := HH.out; omega) (by have := HH.out; omega)) (DcC.next hc (by omega) h1 h2) rfl
      · intro r a W hc hsz hold hdep hnot hlo hhi hrk
        have o8 : a.tmps.getD 8 undef = .func (.func 92) #[] #[.pointer (some ⟨w0.heap.size, 0, none⟩), .pointer (some ⟨w0.heap.size + 2, 0, none⟩)] := hold 8 (by kernel_rfl)
        clear hsz hold hdep hnot hlo hhi hrk
        refine stepR_do rfl (wanted_none rfl) ?_
        refine stepS_val (v := .func (.func 92) #[] #[.pointer (some ⟨w0.heap.size, 0, none⟩), .pointer (some ⟨w0.heap.size + 2, 0, none⟩)]) (DcR.refl _ _ _ _ _ _) hc rfl fun K hK => ?_
        go_simp
        exact hK
      · intro r a W hc hsz hold hdep hnot hlo hhi hrk
        have hr := hrk 6 rfl
        subst hr
        have d14 : a.tmps.getD 65 undef = .func (.func 92) #[] #[.pointer (some ⟨w0.heap.size, 0, none⟩), .pointer (some ⟨w0.heap.size + 2, 0, none⟩)] := hdep 14 (by kernel_rfl) rfl _ rfl
        have e14 : a.tmps[65]?.getD undef = .func (.func 92) #[] #[.pointer (some ⟨w0.heap.size, 0, none⟩), .pointer (some ⟨w0.heap.size + 2, 0, none⟩)] := by rw [← Array.getD_eq_getD_getElem?]; exact d14
        clear hsz hold hdep hnot hlo hhi hrk
        refine stepR_do rfl (wanted_none rfl) ?_
        have hD : DcW w0 gT l (o + 18) cl (finD l) vv W := hc.1 (by omega)
        have hcc := next_W hD 2 2 rfl (by omega) (by omega) (by have := HB.out.1; omega) HB.out.2
        clear hD
        refine stepS_call2 (v := .int .i64 (rdE l (o + 18) 2)) fun K hK => ?_
        go_simp
        refine hcc.mono ?_
        rintro e w' ⟨rfl, h1, h2⟩
        exact hK w' (DcR.one h2 (by have := HH.out; omega) (by have := HH.out; omega)) (DcC.next hc (by omega) h1 h2) rfl
      · intro r a W hc hsz hold hdep hnot hlo hhi hrk
        have d3 : a.tmps.getD 54 undef = .int .i64 (rdE l o 2) := hdep 3 (by kernel_rfl) rfl _ rfl
        have e3 : a.tmps[54]?.getD undef = .int .i64 (rdE l o 2) := by rw [← Array.getD_eq_getD_getElem?]; exact d3
        have d5 : a.tmps.getD 56 undef = .int .i64 (rdE l (o + 2) 2) := hdep 5 (by kernel_rfl) rfl _ rfl
        have e5 : a.tmps[56]?.getD undef = .int .i64 (rdE l (o + 2) 2) := by rw [← Array.getD_eq_getD_getElem?]; exact d5
        have d7 : a.tmps.getD 58 undef = .int .i64 (rdE l (o + 4) 4) := hdep 7 (by kernel_rfl) rfl _ rfl
        have e7 : a.tmps[58]?.getD undef = .int .i64 (rdE l (o + 4) 4) := by rw [← Array.getD_eq_getD_getElem?]; exact d7
        have d9 : a.tmps.getD 60 undef = .int .i64 (rdE l (o + 8) 4) := hdep 9 (by kernel_rfl) rfl _ rfl
        have e9 : a.tmps[60]?.getD undef = .int .i64 (rdE l (o + 8) 4) := by rw [← Array.getD_eq_getD_getElem?]; exact d9
        have d11 : a.tmps.getD 62 undef = .int .i64 (rdE l (o + 12) 4) := hdep 11 (by kernel_rfl) rfl _ rfl
        have e11 : a.tmps[62]?.getD undef = .int .i64 (rdE l (o + 12) 4) := by rw [← Array.getD_eq_getD_getElem?]; exact d11
        have d13 : a.tmps.getD 64 undef = .int .i64 (rdE l (o + 16) 2) := hdep 13 (by kernel_rfl) rfl _ rfl
        have e13 : a.tmps[64]?.getD undef = .int .i64 (rdE l (o + 16) 2) := by rw [← Array.getD_eq_getD_getElem?]; exact d13
        have d15 : a.tmps.getD 66 undef = .int .i64 (rdE l (o + 18) 2) := hdep 15 (by kernel_rfl) rfl _ rfl
        have e15 : a.tmps[66]?.getD undef = .int .i64 (rdE l (o + 18) 2) := by rw [← Array.getD_eq_getD_getElem?]; exact d15
        clear hsz hold hdep hnot hlo hhi hrk
        refine stepR_do rfl (wanted_none rfl) ?_
        refine stepS_val (v := .agg #[.int .i64 (rdE l o 2), .int .i64 (rdE l (o + 2) 2), .int .i64 (rdE l (o + 4) 4), .int .i64 (rdE l (o + 8) 4), .int .i64 (rdE l (o + 12) 4), .int .i64 (rdE l (o + 16) 2), .int .i64 (rdE l (o + 18) 2)]) (DcR.refl _ _ _ _ _ _) hc rfl fun K hK => ?_
        go_simp
        exact hK
      · intro r a W hc hsz hold hdep hnot hlo hhi hrk
        have d16 : a.tmps.getD 67 undef = .agg #[.int .i64 (rdE l o 2), .int .i64 (rdE l (o + 2) 2), .int .i64 (rdE l (o + 4) 4), .int .i64 (rdE l (o + 8) 4), .int .i64 (rdE l (o + 12) 4), .int .i64 (rdE l (o + 16) 2), .int .i64 (rdE l (o + 18) 2)] := hdep 16 (by kernel_rfl) rfl _ rfl
        have e16 : a.tmps[67]?.getD undef = .agg #[.int .i64 (rdE l o 2), .int .i64 (rdE l (o + 2) 2), .int .i64 (rdE l (o + 4) 4), .int .i64 (rdE l (o + 8) 4), .int .i64 (rdE l (o + 12) 4), .int .i64 (rdE l (o + 16) 2), .int .i64 (rdE l (o + 18) 2)] := by rw [← Array.getD_eq_getD_getElem?]; exact d16
        clear hsz hold hdep hnot hlo hhi hrk
        refine stepR_do rfl (wanted_none rfl) ?_
        have hN := Bx.new W 40 (tcs (trkD l o))
        have hbN := (Below.refl W.heap.size W).alloc (Nat.le_refl _) (.cells (tcs (trkD l o)).toArray 40)
        refine stepS_new (v := .slice (some ⟨W.heap.size, 0, none⟩) 1 1) (DcR.call hbN) (hc.call hbN) ⟨W.heap.size, rfl, hc.2.2.2, hN⟩ fun K hK => ?_
        have e : (tcs (trkD l o)).toArray = #[.int .i64 (rdE l o 2), .int .i64 (rdE l (o + 2) 2), .int .i64 (rdE l (o + 4) 4), .int .i64 (rdE l (o + 8) 4), .int .i64 (rdE l (o + 12) 4), .int .i64 (rdE l (o + 16) 2), .int .i64 (rdE l (o + 18) 2)] := rfl
        rw [e] at hK
        clear e hN hbN hc
        go_simp
        exact hK
      · intro r a W hc hsz hold hdep hnot hlo hhi hrk
        have hr := hrk 7 rfl
        subst hr
        have d1 : a.tmps.getD 52 undef = vv := hdep 1 (by kernel_rfl) rfl _ rfl
        have e1 : a.tmps[52]?.getD undef = vv := by rw [← Array.getD_eq_getD_getElem?]; exact d1
        have x17 := hdep 17 (by kernel_rfl) rfl _ rfl
        clear hsz hold hdep hnot hlo hhi hrk
        refine stepR_do rfl (wanted_none rfl) ?_
        obtain ⟨g, d17, hg0, hgx⟩ : ∃ g, a.tmps.getD 68 undef = .slice (some ⟨g, 0, none⟩) 1 1 ∧ H0 ≤ g ∧ Bx W g 40 (tcs (trkD l o)) := x17
        have hrd : RdD T.z tcs 7 W (.slice (some ⟨g, 0, none⟩) 1 1) [trkD l o] := ⟨_, _, g, 0, rfl, Nat.le_refl _, fun i hi => ⟨rfl, fun j u hu => by
          obtain rfl : i = 0 := by simp at hi; omega
          simp only [Nat.zero_mul, Nat.zero_add]
          exact hgx.cell hu⟩⟩
        have hown := hc.2.1 (by omega)
        have hD : DcW w0 gT l (o + 20) cl (finD l) vv W := hc.1 (by omega)
        have hsz := hc.2.2.2
        obtain ⟨i0, hi, hz0, hz1, hz2⟩ := info_parts Try.infoTrk
        refine op_app (.tmp 52) (.tmp 68) rfl Try.underlying22 hi hz0 hz1 hz2 rfl (by omega) hown d1 (hrd.reads tcs_length) d17 (flD_one tcs_one _) (by unfold maxLen; simp only [List.length_singleton]; have := HN.out; omega) (by simp only [List.length_singleton]; have := HN.out; omega) (by have := HH.out; omega) fun v' w' h1 h2 => ?_
        rw [← flD_append] at h1
        have hb4 := (Below.refl (gT + 1) W).grown h2 (by have := HH.out; omega) (ownD_block hown)
        have hC8 : DcC w0 gT H0 l o cl (finD l) vv ts i 8 w' := ⟨fun _ => hD.own hb4, fun h => by omega, fun h => by omega, Nat.le_trans hsz h2.size⟩
        exact ⟨v', rfl, ⟨fun k hk hl => h2.block k hl (fun e => by have := HOB.out k e.symm; omega), h2.size, fun h => by omega⟩, hC8, h1⟩
      · intro r a W hc hsz hold hdep hnot hlo hhi hrk
        have o10 : a.tmps.getD 10 undef = .pointer (some ⟨gT, 0, none⟩) := hold 10 (by kernel_rfl)
        clear hsz hold hdep hnot hlo hhi hrk
        refine stepR_do rfl (wanted_none rfl) ?_
        refine stepS_val (v := .pointer (some ⟨gT, 2, none⟩)) (DcR.refl _ _ _ _ _ _) hc rfl fun K hK => ?_
        go_simp
        exact hK
      · intro r a W hc hsz hold hdep hnot hlo hhi hrk
        have hr := hrk 8 rfl
        subst hr
        have d19 : a.tmps.getD 70 undef = .pointer (some ⟨gT, 2, none⟩) := hdep 19 (by kernel_rfl) rfl _ rfl
        have x18 := hdep 18 (by kernel_rfl) rfl _ rfl
        clear hsz hold hdep hnot hlo hhi hrk
        refine stepR_do rfl (wanted_none rfl) ?_
        have hD : DcW w0 gT l (o + 20) cl (finD l) vv W := hc.1 (by omega)
        have ho : W.ownsRow (gT + 1) 40 7 (a.tmps.getD 69 undef) (i + 1) (flD tcs (ts ++ [trkD l o])) := x18
        obtain ⟨a9, c9, d18⟩ := ownD_form ho
        rw [d18] at ho
        have hsz := hc.2.2.2
        have hf := hD.t.free
        have c0 := hD.t.cell (i := 2) rfl
        have ho2 := ownD_far ho (p := ⟨gT, 2, none⟩) (by simp only; omega) (.slice a9 (i + 1) c9)
        have hC9 : DcC w0 gT H0 l o cl (finD l) vv ts i 9 (W.setCell ⟨gT, 2, none⟩ (.slice a9 (i + 1) c9)) := ⟨fun h => by omega, fun h => by omega, fun _ => ⟨_, hD.put (.slice a9 (i + 1) c9), ho2⟩, by simp [World.setCell]; exact hsz⟩
        refine stepS_new (v := undef) ⟨fun k hk hl => Below.heap_setCell _ _ _ _ (by have := HH.out; simp only; omega), by simp [World.setCell], fun _ v' h => ownD_far h (p := ⟨gT, 2, none⟩) (by simp only; omega) _⟩ hC9 trivial fun K hK => ?_
        clear hD ho ho2 hc hC9
        go_simp
        exact hK
      · intro a W hC hd hsz hold hval
        have d0 : a.tmps.getD 0 undef = .int .i64 cap := hold 0 (by kernel_rfl)
        have d1 : a.tmps.getD 1 undef = .string (str l) := hold 1 (by kernel_rfl)
        have d2 : a.tmps.getD 2 undef = undef := hold 2 (by kernel_rfl)
        have d3 : a.tmps.getD 3 undef = .pointer (some ⟨w0.heap.size, 0, none⟩) := hold 3 (by kernel_rfl)
        have d4 : a.tmps.getD 4 undef = .pointer (some ⟨w0.heap.size + 1, 0, none⟩) := hold 4 (by kernel_rfl)
        have d5 : a.tmps.getD 5 undef = .int .i64 0 := hold 5 (by kernel_rfl)
        have d6 : a.tmps.getD 6 undef = .bool false := hold 6 (by kernel_rfl)
        have d7 : a.tmps.getD 7 undef = .pointer (some ⟨w0.heap.size + 2, 0, none⟩) := hold 7 (by kernel_rfl)
        have d8 : a.tmps.getD 8 undef = .func (.func 92) #[] #[.pointer (some ⟨w0.heap.size, 0, none⟩), .pointer (some ⟨w0.heap.size + 2, 0, none⟩)] := hold 8 (by kernel_rfl)
        have d9 : a.tmps.getD 9 undef = .int .i64 (rdE l 4 4) := hold 9 (by kernel_rfl)
        have d10 : a.tmps.getD 10 undef = .pointer (some ⟨gT, 0, none⟩) := hold 10 (by kernel_rfl)
        have d11 : a.tmps.getD 11 undef = .int .i64 n := hold 11 (by kernel_rfl)
        have d12 : a.tmps.getD 12 undef = undef := hold 12 (by kernel_rfl)
        have d13 : a.tmps.getD 13 undef = undef := hold 13 (by kernel_rfl)
        have d14 : a.tmps.getD 14 undef = .string (str l) := hold 14 (by kernel_rfl)
        have d15 : a.tmps.getD 15 undef = v15 := hold 15 (by kernel_rfl)
        have d16 : a.tmps.getD 16 undef = v16 := hold 16 (by kernel_rfl)
        have d17 : a.tmps.getD 17 undef = v16 := hold 17 (by kernel_rfl)
        have d18 : a.tmps.getD 18 undef = .string (str l) := hold 18 (by kernel_rfl)
        have d19 : a.tmps.getD 19 undef = v15 := hold 19 (by kernel_rfl)
        have d20 : a.tmps.getD 20 undef = v20 := hold 20 (by kernel_rfl)
        have d21 : a.tmps.getD 21 undef = v21 := hold 21 (by kernel_rfl)
        have d22 : a.tmps.getD 22 undef = v21 := hold 22 (by kernel_rfl)
        have d23 : a.tmps.getD 23 undef = .string (str l) := hold 23 (by kernel_rfl)
        have d24 : a.tmps.getD 24 undef = v15 := hold 24 (by kernel_rfl)
        have d25 : a.tmps.getD 25 undef = v25 := hold 25 (by kernel_rfl)
        have d26 : a.tmps.getD 26 undef = v26 := hold 26 (by kernel_rfl)
        have d27 : a.tmps.getD 27 undef = .bool false := hold 27 (by kernel_rfl)
        have d28 : a.tmps.getD 28 undef = v21 := hold 28 (by kernel_rfl)
        have d29 : a.tmps.getD 29 undef = undef := hold 29 (by kernel_rfl)
        have d30 : a.tmps.getD 30 undef = .func (.func 92) #[] #[.pointer (some ⟨w0.heap.size, 0, none⟩), .pointer (some ⟨w0.heap.size + 2, 0, none⟩)] := hold 30 (by kernel_rfl)
        have d31 : a.tmps.getD 31 undef = .func (.func 92) #[] #[.pointer (some ⟨w0.heap.size, 0, none⟩), .pointer (some ⟨w0.heap.size + 2, 0, none⟩)] := hold 31 (by kernel_rfl)
        have d32 : a.tmps.getD 32 undef = .int .i64 (rdE l 4 4) := hold 32 (by kernel_rfl)
        have d33 : a.tmps.getD 33 undef = .func (.func 92) #[] #[.pointer (some ⟨w0.heap.size, 0, none⟩), .pointer (some ⟨w0.heap.size + 2, 0, none⟩)] := hold 33 (by kernel_rfl)
        have d34 : a.tmps.getD 34 undef = .int .i64 (rdE l 8 2) := hold 34 (by kernel_rfl)
        have d35 : a.tmps.getD 35 undef = .func (.func 92) #[] #[.pointer (some ⟨w0.heap.size, 0, none⟩), .pointer (some ⟨w0.heap.size + 2, 0, none⟩)] := hold 35 (by kernel_rfl)
        have d36 : a.tmps.getD 36 undef = .int .i64 (rdE l 10 2) := hold 36 (by kernel_rfl)
        have d37 : a.tmps.getD 37 undef = .bool (finD l) := hold 37 (by kernel_rfl)
        have d38 : a.tmps.getD 38 undef = .agg #[.int .i64 (rdE l 8 2), .bool (finD l), .slice none 0 0] := hold 38 (by kernel_rfl)
        have d39 : a.tmps.getD 39 undef = .func (.func 92) #[] #[.pointer (some ⟨w0.heap.size, 0, none⟩), .pointer (some ⟨w0.heap.size + 2, 0, none⟩)] := hold 39 (by kernel_rfl)
        have d40 : a.tmps.getD 40 undef = .int .i64 n := hold 40 (by kernel_rfl)
        have d41 : a.tmps.getD 41 undef = .int .i64 n := hold 41 (by kernel_rfl)
        have d42 : a.tmps.getD 42 undef = .string (str l) := hold 42 (by kernel_rfl)
        have d43 : a.tmps.getD 43 undef = v15 := hold 43 (by kernel_rfl)
        have d44 : a.tmps.getD 44 undef = v25 := hold 44 (by kernel_rfl)
        have d45 : a.tmps.getD 45 undef = v45 := hold 45 (by kernel_rfl)
        have d46 : a.tmps.getD 46 undef = .bool false := hold 46 (by kernel_rfl)
        have d47 : a.tmps.getD 47 undef = undef := hold 47 (by kernel_rfl)
        have d48 : a.tmps.getD 48 undef = .int .i64 n := hold 48 (by kernel_rfl)
        have d49 : a.tmps.getD 49 undef = .int .i64 i := hold 49 (by kernel_rfl)
        have d72 : a.tmps.getD 72 undef = undef := hold 72 (by kernel_rfl)
        have d73 : a.tmps.getD 73 undef = undef := hold 73 (by kernel_rfl)
        have d74 : a.tmps.getD 74 undef = undef := hold 74 (by kernel_rfl)
        have d75 : a.tmps.getD 75 undef = undef := hold 75 (by kernel_rfl)
        have d76 : a.tmps.getD 76 undef = undef := hold 76 (by kernel_rfl)
        have d77 : a.tmps.getD 77 undef = undef := hold 77 (by kernel_rfl)
        have d78 : a.tmps.getD 78 undef = undef := hold 78 (by kernel_rfl)
        have d79 : a.tmps.getD 79 undef = undef := hold 79 (by kernel_rfl)
        have d80 : a.tmps.getD 80 undef = undef := hold 80 (by kernel_rfl)
        have d81 : a.tmps.getD 81 undef = undef := hold 81 (by kernel_rfl)
        have d82 : a.tmps.getD 82 undef = undef := hold 82 (by kernel_rfl)
        have d83 : a.tmps.getD 83 undef = undef := hold 83 (by kernel_rfl)
        have d84 : a.tmps.getD 84 undef = undef := hold 84 (by kernel_rfl)
        have d85 : a.tmps.getD 85 undef = undef := hold 85 (by kernel_rfl)
        have d86 : a.tmps.getD 86 undef = undef := hold 86 (by kernel_rfl)
        have d87 : a.tmps.getD 87 undef = undef := hold 87 (by kernel_rfl)
        clear hold
        obtain ⟨tm, df⟩ := a
        replace hd : df = [] := hd
        replace hsz : tm.size = 88 := hsz
        replace d0 : tm.getD 0 undef = .int .i64 cap := d0
        replace d1 : tm.getD 1 undef = .string (str l) := d1
        replace d2 : tm.getD 2 undef = undef := d2
        replace d3 : tm.getD 3 undef = .pointer (some ⟨w0.heap.size, 0, none⟩) := d3
        replace d4 : tm.getD 4 undef = .pointer (some ⟨w0.heap.size + 1, 0, none⟩) := d4
        replace d5 : tm.getD 5 undef = .int .i64 0 := d5
        replace d6 : tm.getD 6 undef = .bool false := d6
        replace d7 : tm.getD 7 undef = .pointer (some ⟨w0.heap.size + 2, 0, none⟩) := d7
        replace d8 : tm.getD 8 undef = .func (.func 92) #[] #[.pointer (some ⟨w0.heap.size, 0, none⟩), .pointer (some ⟨w0.heap.size + 2, 0, none⟩)] := d8
        replace d9 : tm.getD 9 undef = .int .i64 (rdE l 4 4) := d9
        replace d10 : tm.getD 10 undef = .pointer (some ⟨gT, 0, none⟩) := d10
        replace d11 : tm.getD 11 undef = .int .i64 n := d11
        replace d12 : tm.getD 12 undef = undef := d12
        replace d13 : tm.getD 13 undef = undef := d13
        replace d14 : tm.getD 14 undef = .string (str l) := d14
        replace d15 : tm.getD 15 undef = v15 := d15
        replace d16 : tm.getD 16 undef = v16 := d16
        replace d17 : tm.getD 17 undef = v16 := d17
        replace d18 : tm.getD 18 undef = .string (str l) := d18
        replace d19 : tm.getD 19 undef = v15 := d19
        replace d20 : tm.getD 20 undef = v20 := d20
        replace d21 : tm.getD 21 undef = v21 := d21
        replace d22 : tm.getD 22 undef = v21 := d22
        replace d23 : tm.getD 23 undef = .string (str l) := d23
        replace d24 : tm.getD 24 undef = v15 := d24
        replace d25 : tm.getD 25 undef = v25 := d25
        replace d26 : tm.getD 26 undef = v26 := d26
        replace d27 : tm.getD 27 undef = .bool false := d27
        replace d28 : tm.getD 28 undef = v21 := d28
        replace d29 : tm.getD 29 undef = undef := d29
        replace d30 : tm.getD 30 undef = .func (.func 92) #[] #[.pointer (some ⟨w0.heap.size, 0, none⟩), .pointer (some ⟨w0.heap.size + 2, 0, none⟩)] := d30
        replace d31 : tm.getD 31 undef = .func (.func 92) #[] #[.pointer (some ⟨w0.heap.size, 0, none⟩), .pointer (some ⟨w0.heap.size + 2, 0, none⟩)] := d31
        replace d32 : tm.getD 32 undef = .int .i64 (rdE l 4 4) := d32
        replace d33 : tm.getD 33 undef = .func (.func 92) #[] #[.pointer (some ⟨w0.heap.size, 0, none⟩), .pointer (some ⟨w0.heap.size + 2, 0, none⟩)] := d33
        replace d34 : tm.getD 34 undef = .int .i64 (rdE l 8 2) := d34
        replace d35 : tm.getD 35 undef = .func (.func 92) #[] #[.pointer (some ⟨w0.heap.size, 0, none⟩), .pointer (some ⟨w0.heap.size + 2, 0, none⟩)] := d35
        replace d36 : tm.getD 36 undef = .int .i64 (rdE l 10 2) := d36
        replace d37 : tm.getD 37 undef = .bool (finD l) := d37
        replace d38 : tm.getD 38 undef = .agg #[.int .i64 (rdE l 8 2), .bool (finD l), .slice none 0 0] := d38
        replace d39 : tm.getD 39 undef = .func (.func 92) #[] #[.pointer (some ⟨w0.heap.size, 0, none⟩), .pointer (some ⟨w0.heap.size + 2, 0, none⟩)] := d39
        replace d40 : tm.getD 40 undef = .int .i64 n := d40
        replace d41 : tm.getD 41 undef = .int .i64 n := d41
        replace d42 : tm.getD 42 undef = .string (str l) := d42
        replace d43 : tm.getD 43 undef = v15 := d43
        replace d44 : tm.getD 44 undef = v25 := d44
        replace d45 : tm.getD 45 undef = v45 := d45
        replace d46 : tm.getD 46 undef = .bool false := d46
        replace d47 : tm.getD 47 undef = undef := d47
        replace d48 : tm.getD 48 undef = .int .i64 n := d48
        replace d49 : tm.getD 49 undef = .int .i64 i := d49
        replace d72 : tm.getD 72 undef = undef := d72
        replace d73 : tm.getD 73 undef = undef := d73
        replace d74 : tm.getD 74 undef = undef := d74
        replace d75 : tm.getD 75 undef = undef := d75
        replace d76 : tm.getD 76 undef = undef := d76
        replace d77 : tm.getD 77 undef = undef := d77
        replace d78 : tm.getD 78 undef = undef := d78
        replace d79 : tm.getD 79 undef = undef := d79
        replace d80 : tm.getD 80 undef = undef := d80
        replace d81 : tm.getD 81 undef = undef := d81
        replace d82 : tm.getD 82 undef = undef := d82
        replace d83 : tm.getD 83 undef = undef := d83
        replace d84 : tm.getD 84 undef = undef := d84
        replace d85 : tm.getD 85 undef = undef := d85
        replace d86 : tm.getD 86 undef = undef := d86
        replace d87 : tm.getD 87 undef = undef := d87
        subst hd
        have e : tm = List.toArray (tm.getD 0 undef :: tm.getD 1 undef :: tm.getD 2 undef :: tm.getD 3 undef :: tm.getD 4 undef :: tm.getD 5 undef :: tm.getD 6 undef :: tm.getD 7 undef :: tm.getD 8 undef :: tm.getD 9 undef :: tm.getD 10 undef :: tm.getD 11 undef :: tm.getD 12 undef :: tm.getD 13 undef :: tm.getD 14 undef :: tm.getD 15 undef :: tm.getD 16 undef :: tm.getD 17 undef :: tm.getD 18 undef :: tm.getD 19 undef :: tm.getD 20 undef :: tm.getD 21 undef :: tm.getD 22 undef :: tm.getD 23 undef :: tm.getD 24 undef :: tm.getD 25 undef :: tm.getD 26 undef :: tm.getD 27 undef :: tm.getD 28 undef :: tm.getD 29 undef :: tm.getD 30 undef :: tm.getD 31 undef :: tm.getD 32 undef :: tm.getD 33 undef :: tm.getD 34 undef :: tm.getD 35 undef :: tm.getD 36 undef :: tm.getD 37 undef :: tm.getD 38 undef :: tm.getD 39 undef :: tm.getD 40 undef :: tm.getD 41 undef :: tm.getD 42 undef :: tm.getD 43 undef :: tm.getD 44 undef :: tm.getD 45 undef :: tm.getD 46 undef :: tm.getD 47 undef :: tm.getD 48 undef :: tm.getD 49 undef :: tm.getD 50 undef :: tm.getD 51 undef :: tm.getD 52 undef :: tm.getD 53 undef :: tm.getD 54 undef :: tm.getD 55 undef :: tm.getD 56 undef :: tm.getD 57 undef :: tm.getD 58 undef :: tm.getD 59 undef :: tm.getD 60 undef :: tm.getD 61 undef :: tm.getD 62 undef :: tm.getD 63 undef :: tm.getD 64 undef :: tm.getD 65 undef :: tm.getD 66 undef :: tm.getD 67 undef :: tm.getD 68 undef :: tm.getD 69 undef :: tm.getD 70 undef :: tm.getD 71 undef :: tm.getD 72 undef :: tm.getD 73 undef :: tm.getD 74 undef :: tm.getD 75 undef :: tm.getD 76 undef :: tm.getD 77 undef :: tm.getD 78 undef :: tm.getD 79 undef :: tm.getD 80 undef :: tm.getD 81 undef :: tm.getD 82 undef :: tm.getD 83 undef :: tm.getD 84 undef :: tm.getD 85 undef :: tm.getD 86 undef :: tm.getD 87 undef :: []) := arr_eq tm 88 hsz
        rw [d0, d1, d2, d3, d4, d5, d6, d7, d8, d9, d10, d11, d12, d13, d14, d15, d16, d17, d18, d19, d20, d21, d22, d23, d24, d25, d26, d27, d28, d29, d30, d31, d32, d33, d34, d35, d36, d37, d38, d39, d40, d41, d42, d43, d44, d45, d46, d47, d48, d49, d72, d73, d74, d75, d76, d77, d78, d79, d80, d81, d82, d83, d84, d85, d86, d87] at e
        clear d0 d1 d2 d3 d4 d5 d6 d7 d8 d9 d10 d11 d12 d13 d14 d15 d16 d17 d18 d19 d20 d21 d22 d23 d24 d25 d26 d27 d28 d29 d30 d31 d32 d33 d34 d35 d36 d37 d38 d39 d40 d41 d42 d43 d44 d45 d46 d47 d48 d49 d72 d73 d74 d75 d76 d77 d78 d79 d80 d81 d82 d83 d84 d85 d86 d87 hsz
        generalize tm.getD 50 undef = v50 at e
        generalize tm.getD 51 undef = v51 at e
        generalize tm.getD 52 undef = v52 at e
        generalize tm.getD 53 undef = v53 at e
        generalize tm.getD 54 undef = v54 at e
        generalize tm.getD 55 undef = v55 at e
        generalize tm.getD 56 undef = v56 at e
        generalize tm.getD 57 undef = v57 at e
        generalize tm.getD 58 undef = v58 at e
        generalize tm.getD 59 undef = v59 at e
        generalize tm.getD 60 undef = v60 at e
        generalize tm.getD 61 undef = v61 at e
        generalize tm.getD 62 undef = v62 at e
        generalize tm.getD 63 undef = v63 at e
        generalize tm.getD 64 undef = v64 at e
        generalize tm.getD 65 undef = v65 at e
        generalize tm.getD 66 undef = v66 at e
        generalize tm.getD 67 undef = v67 at e
        generalize tm.getD 68 undef = v68 at e
        generalize tm.getD 69 undef = v69 at e
        generalize tm.getD 70 undef = v70 at e
        generalize tm.getD 71 undef = v71 at e
        subst e
        clear hval
        obtain ⟨v', h1, h2⟩ := hC.2.2.1 rfl
        clear hC
        go_wp2_with fail
        go_roundw
        case rel =>
          rw [HO.out, HCL.out] at h1
          rw [HTS.out, HO.out, ← tksD_succ] at h2
          refine ⟨_, _, _, _, _, _, _, _, _, _, _, _, _, _, _, _, _, _, _, _, _, _, _, ?_, rfl⟩
          exact ⟨i + 1, v', by omega, by go_num, by simpa [Nat.mul_add, Nat.add_assoc] using h1, h2⟩
        case measure => simp [intOf]; omega
    · obtain rfl : i = n := by omega
      obtain ⟨va, vc, rfl⟩ := ownD_form hO
      have hRK : RdK wr (.slice va i vc) (tksD l i) := by
        have h := RdD.ofOwn (d := T.z) tcs_length (by rw [tksD_length]; exact hO)
        exact h
      obtain ⟨ts, hts⟩ : ∃ ts, ts = tksD l i := ⟨_, rfl⟩
      have hfew := few_tks l i hn
      have htl := tksD_length l i
      rw [← hts] at hRK hfew htl
      have HTS := Lib.hid hts
      have HO := Lib.hid hO
      clear hts hO
      have HEN := Lib.hid (fun W hW => encodeT_any cap (rdE l 4 4) (clD l) (finD l) (.slice va i vc) ts W hW (.inl hfew) (by have := rdE_lt l 8 2 (by omega); unfold clD; omega))
      have c0 := HS.t.cell (i := 0) rfl
      have c1 := HS.t.cell (i := 1) rfl
      have c2 := HS.t.cell (i := 2) rfl
      go_wp2_with fail
      refine (HEN.out _ hRK).mono ?_
      have hOK : okD cap l = (decide ((encodeR cap (rdE l 4 4) (clD l) (finD l) ts).2 = 0) && decide ((encodeR cap (rdE l 4 4) (clD l) (finD l) ts).1 = l)) := by rw [HTS.out]; exact okD_eq hl HCN.out
      generalize encodeR cap (rdE l 4 4) (clD l) (finD l) ts = R at hOK
      obtain ⟨again, code⟩ := R
      rintro e w9 ⟨rfl, hb9⟩
      have HS9 := HS.call hb9
      clear HEN c0 c1 c2 hRK HS
      have c0 := HS9.t.cell (i := 0) rfl
      have c1 := HS9.t.cell (i := 1) rfl
      have c2 := HS9.t.cell (i := 2) rfl
      have hs0 := HS9.s.cell (i := 0) rfl
      have z0 := HS9.z.cell (i := 0) rfl
      have z1 := HS9.z.cell (i := 1) rfl
      have z2 := HS9.z.cell (i := 2) rfl
      have hzf := HS9.z.free
      have hlt9 := HS9.t.lt
      have hg9 := HS9.g
      have HO9 : Hid (w9.ownsRow (gT + 1) 40 7 (.slice (va) i vc) i (flD tcs ts)) := Lib.hid (by rw [HTS.out]; exact ownD_keep HO.out hb9)
      have HLE := Lib.hid HS9.le
      clear HS9
      have HEND : Hid (okD cap l = true → (clD l : Int) = clD l ∧ finD l = finD l ∧ ts = tksD l (cntD l) ∧ ((rdE l 4 4 : Nat) : Int) = seqD l) := Lib.hid fun _ => ⟨rfl, rfl, by rw [HCN.out]; exact HTS.out, rfl⟩
      by_cases hcode : code = 0
      · subst hcode
        by_cases hag : again = l
        · subst hag
          have hOK1 : okD cap again = true := by rw [hOK]; simp
          have HOK := Lib.hid hOK1
          have hse := str_same (rfl : again = again)
          clear hOK hOK1
          go_wp2_with fail
          go_region
          all_goals
            go_wp2_with fail
            refine bodyPost_ret (v := .tuple #[tval (clD again) (finD again) (.slice va i vc), .int .i64 (rdE again 4 4), .bool true]) (by simp [results, Try.results79, go_sem, z0, z1, z2]) rfl ?_
            exact ⟨clD again, finD again, _, ts, rdE again 4 4, by rw [HOK.out], rdk_three HO9.out htl (by omega) _ _ _, (((HLE.out.setCell (by simp) _).setCell (by simp) _).setCell (by simp) _).drew, fun h => ⟨rfl, rfl, (HEND.out h).2.2.1, (HEND.out h).2.2.2⟩⟩
        · have hOK1 : okD cap l = false := by rw [hOK]; simp [hag]
          have HOK := Lib.hid hOK1
          have hse := str_other hag
          clear hOK hOK1 hag
          go_wp2_with fail
          go_region
          all_goals
            go_wp2_with fail
            refine bodyPost_ret (v := .tuple #[tval (clD l) (finD l) (.slice va i vc), .int .i64 (rdE l 4 4), .bool false]) (by simp [results, Try.results79, go_sem, z0, z1, z2]) rfl ?_
            exact ⟨clD l, finD l, _, ts, rdE l 4 4, by rw [HOK.out], rdk_three HO9.out htl (by omega) _ _ _, (((HLE.out.setCell (by simp) _).setCell (by simp) _).setCell (by simp) _).drew, fun h => ⟨rfl, rfl, (HEND.out h).2.2.1, (HEND.out h).2.2.2⟩⟩
      · have hOK1 : okD cap l = false := by rw [hOK]; simp [hcode]
        have HOK := Lib.hid hOK1
        have hse : (code == 0) = false := beq_eq_false_iff_ne.2 hcode
        clear hOK hOK1 hcode
        go_wp2_with fail
        go_region
        all_goals
          go_wp2_with fail
          refine bodyPost_ret (v := .tuple #[tval (clD l) (finD l) (.slice va i vc), .int .i64 (rdE l 4 4), .bool false]) (by simp [results, Try.results79, go_sem, z0, z1, z2]) rfl ?_
          exact ⟨clD l, finD l, _, ts, rdE l 4 4, by rw [HOK.out], rdk_three HO9.out htl (by omega) _ _ _, (((HLE.out.setCell (by simp) _).setCell (by simp) _).setCell (by simp) _).drew, fun h => ⟨rfl, rfl, (HEND.out h).2.2.1, (HEND.out h).2.2.2⟩⟩
set_option maxRecDepth 100000 in
set_option maxHeartbeats 4000000 in
theorem decode_cnt (cap : Int) (l : List UInt8) (n : Nat) (w : World) (hl : l.length = 16 + 20 * n) (hn : n ≤ 99) (hc : cntD l ≠ n) : Calls Try.prog 79 #[.int .i64 cap, .string (str l)] w (DecP cap l w) := by
  have hsz := str_size l
  rw [hl] at hsz
  obtain ⟨w0, rfl⟩ : ∃ w0 : World, w0 = w := ⟨_, rfl⟩
  have hd0 : 16 ≤ 16 + 20 * (n : Int) := by omega
  have hd1 : 16 + 20 * (n : Int) ≤ 1996 := by omega
  have hd3 : ((16 + 20 * (n : Int) - 16) % 20 != 0) = false := by rw [bne_eq_false_iff_eq]; omega
  go_enter Try.func79, Try.ntmps79
  go_upto_region 5 with (fail)
  have HS0 : Dc3 w0 l 4 (((w0.alloc (.cells #[.string (str l)] 9)).alloc (.cells #[.int .i64 0, .bool false, .slice none 0 0] 24)).alloc (.cells #[.int .i64 4] 3)) :=
    ⟨((Bx.new w0 _ _).alloc _).alloc _, by have := (Bx.new (w0.alloc (.cells #[.string (str l)] 9)) 24 [.int .i64 0, .bool false, .slice none 0 0]).alloc (.cells #[.int .i64 4] 3); rw [World.size_alloc] at this; exact this,
      by have := Bx.new ((w0.alloc (.cells #[.string (str l)] 9)).alloc (.cells #[.int .i64 0, .bool false, .slice none 0 0] 24)) 3 [.int .i64 4]; rw [World.size_alloc, World.size_alloc] at this; exact this,
      (((Below.refl _ _).alloc (Nat.le_refl _) _).alloc (by simp) _).alloc (by simp; omega) _⟩
  generalize ((w0.alloc (.cells #[.string (str l)] 9)).alloc (.cells #[.int .i64 0, .bool false, .slice none 0 0] 24)).alloc (.cells #[.int .i64 4] 3) = w1 at HS0 ⊢
  simp only [show w0.heap.size + 1 + 1 = w0.heap.size + 2 from rfl]
  have hl1 : l.length ≤ 1000000 := by omega
  clear hd0 hd1 hd3 hsz
  go_wp2_with fail
  refine (next_3 HS0 4 4 rfl (by omega) (by omega) (by omega) hl1).mono ?_
  rintro e w2 ⟨rfl, HS2⟩
  replace HS2 : Dc3 w0 l 8 w2 := HS2
  go_wp2_with fail
  refine (next_3 HS2 2 2 rfl (by omega) (by omega) (by omega) hl1).mono ?_
  rintro e w3 ⟨rfl, HS3⟩
  replace HS3 : Dc3 w0 l 10 w3 := HS3
  go_wp2_with fail
  refine (next_3 HS3 2 2 rfl (by omega) (by omega) (by omega) hl1).mono ?_
  rintro e w4 ⟨rfl, HS4⟩
  replace HS4 : Dc3 w0 l 12 w4 := HS4
  clear HS0 HS2 HS3
  have hfin : (((rdE l 10 2 : Nat) : Int) == 1) = finD l := by
    unfold finD
    rw [Bool.eq_iff_iff, beq_iff_eq, beq_iff_eq]
    omega
  go_upto_region 7 with (fail)
  have HS5 : DcW w0 w4.heap.size l 12 (clD l) (finD l) (.slice none 0 0) (w4.alloc (.cells #[.int .i64 (rdE l 8 2), .bool (finD l), .slice none 0 0] 24)) :=
    ⟨HS4.s.alloc _, HS4.z.alloc _, HS4.a.alloc _, Bx.new w4 _ [.int .i64 (rdE l 8 2), .bool (finD l), .slice none 0 0], HS4.le.alloc HS4.le.size _, HS4.a.lt⟩
  obtain ⟨gT, hgT⟩ : ∃ gT, gT = w4.heap.size := ⟨_, rfl⟩
  rw [← hgT] at HS5
  simp only [← hgT]
  clear hgT hfin HS4
  generalize w4.alloc (.cells #[.int .i64 (rdE l 8 2), .bool (finD l), .slice none 0 0] 24) = w5 at HS5 ⊢
  go_wp2_with fail
  refine (next_W HS5 2 2 rfl (by omega) (by omega) (by omega) hl1).mono ?_
  rintro e w6 ⟨rfl, HS6, _⟩
  replace HS6 : DcW w0 gT l 14 (clD l) (finD l) (.slice none 0 0) w6 := HS6
  clear HS5
  have hok : okD cap l = false := by
    rw [Bool.eq_false_iff]
    intro h
    have := (okD_iff.1 h).1.2
    omega
  have HOK := Lib.hid hok
  obtain ⟨m, hm⟩ : ∃ m, m = rdE l 12 2 := ⟨_, rfl⟩
  have hmn : m ≠ n := by rw [hm]; exact hc
  simp only [← hm]
  have c0 := HS6.s.cell (i := 0) rfl
  have z0 := HS6.z.cell (i := 0) rfl
  have z1 := HS6.z.cell (i := 1) rfl
  have z2 := HS6.z.cell (i := 2) rfl
  have hzf := HS6.z.free
  have hzl := HS6.z.lt
  have hd4 : ((m : Int) != (16 + 20 * (n : Int) - 16) / 20) = true := by rw [bne_iff_ne]; omega
  have hsz2 := str_size l
  rw [hl] at hsz2
  have HLE := Lib.hid HS6.le
  clear hok hc hm hmn HS6
  go_wp2_with fail
  refine bodyPost_ret (v := .tuple #[tval 0 false (.slice none 0 0), .int .i64 0, .bool false]) (by simp [results, Try.results79, go_sem, z0, z1, z2]) rfl ?_
  refine ⟨0, false, _, [], 0, by rw [HOK.out], RdK.nil _, ?_, fun h => by rw [HOK.out] at h; cases h⟩
  exact ((HLE.out.setCell (by simp) _).setCell (by simp) _).setCell (by simp) _
set_option maxRecDepth 100000 in
set_option maxHeartbeats 1000000 in
theorem decode_short (cap : Int) (l : List UInt8) (w : World) (hl : l.length ≤ 1000000) (h1 : l.length < 16) (hok : okD cap l = false) : Calls Try.prog 79 #[.int .i64 cap, .string (str l)] w (DecP cap l w) := by
  have hsz := str_size l
  obtain ⟨n, hn⟩ : ∃ n, n = l.length := ⟨_, rfl⟩
  rw [← hn] at hsz h1
  obtain ⟨w0, rfl⟩ : ∃ w0 : World, w0 = w := ⟨_, rfl⟩
  have HOK := Lib.hid hok
  have HN := Lib.hid hn
  have hbb : n ≤ 1000000 := by omega
  clear hok hn hl
  go_enter Try.func79, Try.ntmps79
  go_wp2_with fail
  refine bodyPost_ret (v := .tuple #[tval 0 false (.slice none 0 0), .int .i64 0, .bool false]) (by simp [results, Try.results79, go_sem]) rfl ?_
  refine ⟨0, false, _, [], 0, by rw [HOK.out], RdK.nil _, ?_, fun h => by rw [HOK.out] at h; cases h⟩
  exact ((Below.refl _ _).alloc (Nat.le_refl _) _).alloc (by simp) _
set_option maxRecDepth 100000 in
set_option maxHeartbeats 1000000 in
theorem decode_long (cap : Int) (l : List UInt8) (w : World) (hl : l.length ≤ 1000000) (h1 : 1996 < l.length) (hok : okD cap l = false) : Calls Try.prog 79 #[.int .i64 cap, .string (str l)] w (DecP cap l w) := by
  have hsz := str_size l
  obtain ⟨n, hn⟩ : ∃ n, n = l.length := ⟨_, rfl⟩
  rw [← hn] at hsz h1
  obtain ⟨w0, rfl⟩ : ∃ w0 : World, w0 = w := ⟨_, rfl⟩
  have HOK := Lib.hid hok
  have HN := Lib.hid hn
  have hbb : n ≤ 1000000 := by omega
  clear hok hn hl
  go_enter Try.func79, Try.ntmps79
  go_wp2_with fail
  refine bodyPost_ret (v := .tuple #[tval 0 false (.slice none 0 0), .int .i64 0, .bool false]) (by simp [results, Try.results79, go_sem]) rfl ?_
  refine ⟨0, false, _, [], 0, by rw [HOK.out], RdK.nil _, ?_, fun h => by rw [HOK.out] at h; cases h⟩
  exact ((Below.refl _ _).alloc (Nat.le_refl _) _).alloc (by simp) _
set_option maxRecDepth 100000 in
set_option maxHeartbeats 1000000 in
theorem decode_rem (cap : Int) (l : List UInt8) (w : World) (hl : l.length ≤ 1000000) (h1 : 16 ≤ l.length) (h2 : l.length ≤ 1996) (h3 : ((l.length : Int) - 16) % 20 ≠ 0) (hok : okD cap l = false) : Calls Try.prog 79 #[.int .i64 cap, .string (str l)] w (DecP cap l w) := by
  have hsz := str_size l
  obtain ⟨n, hn⟩ : ∃ n, n = l.length := ⟨_, rfl⟩
  rw [← hn] at hsz h1 h2 h3
  obtain ⟨w0, rfl⟩ : ∃ w0 : World, w0 = w := ⟨_, rfl⟩
  have HOK := Lib.hid hok
  have h4 : (((n : Int) - 16) % 20 != 0) = true := bne_iff_ne.2 h3
  have HN := Lib.hid hn
  have hbb : n ≤ 1000000 := by omega
  clear hok hn hl
  go_enter Try.func79, Try.ntmps79
  go_wp2_with fail
  refine bodyPost_ret (v := .tuple #[tval 0 false (.slice none 0 0), .int .i64 0, .bool false]) (by simp [results, Try.results79, go_sem]) rfl ?_
  refine ⟨0, false, _, [], 0, by rw [HOK.out], RdK.nil _, ?_, fun h => by rw [HOK.out] at h; cases h⟩
  exact ((Below.refl _ _).alloc (Nat.le_refl _) _).alloc (by simp) _
theorem decode_any (cap : Int) (l : List UInt8) (w : World) (hl : l.length ≤ 1000000) : Calls Try.prog 79 #[.int .i64 cap, .string (str l)] w (DecP cap l w) := by
  have bad : (¬ ∃ n, l.length = 16 + 20 * n ∧ n ≤ 99) → okD cap l = false := fun h => by
    rw [Bool.eq_false_iff]
    intro h1
    have h2 := okD_iff.1 h1
    have h3 := h2.2.1.2.2.1
    rw [tksD_length] at h3
    exact h ⟨_, h2.1.2, h3⟩
  by_cases h1 : l.length < 16
  · exact decode_short cap l w hl h1 (bad fun ⟨n, h, _⟩ => by omega)
  by_cases h2 : 1996 < l.length
  · exact decode_long cap l w hl h2 (bad fun ⟨n, h, _⟩ => by omega)
  by_cases h3 : ((l.length : Int) - 16) % 20 = 0
  · obtain ⟨n, hn⟩ : ∃ n, l.length = 16 + 20 * n := ⟨(l.length - 16) / 20, by omega⟩
    by_cases hc : cntD l = n
    · exact decode_main cap l n w hn (by omega) hc
    · exact decode_cnt cap l n w hn (by omega) hc
  · exact decode_rem cap l w hl (by omega) (by omega) h3 (bad fun ⟨n, h, _⟩ => by omega)
end Go.Proofs.Ytiioojlihapdaaa.E1
