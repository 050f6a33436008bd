/- Chapter 14: Decode of the reference, every string. -/
import Derived.Test.YtiioojlihapdaaaEnP5
/- Chapter 14: Decode of the reference walked. -/
namespace Go.Proofs.Ytiioojlihapdaaa.E1
open Go.RowKit W10
set_option linter.unusedVariables false

set_option maxRecDepth 100000 in
theorem number_any (l : List UInt8) (o size : Nat) (x y : Int) (w : World) (hy : y = o) (hx : x = size) (h1 : 1 ≤ size) (hs : size ≤ 4) (ho : o ≤ 1000000) (hl : l.length ≤ 1000000) :
    Calls Try.prog 94 #[.string (str l), .int .i64 y, .int .i64 x] w fun e w' => e = .returned (.int .i64 (rdE l o size)) ∧ Below w.heap.size w w' := by
  have HR := Lib.hid (fun W => rreadbig_any l o size x y W hy hx h1 hs ho hl)
  clear hy hx
  go_enter Try.func94, Try.ntmps94
  go_wp2_with fail
  refine (HR.out _).mono ?_
  rintro e w1 ⟨rfl, hb⟩
  go_wp2_with fail
  go_ret
  exact ⟨rfl, hb⟩
/-- what Decode holds: the result's box, the table -/
structure RcW (w0 : World) (gT : Nat) (cl : Int) (fin : Bool) (v : Value) (W : World) : Prop where
  z : Bx W w0.heap.size 24 [.int .i64 0, .bool false, .slice none 0 0]
  t : Bx W gT 24 [.int .i64 cl, .bool fin, v]
  le : Below w0.heap.size w0 W
  g : w0.heap.size < gT
section
variable {w0 W W' : World} {gT : Nat} {cl : Int} {fin : Bool} {v : Value}
theorem RcW.call (h : RcW w0 gT cl fin v W) (hb : Below W.heap.size W W') : RcW w0 gT cl fin v W' := ⟨h.z.call hb, h.t.call hb, h.le.trans (hb.mono h.le.size), h.g⟩
theorem RcW.own (h : RcW w0 gT cl fin v W) (hb : Below (gT + 1) W W') : RcW w0 gT cl fin v W' :=
  have := h.g
  ⟨h.z.keepB hb (by omega), h.t.keepB hb (by omega), h.le.trans (hb.mono (by omega)), h.g⟩
theorem RcW.put (h : RcW w0 gT cl fin v W) (v' : Value) : RcW w0 gT cl fin v' (W.setCell ⟨gT, 2, none⟩ v') :=
  have := h.g
  ⟨h.z.far (by simp only; omega) _, h.t.set 2 v', h.le.setCell (by simp only; omega) _, h.g⟩
theorem RcW.drew (h : RcW w0 gT cl fin v W) : RcW w0 gT cl fin v W.drew := ⟨h.z, h.t, h.le.drew, h.g⟩
end
def RcC (w0 : World) (gT : Nat) (H0 : Nat) (l : List UInt8) (o : Nat) (cl : Int) (fin : Bool) (vv : Value) (ts : List T.Trk) (n : Nat) (r : Nat) (W : World) : Prop :=
  (r ≤ 1 → RcW w0 gT cl fin vv W) ∧ (r = 0 → W.ownsRow (gT + 1) 40 7 vv n (flD tcs ts)) ∧ (r = 2 → ∃ v', RcW w0 gT cl fin v' W ∧ W.ownsRow (gT + 1) 40 7 v' (n + 1) (flD tcs (ts ++ [trkD l o]))) ∧ H0 ≤ W.heap.size
theorem RcC.call {w0 : World} {gT H0 : Nat} {l : List UInt8} {o : Nat} {cl : Int} {fin : Bool} {vv : Value} {ts : List T.Trk} {n : Nat} {r : Nat} {W W' : World} (h : RcC w0 gT H0 l o cl fin vv ts n r W) (hb : Below W.heap.size W W') : RcC w0 gT H0 l o cl fin vv ts n r W' :=
  ⟨fun hr => (h.1 hr).call hb, fun hr => ownD_keep (h.2.1 hr) hb, fun hr => by obtain ⟨v', h1, h2⟩ := h.2.2.1 hr; exact ⟨v', h1.call hb, ownD_keep h2 hb⟩, Nat.le_trans h.2.2.2 hb.size⟩
def RcR (H0 base n : Nat) (xs : List Value) (r : Nat) (w W : World) : Prop :=
  (∀ k, H0 ≤ k → k < w.heap.size → W.heap[k]? = w.heap[k]?) ∧ w.heap.size ≤ W.heap.size ∧ (1 ≤ r → ∀ v', w.ownsRow base 40 7 v' n xs → W.ownsRow base 40 7 v' n xs)
theorem RcR.refl (H0 base n : Nat) (xs : List Value) (r : Nat) (w : World) : RcR H0 base n xs r w w := ⟨fun _ _ _ => rfl, Nat.le_refl _, fun _ _ h => h⟩
theorem RcR.call {H0 base n : Nat} {xs : List Value} {r : Nat} {w W : World} (hb : Below w.heap.size w W) : RcR H0 base n xs r w W := ⟨fun k _ h => hb.block k h, hb.size, fun _ _ h => ownD_keep h hb⟩
def rdec8 (w0 : World) (gT H0 : Nat) (l : List UInt8) (o : Nat) (vv : Value) (ts : List T.Trk) (n : Nat) (i : Nat) (v : Value) (W : World) : Prop := match i with
  | 0 => v = .pointer (some ⟨gT, 2, none⟩)
  | 1 => v = vv
  | 2 => v = .string (str l)
  | 3 => v = .int .i64 o
  | 4 => v = .int .i64 (rdE l o 2)
  | 5 => v = .string (str l)
  | 6 => v = .int .i64 o
  | 7 => v = .int .i64 ((o : Int) + 2)
  | 8 => v = .int .i64 (rdE l (o + 2) 2)
  | 9 => v = .string (str l)
  | 10 => v = .int .i64 o
  | 11 => v = .int .i64 ((o : Int) + 4)
  | 12 => v = .int .i64 (rdE l (o + 4) 4)
  | 13 => v = .string (str l)
  | 14 => v = .int .i64 o
  | 15 => v = .int .i64 ((o : Int) + 8)
  | 16 => v = .int .i64 (rdE l (o + 8) 4)
  | 17 => v = .string (str l)
  | 18 => v = .int .i64 o
  | 19 => v = .int .i64 ((o : Int) + 12)
  | 20 => v = .int .i64 (rdE l (o + 12) 4)
  | 21 => v = .string (str l)
  | 22 => v = .int .i64 o
  | 23 => v = .int .i64 ((o : Int) + 16)
  | 24 => v = .int .i64 (rdE l (o + 16) 2)
  | 25 => v = .string (str l)
  | 26 => v = .int .i64 o
  | 27 => v = .int .i64 ((o : Int) + 18)
  | 28 => v = .int .i64 (rdE l (o + 18) 2)
  | 29 => v = .agg #[.int .i64 (rdE l o 2), .int .i64 (rdE l (o + 2) 2), .int .i64 (rdE l (o + 4) 4), .int .i64 (rdE l (o + 8) 4), .int .i64 (rdE l (o + 12) 4), .int .i64 (rdE l (o + 16) 2), .int .i64 (rdE l (o + 18) 2)]
  | 30 => ∃ g, v = .slice (some ⟨g, 0, none⟩) 1 1 ∧ H0 ≤ g ∧ Bx W g 40 (tcs (trkD l o))
  | 31 => W.ownsRow (gT + 1) 40 7 v (n + 1) (flD tcs (ts ++ [trkD l o]))
  | 32 => v = .pointer (some ⟨gT, 2, none⟩)
  | _ => True
def rdec8E : Nat → Option Nat
  | 31 => some 0
  | 33 => some 1
  | _ => none
theorem rdec8_keep (w0 : World) (gT H0 : Nat) (l : List UInt8) (o : Nat) (vv : Value) (ts : List T.Trk) (n : Nat) (i r : Nat) (v : Value) (W W' : World) (hk : ∀ k, rdec8E i = some k → k < r) (hR : (RcR H0 (gT + 1) (n + 1) (flD tcs (ts ++ [trkD l o]))) r W W') (h : rdec8 w0 gT H0 l o vv ts n i v W) : rdec8 w0 gT H0 l o vv ts n i v W' := by
  by_cases h30 : i = 30
  · subst h30
    obtain ⟨g, h1, h2, h3⟩ := h
    exact ⟨g, h1, h2, (hR.1 g h2 h3.lt).trans h3⟩
  by_cases h31 : i = 31
  · subst h31
    exact hR.2.2 (by have := hk 0 rfl; omega) v h
  unfold rdec8 at h ⊢
  split at h <;> first | exact h | exact absurd rfl h30 | exact absurd rfl h31
theorem rdk_own {W : World} {base i : Nat} {v : Value} {ts : List T.Trk} (h : W.ownsRow base 40 7 v i (flD tcs ts)) (hl : ts.length = i) : RdK W v ts := by
  subst hl
  exact RdD.ofOwn (d := T.z) tcs_length h
theorem fine_tks (l : List UInt8) (n : Nat) (h : n ≤ 1000) : Fine (tksD l n) := by
  by_cases h2 : n ≤ 99
  · exact .inl (few_tks l n h2)
  · exact .inr (by rw [tksD_length]; omega)
def RT (_ : Nat) (_ _ : World) : Prop := True
theorem RT.mk (r : Nat) (w w' : World) : RT r w w' := trivial
def RcF (w0 : World) (gT : Nat) (l : List UInt8) (cl : Int) (fin : Bool) (va : Option Addr) (n vc : Nat) (ts : List T.Trk) (r : Nat) (W : World) : Prop :=
  (r = 0 → RcW w0 gT cl fin (.slice va n vc) W) ∧ W.ownsRow (gT + 1) 40 7 (.slice va n vc) n (flD tcs ts) ∧ (r = 1 → Bx W w0.heap.size 24 [.int .i64 cl, .bool fin, .slice va n vc] ∧ Below w0.heap.size w0 W)
theorem RcF.call {w0 : World} {gT : Nat} {l : List UInt8} {cl : Int} {fin : Bool} {va : Option Addr} {n vc : Nat} {ts : List T.Trk} {r : Nat} {W W' : World} (h : RcF w0 gT l cl fin va n vc ts r W) (hb : Below W.heap.size W W') : RcF w0 gT l cl fin va n vc ts r W' :=
  ⟨fun hr => (h.1 hr).call hb, ownD_keep h.2.1 hb, fun hr => ⟨(h.2.2 hr).1.call hb, (h.2.2 hr).2.trans (hb.mono (h.2.2 hr).2.size)⟩⟩
def rdec9 (cap : Int) (l : List UInt8) (cl : Int) (fin : Bool) (va : Option Addr) (n vc : Nat) (S : List UInt8) (code : Int) (i : Nat) (v : Value) (W : World) : Prop := match i with
  | 0 => v = .int .i64 cap
  | 1 => v = .agg #[.int .i64 cl, .bool fin, .slice va n vc]
  | 2 => v = .string (str l)
  | 3 => v = .int .i64 (rdE l 4 4)
  | 4 => v = .tuple #[.string (str S), .int .i64 code]
  | 5 => v = .tuple #[.string (str S), .int .i64 code]
  | 6 => v = .string (str S)
  | 7 => v = .int .i64 code
  | 8 => v = .string (str S)
  | 9 => v = .int .i64 code
  | _ => True
theorem rdec9_keep (cap : Int) (l : List UInt8) (cl : Int) (fin : Bool) (va : Option Addr) (n vc : Nat) (S : List UInt8) (code : Int) (i : Nat) (v : Value) (W W' : World) (hR : (fun w W => Below w.heap.size w W) W W') (h : rdec9 cap l cl fin va n vc S code i v W) : rdec9 cap l cl fin va n vc S code i v W' := by
  unfold rdec9 at h ⊢
  split at h <;> first | exact h
def rdec12 (l : List UInt8) (cl : Int) (fin : Bool) (va : Option Addr) (n vc : Nat) (i : Nat) (v : Value) (W : World) : Prop := match i with
  | 0 => v = .agg #[.int .i64 cl, .bool fin, .slice va n vc]
  | 1 => v = .string (str l)
  | 2 => v = .int .i64 (rdE l 4 4)
  | 4 => v = .int .i64 (rdE l 4 4)
  | 5 => v = .bool true
  | _ => True
def rdec12E : Nat → Option Nat
  | 3 => some 0
  | _ => none
theorem rdec12_keep (l : List UInt8) (cl : Int) (fin : Bool) (va : Option Addr) (n vc : Nat) (i r : Nat) (v : Value) (W W' : World) (hk : ∀ k, rdec12E i = some k → k < r) (hR : (RT) r W W') (h : rdec12 l cl fin va n vc i v W) : rdec12 l cl fin va n vc i v W' := by
  unfold rdec12 at h ⊢
  split at h <;> first | exact h
theorem okD_magic {cap : Int} {l : List UInt8} (h : okD cap l = true) : l.take 4 = magic := by
  have h1 := (okD_iff.1 h).2.2.2
  rw [← h1]
  rfl
set_option maxRecDepth 100000 in
set_option maxHeartbeats 4000000 in
theorem rdecode_main (cap : Int) (l : List UInt8) (n : Nat) (w : World) (hl : l.length = 16 + 20 * n) (hn : n ≤ 1000) (hc : cntD l = n) (hm : l.take 4 = magic) : Calls Try.prog 80 #[.int .i64 cap, .string (str l)] w (DecP cap l w) := by
  have hsz := str_size l
  rw [hl] at hsz
  obtain ⟨w0, rfl⟩ : ∃ w0 : World, w0 = w := ⟨_, rfl⟩
  have hd0 : 16 ≤ 16 + 20 * (n : Int) := by omega
  have hl1 : l.length ≤ 1000000 := by omega
  have hcut := fun W => run_stoE (P := Try.prog) Try.underlying9 l 4 (by omega) 4 rfl W
  have hse : ((str (l.take 4)).toList == [80, 77, 65, 49]) = true := by rw [hm, str_toList]; rfl
  generalize l.take 4 = M at hcut hse
  have hcn : (rdE l 12 2 : Nat) = n := hc
  clear hm hc
  go_enter Try.func80, Try.ntmps80
  go_wp2_with fail
  refine (number_any l 12 2 2 12 _ rfl rfl (by omega) (by omega) (by omega) hl1).mono ?_
  rintro e w1 ⟨rfl, hb1⟩
  have hz0 := Bx.new w0 24 [.int .i64 0, .bool false, .slice none 0 0]
  have hz1 := hz0.call hb1
  have hle1 := ((Below.refl w0.heap.size w0).alloc (Nat.le_refl _) (.cells #[.int .i64 0, .bool false, .slice none 0 0] 24)).trans (hb1.mono (by simp))
  have hd4 : (16 + 20 * (n : Int) != 16 + 20 * (n : Int)) = false := by rw [bne_eq_false_iff_eq]
  clear hz0 hb1
  go_wp2_with fail
  refine (number_any l 8 2 2 8 _ rfl rfl (by omega) (by omega) (by omega) hl1).mono ?_
  rintro e w2 ⟨rfl, hb2⟩
  have hz2 := hz1.call hb2
  have hle2 := hle1.trans (hb2.mono hle1.size)
  clear hz1 hle1 hb2
  go_wp2_with fail
  refine (number_any l 10 2 2 10 _ rfl rfl (by omega) (by omega) (by omega) hl1).mono ?_
  rintro e w3 ⟨rfl, hb3⟩
  have hz3 := hz2.call hb3
  have hle3 := hle2.trans (hb3.mono hle2.size)
  clear hz2 hle2 hb3
  have hfin : (((rdE l 10 2 : Nat) : Int) == 1) = finD l := by
    unfold finD
    rw [Bool.eq_iff_iff, beq_iff_eq, beq_iff_eq]
    omega
  go_upto_block 5 with (fail)
  have HS : RcW w0 w3.heap.size (clD l) (finD l) (.slice none 0 0) (w3.alloc (.cells #[.int .i64 (rdE l 8 2), .bool (finD l), .slice none 0 0] 24)) :=
    ⟨hz3.alloc _, Bx.new w3 _ [.int .i64 (rdE l 8 2), .bool (finD l), .slice none 0 0], hle3.alloc hle3.size _, hz3.lt⟩
  obtain ⟨gT, hgT⟩ : ∃ gT, gT = w3.heap.size := ⟨_, rfl⟩
  rw [← hgT] at HS
  simp only [← hgT]
  clear hgT hfin hz3 hle3
  generalize w3.alloc (.cells #[.int .i64 (rdE l 8 2), .bool (finD l), .slice none 0 0] 24) = w5 at HS ⊢
  generalize Value.int .i64 (16 + 20 * (n : Int)) = v13
  generalize Value.bool (decide (16 + 20 * (n : Int) < 16)) = v14
  generalize Value.int .i64 (20 * (n : Int)) = v25
  have hO5 : w5.ownsRow (gT + 1) 40 7 (.slice none 0 0) 0 (flD tcs (tksD l 0)) := ⟨rfl, .inl ⟨rfl, rfl⟩⟩
  have HSE := Lib.hid hse
  have HCN := Lib.hid hcn
  clear hse hd4
  go_loopw [8] (fun vi wr => ∃ (i : Nat) (v : Value), i ≤ n ∧ vi = .int .i64 i ∧ RcW w0 gT (clD l) (finD l) v wr ∧ wr.ownsRow (gT + 1) 40 7 v i (flD tcs (tksD l i))) (fun vi _ => n - (intOf vi).toNat)
  case atStart => exact ⟨0, _, by omega, rfl, HS, hO5⟩
  case round =>
    clear HS hO5
    obtain ⟨i, vv, hi, rfl, HS, hO⟩ := hrel
    go_wp2_with fail
    refine (number_any l 12 2 2 12 _ rfl rfl (by omega) (by omega) (by omega) hl1).mono ?_
    rintro e w6 ⟨rfl, hb6⟩
    replace HS := HS.call hb6
    replace hO := ownD_keep hO hb6
    clear hb6
    by_cases hlt : i < n
    · go_upto_region 8 with (fail)
      have HB : Hid (14 + 20 * i ≤ 100000 ∧ l.length ≤ 1000000) := Lib.hid ⟨by omega, hl1⟩
      have HN : Hid (i ≤ 1000) := Lib.hid (by omega)
      have HH : Hid (w0.heap.size < gT ∧ gT + 1 ≤ w6.heap.size) := Lib.hid ⟨HS.g, HS.t.lt⟩
      have HOB : Hid (∀ k, vv.ownBlock = some k → k < w6.heap.size) := Lib.hid (ownD_lt hO)
      have hC0 : RcC w0 gT w6.heap.size l (14 + 20 * i) (clD l) (finD l) vv (tksD l i) i 0 w6.drew := ⟨fun _ => HS.drew, fun _ => hO, fun h => by omega, Nat.le_refl _⟩
      have hoi : (14 + 20 * (i : Int)) = ((14 + 20 * i : Nat) : Int) := by omega
      obtain ⟨o, ho⟩ : ∃ o, o = 14 + 20 * i := ⟨_, rfl⟩
      obtain ⟨H0, hH0⟩ : ∃ H0, H0 = w6.heap.size := ⟨_, rfl⟩
      obtain ⟨ts, hts⟩ : ∃ ts, ts = tksD l i := ⟨_, rfl⟩
      rw [← ho, ← hH0, ← hts] at hC0
      rw [← ho] at HB hoi
      rw [hoi]
      rw [← hH0] at HH HOB
      have HO := Lib.hid ho
      have HTS := Lib.hid hts
      clear ho hH0 hts HS hO hoi
      obtain ⟨cl, hcl⟩ : ∃ cl : Int, cl = clD l := ⟨_, rfl⟩
      rw [← hcl] at hC0
      have HCL := Lib.hid hcl
      clear hcl
      refine wp_region_seq (by kernel_rfl) (RcR H0 (gT + 1) (i + 1) (flD tcs (ts ++ [trkD l o]))) (RcC w0 gT H0 l o cl (finD l) vv ts i) (rdec8 w0 gT H0 l o vv ts i) (fun _ => false) rdec8E 2 (by kernel_rfl) (by kernel_rfl) (.inl (by kernel_rfl)) (rdec8_keep w0 gT H0 l o vv ts i) (hC0) ⟨?_, ?_, ?_, ?_, ?_, ?_, ?_, ?_, ?_, ?_, ?_, ?_, ?_, ?_, ?_, ?_, ?_, ?_, ?_, ?_, ?_, ?_, ?_, ?_, ?_, ?_, ?_, ?_, ?_, ?_, ?_, ?_, ?_, ?_, trivial⟩ ?_
      · intro r a W hc hsz hold hdep hnot hlo hhi hrk
        have o7 : a.tmps.getD 7 undef = .pointer (some ⟨gT, 0, none⟩) := hold 7 (by kernel_rfl)
        clear hsz hold hdep hnot hlo hhi hrk
        refine stepR_do rfl (wanted_none rfl) ?_
        refine stepS_val (v := .pointer (some ⟨gT, 2, none⟩)) (RcR.refl _ _ _ _ _ _) hc rfl fun K hK => ?_
        go_simp
        exact hK
      · intro r a W hc hsz hold hdep hnot hlo hhi hrk
        have d0 : a.tmps.getD 45 undef = .pointer (some ⟨gT, 2, none⟩) := hdep 0 (by kernel_rfl) rfl _ rfl
        have hr8 := hhi 33 1 rfl (by kernel_rfl)
        have hD := (hc.1 hr8).t.cell (i := 2) rfl
        clear hsz hold hdep hnot hlo hhi hrk
        refine stepR_do rfl (wanted_none rfl) ?_
        refine stepS_val (v := vv) (RcR.refl _ _ _ _ _ _) hc rfl fun K hK => ?_
        go_simp
        exact hK
      · intro r a W hc hsz hold hdep hnot hlo hhi hrk
        have o1 : a.tmps.getD 1 undef = .string (str l) := hold 1 (by kernel_rfl)
        clear hsz hold hdep hnot hlo hhi hrk
        refine stepR_do rfl (wanted_none rfl) ?_
        refine stepS_val (v := .string (str l)) (RcR.refl _ _ _ _ _ _) hc rfl fun K hK => ?_
        go_simp
        exact hK
      · intro r a W hc hsz hold hdep hnot hlo hhi hrk
        have o9 : a.tmps.getD 9 undef = .int .i64 o := hold 9 (by kernel_rfl)
        clear hsz hold hdep hnot hlo hhi hrk
        refine stepR_do rfl (wanted_none rfl) ?_
        refine stepS_val (v := .int .i64 o) (RcR.refl _ _ _ _ _ _) hc rfl fun K hK => ?_
        go_simp
        exact hK
      · intro r a W hc hsz hold hdep hnot hlo hhi hrk
        have d2 : a.tmps.getD 47 undef = .string (str l) := hdep 2 (by kernel_rfl) rfl _ rfl
        have e2 : a.tmps[47]?.getD undef = .string (str l) := by rw [← Array.getD_eq_getD_getElem?]; exact d2
        have d3 : a.tmps.getD 48 undef = .int .i64 o := hdep 3 (by kernel_rfl) rfl _ rfl
        have e3 : a.tmps[48]?.getD undef = .int .i64 o := by rw [← Array.getD_eq_getD_getElem?]; exact d3
        clear hsz hold hdep hnot hlo hhi hrk
        refine stepR_do rfl (wanted_none rfl) ?_
        have hcc := number_any l o 2 2 ((o : Int)) W (by omega) rfl (by omega) (by omega) (by have := HB.out.1; omega) HB.out.2
        refine stepS_call2 (v := .int .i64 (rdE l o 2)) fun K hK => ?_
        go_simp
        refine hcc.mono ?_
        rintro e w' ⟨rfl, h1⟩
        exact hK w' (RcR.call h1) (RcC.call hc h1) rfl
      · intro r a W hc hsz hold hdep hnot hlo hhi hrk
        have o1 : a.tmps.getD 1 undef = .string (str l) := hold 1 (by kernel_rfl)
        clear hsz hold hdep hnot hlo hhi hrk
        refine stepR_do rfl (wanted_none rfl) ?_
        refine stepS_val (v := .string (str l)) (RcR.refl _ _ _ _ _ _) hc rfl fun K hK => ?_
        go_simp
        exact hK
      · intro r a W hc hsz hold hdep hnot hlo hhi hrk
        have o9 : a.tmps.getD 9 undef = .int .i64 o := hold 9 (by kernel_rfl)
        clear hsz hold hdep hnot hlo hhi hrk
        refine stepR_do rfl (wanted_none rfl) ?_
        refine stepS_val (v := .int .i64 o) (RcR.refl _ _ _ _ _ _) hc rfl fun K hK => ?_
        go_simp
        exact hK
      · intro r a W hc hsz hold hdep hnot hlo hhi hrk
        have d6 : a.tmps.getD 51 undef = .int .i64 o := hdep 6 (by kernel_rfl) rfl _ rfl
        have hw : IntKind.i64.wrap ((o : Int) + 2) = (o : Int) + 2 := IntWalk.i64_in _ (by have := HB.out.1; omega)
        clear hsz hold hdep hnot hlo hhi hrk
        refine stepR_do rfl (wanted_none rfl) ?_
        refine stepS_val (v := .int .i64 ((o : Int) + 2)) (RcR.refl _ _ _ _ _ _) hc rfl fun K hK => ?_
        go_simp
        exact hK
      · intro r a W hc hsz hold hdep hnot hlo hhi hrk
        have d5 : a.tmps.getD 50 undef = .string (str l) := hdep 5 (by kernel_rfl) rfl _ rfl
        have e5 : a.tmps[50]?.getD undef = .string (str l) := by rw [← Array.getD_eq_getD_getElem?]; exact d5
        have d7 : a.tmps.getD 52 undef = .int .i64 ((o : Int) + 2) := hdep 7 (by kernel_rfl) rfl _ rfl
        have e7 : a.tmps[52]?.getD undef = .int .i64 ((o : Int) + 2) := by rw [← Array.getD_eq_getD_getElem?]; exact d7
        clear hsz hold hdep hnot hlo hhi hrk
        refine stepR_do rfl (wanted_none rfl) ?_
        have hcc := number_any l (o + 2) 2 2 ((o : Int) + 2) W (by omega) rfl (by omega) (by omega) (by have := HB.out.1; omega) HB.out.2
        refine stepS_call2 (v := .int .i64 (rdE l (o + 2) 2)) fun K hK => ?_
        go_simp
        refine hcc.mono ?_
        rintro e w' ⟨rfl, h1⟩
        exact hK w' (RcR.call h1) (RcC.call hc h1) rfl
      · intro r a W hc hsz hold hdep hnot hlo hhi hrk
        have o1 : a.tmps.getD 1 undef = .string (str l) := hold 1 (by kernel_rfl)
        clear hsz hold hdep hnot hlo hhi hrk
        refine stepR_do rfl (wanted_none rfl) ?_
        refine stepS_val (v := .string (str l)) (RcR.refl _ _ _ _ _ _) hc rfl fun K hK => ?_
        go_simp
        exact hK
      · intro r a W hc hsz hold hdep hnot hlo hhi hrk
        have o9 : a.tmps.getD 9 undef = .int .i64 o := hold 9 (by kernel_rfl)
        clear hsz hold hdep hnot hlo hhi hrk
        refine stepR_do rfl (wanted_none rfl) ?_
        refine stepS_val (v := .int .i64 o) (RcR.refl _ _ _ _ _ _) hc rfl fun K hK => ?_
        go_simp
        exact hK
      · intro r a W hc hsz hold hdep hnot hlo hhi hrk
        have d10 : a.tmps.getD 55 undef = .int .i64 o := hdep 10 (by kernel_rfl) rfl _ rfl
        have hw : IntKind.i64.wrap ((o : Int) + 4) = (o : Int) + 4 := IntWalk.i64_in _ (by have := HB.out.1; omega)
        clear hsz hold hdep hnot hlo hhi hrk
        refine stepR_do rfl (wanted_none rfl) ?_
        refine stepS_val (v := .int .i64 ((o : Int) + 4)) (RcR.refl _ _ _ _ _ _) hc rfl fun K hK => ?_
        go_simp
        exact hK
      · intro r a W hc hsz hold hdep hnot hlo hhi hrk
        have d9 : a.tmps.getD 54 undef = .string (str l) := hdep 9 (by kernel_rfl) rfl _ rfl
        have e9 : a.tmps[54]?.getD undef = .string (str l) := by rw [← Array.getD_eq_getD_getElem?]; exact d9
        have d11 : a.tmps.getD 56 undef = .int .i64 ((o : Int) + 4) := hdep 11 (by kernel_rfl) rfl _ rfl
        have e11 : a.tmps[56]?.getD undef = .int .i64 ((o : Int) + 4) := by rw [← Array.getD_eq_getD_getElem?]; exact d11
        clear hsz hold hdep hnot hlo hhi hrk
        refine stepR_do rfl (wanted_none rfl) ?_
        have hcc := number_any l (o + 4) 4 4 ((o : Int) + 4) W (by omega) rfl (by omega) (by omega) (by have := HB.out.1; omega) HB.out.2
        refine stepS_call2 (v := .int .i64 (rdE l (o + 4) 4)) fun K hK => ?_
        go_simp
        refine hcc.mono ?_
        rintro e w' ⟨rfl, h1⟩
        exact hK w' (RcR.call h1) (RcC.call hc h1) rfl
      · intro r a W hc hsz hold hdep hnot hlo hhi hrk
        have o1 : a.tmps.getD 1 undef = .string (str l) := hold 1 (by kernel_rfl)
        clear hsz hold hdep hnot hlo hhi hrk
        refine stepR_do rfl (wanted_none rfl) ?_
        refine stepS_val (v := .string (str l)) (RcR.refl _ _ _ _ _ _) hc rfl fun K hK => ?_
        go_simp
        exact hK
      · intro r a W hc hsz hold hdep hnot hlo hhi hrk
        have o9 : a.tmps.getD 9 undef = .int .i64 o := hold 9 (by kernel_rfl)
        clear hsz hold hdep hnot hlo hhi hrk
        refine stepR_do rfl (wanted_none rfl) ?_
        refine stepS_val (v := .int .i64 o) (RcR.refl _ _ _ _ _ _) hc rfl fun K hK => ?_
        go_simp
        exact hK
      · intro r a W hc hsz hold hdep hnot hlo hhi hrk
        have d14 : a.tmps.getD 59 undef = .int .i64 o := hdep 14 (by kernel_rfl) rfl _ rfl
        have hw : IntKind.i64.wrap ((o : Int) + 8) = (o : Int) + 8 := IntWalk.i64_in _ (by have := HB.out.1; omega)
        clear hsz hold hdep hnot hlo hhi hrk
        refine stepR_do rfl (wanted_none rfl) ?_
        refine stepS_val (v := .int .i64 ((o : Int) + 8)) (RcR.refl _ _ _ _ _ _) hc rfl fun K hK => ?_
        go_simp
        exact hK
      · intro r a W hc hsz hold hdep hnot hlo hhi hrk
        have d13 : a.tmps.getD 58 undef = .string (str l) := hdep 13 (by kernel_rfl) rfl _ rfl
        have e13 : a.tmps[58]?.getD undef = .string (str l) := by rw [← Array.getD_eq_getD_getElem?]; exact d13
        have d15 : a.tmps.getD 60 undef = .int .i64 ((o : Int) + 8) := hdep 15 (by kernel_rfl) rfl _ rfl
        have e15 : a.tmps[60]?.getD undef = .int .i64 ((o : Int) + 8) := by rw [← Array.getD_eq_getD_getElem?]; exact d15
        clear hsz hold hdep hnot hlo hhi hrk
        refine stepR_do rfl (wanted_none rfl) ?_
        have hcc := number_any l (o + 8) 4 4 ((o : Int) + 8) W (by omega) rfl (by omega) (by omega) (by have := HB.out.1; omega) HB.out.2
        refine stepS_call2 (v := .int .i64 (rdE l (o + 8) 4)) fun K hK => ?_
        go_simp
        refine hcc.mono ?_
        rintro e w' ⟨rfl, h1⟩
        exact hK w' (RcR.call h1) (RcC.call hc h1) rfl
      · intro r a W hc hsz hold hdep hnot hlo hhi hrk
        have o1 : a.tmps.getD 1 undef = .string (str l) := hold 1 (by kernel_rfl)
        clear hsz hold hdep hnot hlo hhi hrk
        refine stepR_do rfl (wanted_none rfl) ?_
        refine stepS_val (v := .string (str l)) (RcR.refl _ _ _ _ _ _) hc rfl fun K hK => ?_
        go_simp
        exact hK
      · intro r a W hc hsz hold hdep hnot hlo hhi hrk
        have o9 : a.tmps.getD 9 undef = .int .i64 o := hold 9 (by kernel_rfl)
        clear hsz hold hdep hnot hlo hhi hrk
        refine stepR_do rfl (wanted_none rfl) ?_
        refine stepS_val (v := .int .i64 o) (RcR.refl _ _ _ _ _ _) hc rfl fun K hK => ?_
        go_simp
        exact hK
      · intro r a W hc hsz hold hdep hnot hlo hhi hrk
        have d18 : a.tmps.getD 63 undef = .int .i64 o := hdep 18 (by kernel_rfl) rfl _ rfl
        have hw : IntKind.i64.wrap ((o : Int) + 12) = (o : Int) + 12 := IntWalk.i64_in _ (by have := HB.out.1; omega)
        clear hsz hold hdep hnot hlo hhi hrk
        refine stepR_do rfl (wanted_none rfl) ?_
        refine stepS_val (v := .int .i64 ((o : Int) + 12)) (RcR.refl _ _ _ _ _ _) hc rfl fun K hK => ?_
        go_simp
        exact hK
      · intro r a W hc hsz hold hdep hnot hlo hhi hrk
        have d17 : a.tmps.getD 62 undef = .string (str l) := hdep 17 (by kernel_rfl) rfl _ rfl
        have e17 : a.tmps[62]?.getD undef = .string (str l) := by rw [← Array.getD_eq_getD_getElem?]; exact d17
        have d19 : a.tmps.getD 64 undef = .int .i64 ((o : Int) + 12) := hdep 19 (by kernel_rfl) rfl _ rfl
        have e19 : a.tmps[64]?.getD undef = .int .i64 ((o : Int) + 12) := by rw [← Array.getD_eq_getD_getElem?]; exact d19
        clear hsz hold hdep hnot hlo hhi hrk
        refine stepR_do rfl (wanted_none rfl) ?_
        have hcc := number_any l (o + 12) 4 4 ((o : Int) + 12) W (by omega) rfl (by omega) (by omega) (by have := HB.out.1; omega) HB.out.2
        refine stepS_call2 (v := .int .i64 (rdE l (o + 12) 4)) fun K hK => ?_
        go_simp
        refine hcc.mono ?_
        rintro e w' ⟨rfl, h1⟩
        exact hK w' (RcR.call h1) (RcC.call hc h1) rfl
      · intro r a W hc hsz hold hdep hnot hlo hhi hrk
        have o1 : a.tmps.getD 1 undef = .string (str l) := hold 1 (by kernel_rfl)
        clear hsz hold hdep hnot hlo hhi hrk
        refine stepR_do rfl (wanted_none rfl) ?_
        refine stepS_val (v := .string (str l)) (RcR.refl _ _ _ _ _ _) hc rfl fun K hK => ?_
        go_simp
        exact hK
      · intro r a W hc hsz hold hdep hnot hlo hhi hrk
        have o9 : a.tmps.getD 9 undef = .int .i64 o := hold 9 (by kernel_rfl)
        clear hsz hold hdep hnot hlo hhi hrk
        refine stepR_do rfl (wanted_none rfl) ?_
        refine stepS_val (v := .int .i64 o) (RcR.refl _ _ _ _ _ _) hc rfl fun K hK => ?_
        go_simp
        exact hK
      · intro r a W hc hsz hold hdep hnot hlo hhi hrk
        have d22 : a.tmps.getD 67 undef = .int .i64 o := hdep 22 (by kernel_rfl) rfl _ rfl
        have hw : IntKind.i64.wrap ((o : Int) + 16) = (o : Int) + 16 := IntWalk.i64_in _ (by have := HB.out.1; omega)
        clear hsz hold hdep hnot hlo hhi hrk
        refine stepR_do rfl (wanted_none rfl) ?_
        refine stepS_val (v := .int .i64 ((o : Int) + 16)) (RcR.refl _ _ _ _ _ _) hc rfl fun K hK => ?_
        go_simp
        exact hK
      · intro r a W hc hsz hold hdep hnot hlo hhi hrk
        have d21 : a.tmps.getD 66 undef = .string (str l) := hdep 21 (by kernel_rfl) rfl _ rfl
        have e21 : a.tmps[66]?.getD undef = .string (str l) := by rw [← Array.getD_eq_getD_getElem?]; exact d21
        have d23 : a.tmps.getD 68 undef = .int .i64 ((o : Int) + 16) := hdep 23 (by kernel_rfl) rfl _ rfl
        have e23 : a.tmps[68]?.getD undef = .int .i64 ((o : Int) + 16) := by rw [← Array.getD_eq_getD_getElem?]; exact d23
        clear hsz hold hdep hnot hlo hhi hrk
        refine stepR_do rfl (wanted_none rfl) ?_
        have hcc := number_any l (o + 16) 2 2 ((o : Int) + 16) W (by omega) rfl (by omega) (by omega) (by have := HB.out.1; omega) HB.out.2
        refine stepS_call2 (v := .int .i64 (rdE l (o + 16) 2)) fun K hK => ?_
        go_simp
        refine hcc.mono ?_
        rintro e w' ⟨rfl, h1⟩
        exact hK w' (RcR.call h1) (RcC.call hc h1) rfl
      · intro r a W hc hsz hold hdep hnot hlo hhi hrk
        have o1 : a.tmps.getD 1 undef = .string (str l) := hold 1 (by kernel_rfl)
        clear hsz hold hdep hnot hlo hhi hrk
        refine stepR_do rfl (wanted_none rfl) ?_
        refine stepS_val (v := .string (str l)) (RcR.refl _ _ _ _ _ _) hc rfl fun K hK => ?_
        go_simp
        exact hK
      · intro r a W hc hsz hold hdep hnot hlo hhi hrk
        have o9 : a.tmps.getD 9 undef = .int .i64 o := hold 9 (by kernel_rfl)
        clear hsz hold hdep hnot hlo hhi hrk
        refine stepR_do rfl (wanted_none rfl) ?_
        refine stepS_val (v := .int .i64 o) (RcR.refl _ _ _ _ _ _) hc rfl fun K hK => ?_
        go_simp
        exact hK
      · intro r a W hc hsz hold hdep hnot hlo hhi hrk
        have d26 : a.tmps.getD 71 undef = .int .i64 o := hdep 26 (by kernel_rfl) rfl _ rfl
        have hw : IntKind.i64.wrap ((o : Int) + 18) = (o : Int) + 18 := IntWalk.i64_in _ (by have := HB.out.1; omega)
        clear hsz hold hdep hnot hlo hhi hrk
        refine stepR_do rfl (wanted_none rfl) ?_
        refine stepS_val (v := .int .i64 ((o : Int) + 18)) (RcR.refl _ _ _ _ _ _) hc rfl fun K hK => ?_
        go_simp
        exact hK
      · intro r a W hc hsz hold hdep hnot hlo hhi hrk
        have d25 : a.tmps.getD 70 undef = .string (str l) := hdep 25 (by kernel_rfl) rfl _ rfl
        have e25 : a.tmps[70]?.getD undef = .string (str l) := by rw [← Array.getD_eq_getD_getElem?]; exact d25
        have d27 : a.tmps.getD 72 undef = .int .i64 ((o : Int) + 18) := hdep 27 (by kernel_rfl) rfl _ rfl
        have e27 : a.tmps[72]?.getD undef = .int .i64 ((o : Int) + 18) := by rw [← Array.getD_eq_getD_getElem?]; exact d27
        clear hsz hold hdep hnot hlo hhi hrk
        refine stepR_do rfl (wanted_none rfl) ?_
        have hcc := number_any l (o + 18) 2 2 ((o : Int) + 18) W (by omega) rfl (by omega) (by omega) (by have := HB.out.1; omega) HB.out.2
        refine stepS_call2 (v := .int .i64 (rdE l (o + 18) 2)) fun K hK => ?_
        go_simp
        refine hcc.mono ?_
        rintro e w' ⟨rfl, h1⟩
        exact hK w' (RcR.call h1) (RcC.call hc h1) rfl
      · intro r a W hc hsz hold hdep hnot hlo hhi hrk
        have d4 : a.tmps.getD 49 undef = .int .i64 (rdE l o 2) := hdep 4 (by kernel_rfl) rfl _ rfl
        have e4 : a.tmps[49]?.getD undef = .int .i64 (rdE l o 2) := by rw [← Array.getD_eq_getD_getElem?]; exact d4
        have d8 : a.tmps.getD 53 undef = .int .i64 (rdE l (o + 2) 2) := hdep 8 (by kernel_rfl) rfl _ rfl
        have e8 : a.tmps[53]?.getD undef = .int .i64 (rdE l (o + 2) 2) := by rw [← Array.getD_eq_getD_getElem?]; exact d8
        have d12 : a.tmps.getD 57 undef = .int .i64 (rdE l (o + 4) 4) := hdep 12 (by kernel_rfl) rfl _ rfl
        have e12 : a.tmps[57]?.getD undef = .int .i64 (rdE l (o + 4) 4) := by rw [← Array.getD_eq_getD_getElem?]; exact d12
        have d16 : a.tmps.getD 61 undef = .int .i64 (rdE l (o + 8) 4) := hdep 16 (by kernel_rfl) rfl _ rfl
        have e16 : a.tmps[61]?.getD undef = .int .i64 (rdE l (o + 8) 4) := by rw [← Array.getD_eq_getD_getElem?]; exact d16
        have d20 : a.tmps.getD 65 undef = .int .i64 (rdE l (o + 12) 4) := hdep 20 (by kernel_rfl) rfl _ rfl
        have e20 : a.tmps[65]?.getD undef = .int .i64 (rdE l (o + 12) 4) := by rw [← Array.getD_eq_getD_getElem?]; exact d20
        have d24 : a.tmps.getD 69 undef = .int .i64 (rdE l (o + 16) 2) := hdep 24 (by kernel_rfl) rfl _ rfl
        have e24 : a.tmps[69]?.getD undef = .int .i64 (rdE l (o + 16) 2) := by rw [← Array.getD_eq_getD_getElem?]; exact d24
        have d28 : a.tmps.getD 73 undef = .int .i64 (rdE l (o + 18) 2) := hdep 28 (by kernel_rfl) rfl _ rfl
        have e28 : a.tmps[73]?.getD undef = .int .i64 (rdE l (o + 18) 2) := by rw [← Array.getD_eq_getD_getElem?]; exact d28
        clear hsz hold hdep hnot hlo hhi hrk
        refine stepR_do rfl (wanted_none rfl) ?_
        refine stepS_val (v := .agg #[.int .i64 (rdE l o 2), .int .i64 (rdE l (o + 2) 2), .int .i64 (rdE l (o + 4) 4), .int .i64 (rdE l (o + 8) 4), .int .i64 (rdE l (o + 12) 4), .int .i64 (rdE l (o + 16) 2), .int .i64 (rdE l (o + 18) 2)]) (RcR.refl _ _ _ _ _ _) hc rfl fun K hK => ?_
        go_simp
        exact hK
      · intro r a W hc hsz hold hdep hnot hlo hhi hrk
        have d29 : a.tmps.getD 74 undef = .agg #[.int .i64 (rdE l o 2), .int .i64 (rdE l (o + 2) 2), .int .i64 (rdE l (o + 4) 4), .int .i64 (rdE l (o + 8) 4), .int .i64 (rdE l (o + 12) 4), .int .i64 (rdE l (o + 16) 2), .int .i64 (rdE l (o + 18) 2)] := hdep 29 (by kernel_rfl) rfl _ rfl
        have e29 : a.tmps[74]?.getD undef = .agg #[.int .i64 (rdE l o 2), .int .i64 (rdE l (o + 2) 2), .int .i64 (rdE l (o + 4) 4), .int .i64 (rdE l (o + 8) 4), .int .i64 (rdE l (o + 12) 4), .int .i64 (rdE l (o + 16) 2), .int .i64 (rdE l (o + 18) 2)] := by rw [← Array.getD_eq_getD_getElem?]; exact d29
        clear hsz hold hdep hnot hlo hhi hrk
        refine stepR_do rfl (wanted_none rfl) ?_
        have hN := Bx.new W 40 (tcs (trkD l o))
        have hbN := (Below.refl W.heap.size W).alloc (Nat.le_refl _) (.cells (tcs (trkD l o)).toArray 40)
        refine stepS_new (v := .slice (some ⟨W.heap.size, 0, none⟩) 1 1) (RcR.call hbN) (hc.call hbN) ⟨W.heap.size, rfl, hc.2.2.2, hN⟩ fun K hK => ?_
        have e : (tcs (trkD l o)).toArray = #[.int .i64 (rdE l o 2), .int .i64 (rdE l (o + 2) 2), .int .i64 (rdE l (o + 4) 4), .int .i64 (rdE l (o + 8) 4), .int .i64 (rdE l (o + 12) 4), .int .i64 (rdE l (o + 16) 2), .int .i64 (rdE l (o + 18) 2)] := rfl
        rw [e] at hK
        clear e hN hbN hc
        go_simp
        exact hK
      · intro r a W hc hsz hold hdep hnot hlo hhi hrk
        have hr := hrk 0 rfl
        subst hr
        have d1 : a.tmps.getD 46 undef = vv := hdep 1 (by kernel_rfl) rfl _ rfl
        have e1 : a.tmps[46]?.getD undef = vv := by rw [← Array.getD_eq_getD_getElem?]; exact d1
        have x30 := hdep 30 (by kernel_rfl) rfl _ rfl
        clear hsz hold hdep hnot hlo hhi hrk
        refine stepR_do rfl (wanted_none rfl) ?_
        obtain ⟨g, d17, hg0, hgx⟩ : ∃ g, a.tmps.getD 75 undef = .slice (some ⟨g, 0, none⟩) 1 1 ∧ H0 ≤ g ∧ Bx W g 40 (tcs (trkD l o)) := x30
        have hrd : RdD T.z tcs 7 W (.slice (some ⟨g, 0, none⟩) 1 1) [trkD l o] := ⟨_, _, g, 0, rfl, Nat.le_refl _, fun i hi => ⟨rfl, fun j u hu => by
          obtain rfl : i = 0 := by simp at hi; omega
          simp only [Nat.zero_mul, Nat.zero_add]
          exact hgx.cell hu⟩⟩
        have hown := hc.2.1 rfl
        have hD : RcW w0 gT cl (finD l) vv W := hc.1 (by omega)
        have hsz := hc.2.2.2
        obtain ⟨i0, hi, hz0, hz1, hz2⟩ := info_parts Try.infoTrk
        refine op_app (.tmp 46) (.tmp 75) rfl Try.underlying22 hi hz0 hz1 hz2 rfl (by omega) hown d1 (hrd.reads tcs_length) d17 (flD_one tcs_one _) (by unfold maxLen; simp only [List.length_singleton]; have := HN.out; omega) (by simp only [List.length_singleton]; have := HN.out; omega) (by have := HH.out; omega) fun v' w' h1 h2 => ?_
        rw [← flD_append] at h1
        have hb4 := (Below.refl (gT + 1) W).grown h2 (by have := HH.out; omega) (ownD_block hown)
        have hC8 : RcC w0 gT H0 l o cl (finD l) vv ts i 1 w' := ⟨fun _ => hD.own hb4, fun h => by omega, fun h => by omega, Nat.le_trans hsz h2.size⟩
        exact ⟨v', rfl, ⟨fun k hk hl => h2.block k hl (fun e => by have := HOB.out k e.symm; omega), h2.size, fun h => by omega⟩, hC8, h1⟩
      · intro r a W hc hsz hold hdep hnot hlo hhi hrk
        have o7 : a.tmps.getD 7 undef = .pointer (some ⟨gT, 0, none⟩) := hold 7 (by kernel_rfl)
        clear hsz hold hdep hnot hlo hhi hrk
        refine stepR_do rfl (wanted_none rfl) ?_
        refine stepS_val (v := .pointer (some ⟨gT, 2, none⟩)) (RcR.refl _ _ _ _ _ _) hc rfl fun K hK => ?_
        go_simp
        exact hK
      · intro r a W hc hsz hold hdep hnot hlo hhi hrk
        have hr := hrk 1 rfl
        subst hr
        have d32 : a.tmps.getD 77 undef = .pointer (some ⟨gT, 2, none⟩) := hdep 32 (by kernel_rfl) rfl _ rfl
        have x31 := hdep 31 (by kernel_rfl) rfl _ rfl
        clear hsz hold hdep hnot hlo hhi hrk
        refine stepR_do rfl (wanted_none rfl) ?_
        have hD : RcW w0 gT cl (finD l) vv W := hc.1 (by omega)
        have ho : W.ownsRow (gT + 1) 40 7 (a.tmps.getD 76 undef) (i + 1) (flD tcs (ts ++ [trkD l o])) := x31
        obtain ⟨a9, c9, d18⟩ := ownD_form ho
        rw [d18] at ho
        have hsz := hc.2.2.2
        have hf := hD.t.free
        have c0 := hD.t.cell (i := 2) rfl
        have ho2 := ownD_far ho (p := ⟨gT, 2, none⟩) (by simp only; omega) (.slice a9 (i + 1) c9)
        have hC9 : RcC w0 gT H0 l o cl (finD l) vv ts i 2 (W.setCell ⟨gT, 2, none⟩ (.slice a9 (i + 1) c9)) := ⟨fun h => by omega, fun h => by omega, fun _ => ⟨_, hD.put (.slice a9 (i + 1) c9), ho2⟩, by simp [World.setCell]; exact hsz⟩
        refine stepS_new (v := undef) ⟨fun k hk hl => Below.heap_setCell _ _ _ _ (by have := HH.out; simp only; omega), by simp [World.setCell], fun _ v' h => ownD_far h (p := ⟨gT, 2, none⟩) (by simp only; omega) _⟩ hC9 trivial fun K hK => ?_
        clear hD ho ho2 hc hC9
        go_simp
        exact hK
      · intro a W hC hd hsz hold hval
        have d0 : a.tmps.getD 0 undef = .int .i64 cap := hold 0 (by kernel_rfl)
        have d1 : a.tmps.getD 1 undef = .string (str l) := hold 1 (by kernel_rfl)
        have d2 : a.tmps.getD 2 undef = undef := hold 2 (by kernel_rfl)
        have d3 : a.tmps.getD 3 undef = undef := hold 3 (by kernel_rfl)
        have d4 : a.tmps.getD 4 undef = .pointer (some ⟨w0.heap.size, 0, none⟩) := hold 4 (by kernel_rfl)
        have d5 : a.tmps.getD 5 undef = .int .i64 0 := hold 5 (by kernel_rfl)
        have d6 : a.tmps.getD 6 undef = .bool false := hold 6 (by kernel_rfl)
        have d7 : a.tmps.getD 7 undef = .pointer (some ⟨gT, 0, none⟩) := hold 7 (by kernel_rfl)
        have d8 : a.tmps.getD 8 undef = .int .i64 i := hold 8 (by kernel_rfl)
        have d9 : a.tmps.getD 9 undef = .int .i64 o := hold 9 (by kernel_rfl)
        have d10 : a.tmps.getD 10 undef = undef := hold 10 (by kernel_rfl)
        have d11 : a.tmps.getD 11 undef = undef := hold 11 (by kernel_rfl)
        have d12 : a.tmps.getD 12 undef = .string (str l) := hold 12 (by kernel_rfl)
        have d13 : a.tmps.getD 13 undef = v13 := hold 13 (by kernel_rfl)
        have d14 : a.tmps.getD 14 undef = v14 := hold 14 (by kernel_rfl)
        have d15 : a.tmps.getD 15 undef = v14 := hold 15 (by kernel_rfl)
        have d16 : a.tmps.getD 16 undef = .string (str l) := hold 16 (by kernel_rfl)
        have d17 : a.tmps.getD 17 undef = .string (str M) := hold 17 (by kernel_rfl)
        have d18 : a.tmps.getD 18 undef = .bool false := hold 18 (by kernel_rfl)
        have d19 : a.tmps.getD 19 undef = v14 := hold 19 (by kernel_rfl)
        have d20 : a.tmps.getD 20 undef = v14 := hold 20 (by kernel_rfl)
        have d21 : a.tmps.getD 21 undef = .string (str l) := hold 21 (by kernel_rfl)
        have d22 : a.tmps.getD 22 undef = v13 := hold 22 (by kernel_rfl)
        have d23 : a.tmps.getD 23 undef = .string (str l) := hold 23 (by kernel_rfl)
        have d24 : a.tmps.getD 24 undef = .int .i64 n := hold 24 (by kernel_rfl)
        have d25 : a.tmps.getD 25 undef = v25 := hold 25 (by kernel_rfl)
        have d26 : a.tmps.getD 26 undef = v13 := hold 26 (by kernel_rfl)
        have d27 : a.tmps.getD 27 undef = .bool false := hold 27 (by kernel_rfl)
        have d28 : a.tmps.getD 28 undef = v14 := hold 28 (by kernel_rfl)
        have d29 : a.tmps.getD 29 undef = undef := hold 29 (by kernel_rfl)
        have d30 : a.tmps.getD 30 undef = .string (str l) := hold 30 (by kernel_rfl)
        have d31 : a.tmps.getD 31 undef = .int .i64 (rdE l 8 2) := hold 31 (by kernel_rfl)
        have d32 : a.tmps.getD 32 undef = .string (str l) := hold 32 (by kernel_rfl)
        have d33 : a.tmps.getD 33 undef = .int .i64 (rdE l 10 2) := hold 33 (by kernel_rfl)
        have d34 : a.tmps.getD 34 undef = .bool (finD l) := hold 34 (by kernel_rfl)
        have d35 : a.tmps.getD 35 undef = .agg #[.int .i64 (rdE l 8 2), .bool (finD l), .slice none 0 0] := hold 35 (by kernel_rfl)
        have d78 : a.tmps.getD 78 undef = undef := hold 78 (by kernel_rfl)
        have d79 : a.tmps.getD 79 undef = undef := hold 79 (by kernel_rfl)
        have d80 : a.tmps.getD 80 undef = undef := hold 80 (by kernel_rfl)
        have d81 : a.tmps.getD 81 undef = undef := hold 81 (by kernel_rfl)
        have d82 : a.tmps.getD 82 undef = undef := hold 82 (by kernel_rfl)
        have d83 : a.tmps.getD 83 undef = undef := hold 83 (by kernel_rfl)
        have d84 : a.tmps.getD 84 undef = undef := hold 84 (by kernel_rfl)
        have d85 : a.tmps.getD 85 undef = undef := hold 85 (by kernel_rfl)
        have d86 : a.tmps.getD 86 undef = undef := hold 86 (by kernel_rfl)
        have d87 : a.tmps.getD 87 undef = undef := hold 87 (by kernel_rfl)
        have d88 : a.tmps.getD 88 undef = undef := hold 88 (by kernel_rfl)
        have d89 : a.tmps.getD 89 undef = undef := hold 89 (by kernel_rfl)
        have d90 : a.tmps.getD 90 undef = undef := hold 90 (by kernel_rfl)
        have d91 : a.tmps.getD 91 undef = undef := hold 91 (by kernel_rfl)
        have d92 : a.tmps.getD 92 undef = undef := hold 92 (by kernel_rfl)
        have d93 : a.tmps.getD 93 undef = undef := hold 93 (by kernel_rfl)
        have d94 : a.tmps.getD 94 undef = undef := hold 94 (by kernel_rfl)
        have d95 : a.tmps.getD 95 undef = undef := hold 95 (by kernel_rfl)
        have d96 : a.tmps.getD 96 undef = undef := hold 96 (by kernel_rfl)
        clear hold
        obtain ⟨tm, df⟩ := a
        replace hd : df = [] := hd
        replace hsz : tm.size = 97 := hsz
        replace d0 : tm.getD 0 undef = .int .i64 cap := d0
        replace d1 : tm.getD 1 undef = .string (str l) := d1
        replace d2 : tm.getD 2 undef = undef := d2
        replace d3 : tm.getD 3 undef = undef := d3
        replace d4 : tm.getD 4 undef = .pointer (some ⟨w0.heap.size, 0, none⟩) := d4
        replace d5 : tm.getD 5 undef = .int .i64 0 := d5
        replace d6 : tm.getD 6 undef = .bool false := d6
        replace d7 : tm.getD 7 undef = .pointer (some ⟨gT, 0, none⟩) := d7
        replace d8 : tm.getD 8 undef = .int .i64 i := d8
        replace d9 : tm.getD 9 undef = .int .i64 o := d9
        replace d10 : tm.getD 10 undef = undef := d10
        replace d11 : tm.getD 11 undef = undef := d11
        replace d12 : tm.getD 12 undef = .string (str l) := d12
        replace d13 : tm.getD 13 undef = v13 := d13
        replace d14 : tm.getD 14 undef = v14 := d14
        replace d15 : tm.getD 15 undef = v14 := d15
        replace d16 : tm.getD 16 undef = .string (str l) := d16
        replace d17 : tm.getD 17 undef = .string (str M) := d17
        replace d18 : tm.getD 18 undef = .bool false := d18
        replace d19 : tm.getD 19 undef = v14 := d19
        replace d20 : tm.getD 20 undef = v14 := d20
        replace d21 : tm.getD 21 undef = .string (str l) := d21
        replace d22 : tm.getD 22 undef = v13 := d22
        replace d23 : tm.getD 23 undef = .string (str l) := d23
        replace d24 : tm.getD 24 undef = .int .i64 n := d24
        replace d25 : tm.getD 25 undef = v25 := d25
        replace d26 : tm.getD 26 undef = v13 := d26
        replace d27 : tm.getD 27 undef = .bool false := d27
        replace d28 : tm.getD 28 undef = v14 := d28
        replace d29 : tm.getD 29 undef = undef := d29
        replace d30 : tm.getD 30 undef = .string (str l) := d30
        replace d31 : tm.getD 31 undef = .int .i64 (rdE l 8 2) := d31
        replace d32 : tm.getD 32 undef = .string (str l) := d32
        replace d33 : tm.getD 33 undef = .int .i64 (rdE l 10 2) := d33
        replace d34 : tm.getD 34 undef = .bool (finD l) := d34
        replace d35 : tm.getD 35 undef = .agg #[.int .i64 (rdE l 8 2), .bool (finD l), .slice none 0 0] := d35
        replace d78 : tm.getD 78 undef = undef := d78
        replace d79 : tm.getD 79 undef = undef := d79
        replace d80 : tm.getD 80 undef = undef := d80
        replace d81 : tm.getD 81 undef = undef := d81
        replace d82 : tm.getD 82 undef = undef := d82
        replace d83 : tm.getD 83 undef = undef := d83
        replace d84 : tm.getD 84 undef = undef := d84
        replace d85 : tm.getD 85 undef = undef := d85
        replace d86 : tm.getD 86 undef = undef := d86
        replace d87 : tm.getD 87 undef = undef := d87
        replace d88 : tm.getD 88 undef = undef := d88
        replace d89 : tm.getD 89 undef = undef := d89
        replace d90 : tm.getD 90 undef = undef := d90
        replace d91 : tm.getD 91 undef = undef := d91
        replace d92 : tm.getD 92 undef = undef := d92
        replace d93 : tm.getD 93 undef = undef := d93
        replace d94 : tm.getD 94 undef = undef := d94
        replace d95 : tm.getD 95 undef = undef := d95
        replace d96 : tm.getD 96 undef = undef := d96
        subst hd
        have e : tm = List.toArray (tm.getD 0 undef :: tm.getD 1 undef :: tm.getD 2 undef :: tm.getD 3 undef :: tm.getD 4 undef :: tm.getD 5 undef :: tm.getD 6 undef :: tm.getD 7 undef :: tm.getD 8 undef :: tm.getD 9 undef :: tm.getD 10 undef :: tm.getD 11 undef :: tm.getD 12 undef :: tm.getD 13 undef :: tm.getD 14 undef :: tm.getD 15 undef :: tm.getD 16 undef :: tm.getD 17 undef :: tm.getD 18 undef :: tm.getD 19 undef :: tm.getD 20 undef :: tm.getD 21 undef :: tm.getD 22 undef :: tm.getD 23 undef :: tm.getD 24 undef :: tm.getD 25 undef :: tm.getD 26 undef :: tm.getD 27 undef :: tm.getD 28 undef :: tm.getD 29 undef :: tm.getD 30 undef :: tm.getD 31 undef :: tm.getD 32 undef :: tm.getD 33 undef :: tm.getD 34 undef :: tm.getD 35 undef :: tm.getD 36 undef :: tm.getD 37 undef :: tm.getD 38 undef :: tm.getD 39 undef :: tm.getD 40 undef :: tm.getD 41 undef :: tm.getD 42 undef :: tm.getD 43 undef :: tm.getD 44 undef :: tm.getD 45 undef :: tm.getD 46 undef :: tm.getD 47 undef :: tm.getD 48 undef :: tm.getD 49 undef :: tm.getD 50 undef :: tm.getD 51 undef :: tm.getD 52 undef :: tm.getD 53 undef :: tm.getD 54 undef :: tm.getD 55 undef :: tm.getD 56 undef :: tm.getD 57 undef :: tm.getD 58 undef :: tm.getD 59 undef :: tm.getD 60 undef :: tm.getD 61 undef :: tm.getD 62 undef :: tm.getD 63 undef :: tm.getD 64 undef :: tm.getD 65 undef :: tm.getD 66 undef :: tm.getD 67 undef :: tm.getD 68 undef :: tm.getD 69 undef :: tm.getD 70 undef :: tm.getD 71 undef :: tm.getD 72 undef :: tm.getD 73 undef :: tm.getD 74 undef :: tm.getD 75 undef :: tm.getD 76 undef :: tm.getD 77 undef :: tm.getD 78 undef :: tm.getD 79 undef :: tm.getD 80 undef :: tm.getD 81 undef :: tm.getD 82 undef :: tm.getD 83 undef :: tm.getD 84 undef :: tm.getD 85 undef :: tm.getD 86 undef :: tm.getD 87 undef :: tm.getD 88 undef :: tm.getD 89 undef :: tm.getD 90 undef :: tm.getD 91 undef :: tm.getD 92 undef :: tm.getD 93 undef :: tm.getD 94 undef :: tm.getD 95 undef :: tm.getD 96 undef :: []) := arr_eq tm 97 hsz
        rw [d0, d1, d2, d3, d4, d5, d6, d7, d8, d9, d10, d11, d12, d13, d14, d15, d16, d17, d18, d19, d20, d21, d22, d23, d24, d25, d26, d27, d28, d29, d30, d31, d32, d33, d34, d35, d78, d79, d80, d81, d82, d83, d84, d85, d86, d87, d88, d89, d90, d91, d92, d93, d94, d95, d96] at e
        clear d0 d1 d2 d3 d4 d5 d6 d7 d8 d9 d10 d11 d12 d13 d14 d15 d16 d17 d18 d19 d20 d21 d22 d23 d24 d25 d26 d27 d28 d29 d30 d31 d32 d33 d34 d35 d78 d79 d80 d81 d82 d83 d84 d85 d86 d87 d88 d89 d90 d91 d92 d93 d94 d95 d96 hsz
        generalize tm.getD 36 undef = v36 at e
        generalize tm.getD 37 undef = v37 at e
        generalize tm.getD 38 undef = v38 at e
        generalize tm.getD 39 undef = v39 at e
        generalize tm.getD 40 undef = v40 at e
        generalize tm.getD 41 undef = v41 at e
        generalize tm.getD 42 undef = v42 at e
        generalize tm.getD 43 undef = v43 at e
        generalize tm.getD 44 undef = v44 at e
        generalize tm.getD 45 undef = v45 at e
        generalize tm.getD 46 undef = v46 at e
        generalize tm.getD 47 undef = v47 at e
        generalize tm.getD 48 undef = v48 at e
        generalize tm.getD 49 undef = v49 at e
        generalize tm.getD 50 undef = v50 at e
        generalize tm.getD 51 undef = v51 at e
        generalize tm.getD 52 undef = v52 at e
        generalize tm.getD 53 undef = v53 at e
        generalize tm.getD 54 undef = v54 at e
        generalize tm.getD 55 undef = v55 at e
        generalize tm.getD 56 undef = v56 at e
        generalize tm.getD 57 undef = v57 at e
        generalize tm.getD 58 undef = v58 at e
        generalize tm.getD 59 undef = v59 at e
        generalize tm.getD 60 undef = v60 at e
        generalize tm.getD 61 undef = v61 at e
        generalize tm.getD 62 undef = v62 at e
        generalize tm.getD 63 undef = v63 at e
        generalize tm.getD 64 undef = v64 at e
        generalize tm.getD 65 undef = v65 at e
        generalize tm.getD 66 undef = v66 at e
        generalize tm.getD 67 undef = v67 at e
        generalize tm.getD 68 undef = v68 at e
        generalize tm.getD 69 undef = v69 at e
        generalize tm.getD 70 undef = v70 at e
        generalize tm.getD 71 undef = v71 at e
        generalize tm.getD 72 undef = v72 at e
        generalize tm.getD 73 undef = v73 at e
        generalize tm.getD 74 undef = v74 at e
        generalize tm.getD 75 undef = v75 at e
        generalize tm.getD 76 undef = v76 at e
        generalize tm.getD 77 undef = v77 at e
        subst e
        clear hval
        obtain ⟨v', h1, h2⟩ := hC.2.2.1 rfl
        clear hC
        go_wp2_with fail
        go_roundw
        case rel =>
          rw [HCL.out] at h1
          rw [HTS.out, HO.out, ← tksD_succ] at h2
          exact ⟨i + 1, v', by omega, by go_num, h1, h2⟩
        case measure => simp [intOf]; omega
    · obtain rfl : i = n := by omega
      obtain ⟨va, vc, rfl⟩ := ownD_form hO
      obtain ⟨ts, hts⟩ : ∃ ts, ts = tksD l i := ⟨_, rfl⟩
      have hfine := fine_tks l i hn
      have htl := tksD_length l i
      rw [← hts] at hO hfine htl
      have HTS := Lib.hid hts
      have HTL := Lib.hid htl
      have HL := Lib.hid hl1
      have HEN := Lib.hid (fun W hW => rencodeT_any cap (rdE l 4 4) (clD l) (finD l) (.slice va i vc) ts W hW hfine (by have := rdE_lt l 8 2 (by omega); unfold clD; omega))
      have hOK : okD cap l = (decide ((encodeR cap (rdE l 4 4) (clD l) (finD l) ts).2 = 0) && decide ((encodeR cap (rdE l 4 4) (clD l) (finD l) ts).1 = l)) := by rw [HTS.out]; exact okD_eq hl HCN.out
      generalize encodeR cap (rdE l 4 4) (clD l) (finD l) ts = R at hOK HEN
      obtain ⟨again, code⟩ := R
      have HOKE := Lib.hid hOK
      have HEND : Hid (ts = tksD l (cntD l)) := Lib.hid (by rw [HTS.out]; exact congrArg (tksD l) HCN.out.symm)
      have HC9 : Hid (RcW w0 gT (clD l) (finD l) (.slice va i vc) w6.drew ∧ w6.drew.ownsRow (gT + 1) 40 7 (.slice va i vc) i (flD tcs ts)) := Lib.hid ⟨HS.drew, hO⟩
      clear hts hfine htl hOK hO HS hl hsz
      go_upto_region 9 with (fail)
      obtain ⟨cl, hcl⟩ : ∃ cl : Int, cl = clD l := ⟨_, rfl⟩
      rw [← hcl] at HC9 HEN
      have HCL := Lib.hid hcl
      clear hcl
      refine wp_region_inr (by kernel_rfl) (fun w W => Below w.heap.size w W) (fun W => RcW w0 gT cl (finD l) (.slice va i vc) W ∧ W.ownsRow (gT + 1) 40 7 (.slice va i vc) i (flD tcs ts)) (rdec9 cap l cl (finD l) va i vc again code) (fun _ => false) (by kernel_rfl) (fun W W' hb h => ⟨h.1.call hb, ownD_keep h.2 hb⟩) (rdec9_keep cap l cl (finD l) va i vc again code) (HC9.out) ⟨?_, ?_, ?_, ?_, ?_, ?_, ?_, ?_, ?_, ?_, trivial⟩ ?_
      · intro a W hc hsz hold hdep
        have o0 : a.tmps.getD 0 undef = .int .i64 cap := hold 0 (by kernel_rfl)
        clear hsz hold hdep
        refine stepR_do rfl (wanted_none rfl) ?_
        refine stepR_val (v := .int .i64 cap) (Below.refl _ _) rfl fun K hK => ?_
        go_simp
        exact hK
      · intro a W hc hsz hold hdep
        have o7 : a.tmps.getD 7 undef = .pointer (some ⟨gT, 0, none⟩) := hold 7 (by kernel_rfl)
        have c0 := hc.1.t.cell (i := 0) rfl
        have c1 := hc.1.t.cell (i := 1) rfl
        have c2 := hc.1.t.cell (i := 2) rfl
        clear hsz hold hdep
        refine stepR_do rfl (wanted_none rfl) ?_
        refine stepR_val (v := .agg #[.int .i64 cl, .bool (finD l), .slice va i vc]) (Below.refl _ _) rfl fun K hK => ?_
        go_simp
        exact hK
      · intro a W hc hsz hold hdep
        have o1 : a.tmps.getD 1 undef = .string (str l) := hold 1 (by kernel_rfl)
        clear hsz hold hdep
        refine stepR_do rfl (wanted_none rfl) ?_
        refine stepR_val (v := .string (str l)) (Below.refl _ _) rfl fun K hK => ?_
        go_simp
        exact hK
      · intro a W hc hsz hold hdep
        have d2 : a.tmps.getD 81 undef = .string (str l) := hdep 2 (by kernel_rfl) rfl _ rfl
        have e2 : a.tmps[81]?.getD undef = .string (str l) := by rw [← Array.getD_eq_getD_getElem?]; exact d2
        clear hsz hold hdep
        refine stepR_do rfl (wanted_none rfl) ?_
        refine stepR_call (v := .int .i64 (rdE l 4 4)) (fun W' hb => hb) (fun _ => rfl) fun K hK => ?_
        go_simp
        refine (number_any l 4 4 4 4 _ rfl rfl (by omega) (by omega) (by omega) HL.out).mono ?_
        rintro e w' ⟨rfl, hb'⟩
        exact hK _ hb'
      · intro a W hc hsz hold hdep
        have d0 : a.tmps.getD 79 undef = .int .i64 cap := hdep 0 (by kernel_rfl) rfl _ rfl
        have e0 : a.tmps[79]?.getD undef = .int .i64 cap := by rw [← Array.getD_eq_getD_getElem?]; exact d0
        have d1 : a.tmps.getD 80 undef = .agg #[.int .i64 cl, .bool (finD l), .slice va i vc] := hdep 1 (by kernel_rfl) rfl _ rfl
        have e1 : a.tmps[80]?.getD undef = .agg #[.int .i64 cl, .bool (finD l), .slice va i vc] := by rw [← Array.getD_eq_getD_getElem?]; exact d1
        have d3 : a.tmps.getD 82 undef = .int .i64 (rdE l 4 4) := hdep 3 (by kernel_rfl) rfl _ rfl
        have e3 : a.tmps[82]?.getD undef = .int .i64 (rdE l 4 4) := by rw [← Array.getD_eq_getD_getElem?]; exact d3
        have hRKW := rdk_own hc.2 HTL.out
        clear hsz hold hdep
        refine stepR_do rfl (wanted_none rfl) ?_
        refine stepR_call (v := .tuple #[.string (str again), .int .i64 code]) (fun W' hb => hb) (fun _ => rfl) fun K hK => ?_
        go_simp
        refine (HEN.out _ hRKW).mono ?_
        rintro e w' ⟨rfl, hb'⟩
        exact hK _ hb'
      · intro a W hc hsz hold hdep
        have d4 : a.tmps.getD 83 undef = .tuple #[.string (str again), .int .i64 code] := hdep 4 (by kernel_rfl) rfl _ rfl
        clear hsz hold hdep
        refine stepR_do rfl (wanted_none rfl) ?_
        refine stepR_val (v := .tuple #[.string (str again), .int .i64 code]) (Below.refl _ _) rfl fun K hK => ?_
        go_simp
        exact hK
      · intro a W hc hsz hold hdep
        have d5 : a.tmps.getD 78 undef = .tuple #[.string (str again), .int .i64 code] := hdep 5 (by kernel_rfl) rfl _ rfl
        clear hsz hold hdep
        refine stepR_do rfl (wanted_none rfl) ?_
        refine stepR_val (v := .string (str again)) (Below.refl _ _) rfl fun K hK => ?_
        go_simp
        exact hK
      · intro a W hc hsz hold hdep
        have d5 : a.tmps.getD 78 undef = .tuple #[.string (str again), .int .i64 code] := hdep 5 (by kernel_rfl) rfl _ rfl
        clear hsz hold hdep
        refine stepR_do rfl (wanted_none rfl) ?_
        refine stepR_val (v := .int .i64 code) (Below.refl _ _) rfl fun K hK => ?_
        go_simp
        exact hK
      · intro a W hc hsz hold hdep
        have d6 : a.tmps.getD 84 undef = .string (str again) := hdep 6 (by kernel_rfl) rfl _ rfl
        clear hsz hold hdep
        refine stepR_do rfl (wanted_none rfl) ?_
        refine stepR_val (v := .string (str again)) (Below.refl _ _) rfl fun K hK => ?_
        go_simp
        exact hK
      · intro a W hc hsz hold hdep
        have d7 : a.tmps.getD 85 undef = .int .i64 code := hdep 7 (by kernel_rfl) rfl _ rfl
        clear hsz hold hdep
        refine stepR_do rfl (wanted_none rfl) ?_
        refine stepR_val (v := .int .i64 code) (Below.refl _ _) rfl fun K hK => ?_
        go_simp
        exact hK
      · intro a W hC hd hsz hold hval
        have d10 : a.tmps.getD 10 undef = .string (str again) := hval 8 _ rfl rfl
        have d11 : a.tmps.getD 11 undef = .int .i64 code := hval 9 _ rfl rfl
        have d1 : a.tmps.getD 1 undef = .string (str l) := hold 1 (by kernel_rfl)
        have d4 : a.tmps.getD 4 undef = .pointer (some ⟨w0.heap.size, 0, none⟩) := hold 4 (by kernel_rfl)
        have d7 : a.tmps.getD 7 undef = .pointer (some ⟨gT, 0, none⟩) := hold 7 (by kernel_rfl)
        clear hold
        obtain ⟨tm, df⟩ := a
        replace hd : df = [] := hd
        replace hsz : tm.size = 97 := hsz
        replace d10 : tm.getD 10 undef = .string (str again) := d10
        replace d11 : tm.getD 11 undef = .int .i64 code := d11
        replace d1 : tm.getD 1 undef = .string (str l) := d1
        replace d4 : tm.getD 4 undef = .pointer (some ⟨w0.heap.size, 0, none⟩) := d4
        replace d7 : tm.getD 7 undef = .pointer (some ⟨gT, 0, none⟩) := d7
        subst hd
        have e : tm = List.toArray (tm.getD 0 undef :: tm.getD 1 undef :: tm.getD 2 undef :: tm.getD 3 undef :: tm.getD 4 undef :: tm.getD 5 undef :: tm.getD 6 undef :: tm.getD 7 undef :: tm.getD 8 undef :: tm.getD 9 undef :: tm.getD 10 undef :: tm.getD 11 undef :: tm.getD 12 undef :: tm.getD 13 undef :: tm.getD 14 undef :: tm.getD 15 undef :: tm.getD 16 undef :: tm.getD 17 undef :: tm.getD 18 undef :: tm.getD 19 undef :: tm.getD 20 undef :: tm.getD 21 undef :: tm.getD 22 undef :: tm.getD 23 undef :: tm.getD 24 undef :: tm.getD 25 undef :: tm.getD 26 undef :: tm.getD 27 undef :: tm.getD 28 undef :: tm.getD 29 undef :: tm.getD 30 undef :: tm.getD 31 undef :: tm.getD 32 undef :: tm.getD 33 undef :: tm.getD 34 undef :: tm.getD 35 undef :: tm.getD 36 undef :: tm.getD 37 undef :: tm.getD 38 undef :: tm.getD 39 undef :: tm.getD 40 undef :: tm.getD 41 undef :: tm.getD 42 undef :: tm.getD 43 undef :: tm.getD 44 undef :: tm.getD 45 undef :: tm.getD 46 undef :: tm.getD 47 undef :: tm.getD 48 undef :: tm.getD 49 undef :: tm.getD 50 undef :: tm.getD 51 undef :: tm.getD 52 undef :: tm.getD 53 undef :: tm.getD 54 undef :: tm.getD 55 undef :: tm.getD 56 undef :: tm.getD 57 undef :: tm.getD 58 undef :: tm.getD 59 undef :: tm.getD 60 undef :: tm.getD 61 undef :: tm.getD 62 undef :: tm.getD 63 undef :: tm.getD 64 undef :: tm.getD 65 undef :: tm.getD 66 undef :: tm.getD 67 undef :: tm.getD 68 undef :: tm.getD 69 undef :: tm.getD 70 undef :: tm.getD 71 undef :: tm.getD 72 undef :: tm.getD 73 undef :: tm.getD 74 undef :: tm.getD 75 undef :: tm.getD 76 undef :: tm.getD 77 undef :: tm.getD 78 undef :: tm.getD 79 undef :: tm.getD 80 undef :: tm.getD 81 undef :: tm.getD 82 undef :: tm.getD 83 undef :: tm.getD 84 undef :: tm.getD 85 undef :: tm.getD 86 undef :: tm.getD 87 undef :: tm.getD 88 undef :: tm.getD 89 undef :: tm.getD 90 undef :: tm.getD 91 undef :: tm.getD 92 undef :: tm.getD 93 undef :: tm.getD 94 undef :: tm.getD 95 undef :: tm.getD 96 undef :: []) := arr_eq tm 97 hsz
        rw [d10, d11, d1, d4, d7] at e
        clear d10 d11 d1 d4 d7 hsz
        generalize tm.getD 0 undef = v0 at e
        generalize tm.getD 2 undef = v2 at e
        generalize tm.getD 3 undef = v3 at e
        generalize tm.getD 5 undef = v5 at e
        generalize tm.getD 6 undef = v6 at e
        generalize tm.getD 8 undef = v8 at e
        generalize tm.getD 9 undef = v9 at e
        generalize tm.getD 12 undef = v12 at e
        generalize tm.getD 13 undef = v13 at e
        generalize tm.getD 14 undef = v14 at e
        generalize tm.getD 15 undef = v15 at e
        generalize tm.getD 16 undef = v16 at e
        generalize tm.getD 17 undef = v17 at e
        generalize tm.getD 18 undef = v18 at e
        generalize tm.getD 19 undef = v19 at e
        generalize tm.getD 20 undef = v20 at e
        generalize tm.getD 21 undef = v21 at e
        generalize tm.getD 22 undef = v22 at e
        generalize tm.getD 23 undef = v23 at e
        generalize tm.getD 24 undef = v24 at e
        generalize tm.getD 25 undef = v25 at e
        generalize tm.getD 26 undef = v26 at e
        generalize tm.getD 27 undef = v27 at e
        generalize tm.getD 28 undef = v28 at e
        generalize tm.getD 29 undef = v29 at e
        generalize tm.getD 30 undef = v30 at e
        generalize tm.getD 31 undef = v31 at e
        generalize tm.getD 32 undef = v32 at e
        generalize tm.getD 33 undef = v33 at e
        generalize tm.getD 34 undef = v34 at e
        generalize tm.getD 35 undef = v35 at e
        generalize tm.getD 36 undef = v36 at e
        generalize tm.getD 37 undef = v37 at e
        generalize tm.getD 38 undef = v38 at e
        generalize tm.getD 39 undef = v39 at e
        generalize tm.getD 40 undef = v40 at e
        generalize tm.getD 41 undef = v41 at e
        generalize tm.getD 42 undef = v42 at e
        generalize tm.getD 43 undef = v43 at e
        generalize tm.getD 44 undef = v44 at e
        generalize tm.getD 45 undef = v45 at e
        generalize tm.getD 46 undef = v46 at e
        generalize tm.getD 47 undef = v47 at e
        generalize tm.getD 48 undef = v48 at e
        generalize tm.getD 49 undef = v49 at e
        generalize tm.getD 50 undef = v50 at e
        generalize tm.getD 51 undef = v51 at e
        generalize tm.getD 52 undef = v52 at e
        generalize tm.getD 53 undef = v53 at e
        generalize tm.getD 54 undef = v54 at e
        generalize tm.getD 55 undef = v55 at e
        generalize tm.getD 56 undef = v56 at e
        generalize tm.getD 57 undef = v57 at e
        generalize tm.getD 58 undef = v58 at e
        generalize tm.getD 59 undef = v59 at e
        generalize tm.getD 60 undef = v60 at e
        generalize tm.getD 61 undef = v61 at e
        generalize tm.getD 62 undef = v62 at e
        generalize tm.getD 63 undef = v63 at e
        generalize tm.getD 64 undef = v64 at e
        generalize tm.getD 65 undef = v65 at e
        generalize tm.getD 66 undef = v66 at e
        generalize tm.getD 67 undef = v67 at e
        generalize tm.getD 68 undef = v68 at e
        generalize tm.getD 69 undef = v69 at e
        generalize tm.getD 70 undef = v70 at e
        generalize tm.getD 71 undef = v71 at e
        generalize tm.getD 72 undef = v72 at e
        generalize tm.getD 73 undef = v73 at e
        generalize tm.getD 74 undef = v74 at e
        generalize tm.getD 75 undef = v75 at e
        generalize tm.getD 76 undef = v76 at e
        generalize tm.getD 77 undef = v77 at e
        generalize tm.getD 78 undef = v78 at e
        generalize tm.getD 79 undef = v79 at e
        generalize tm.getD 80 undef = v80 at e
        generalize tm.getD 81 undef = v81 at e
        generalize tm.getD 82 undef = v82 at e
        generalize tm.getD 83 undef = v83 at e
        generalize tm.getD 84 undef = v84 at e
        generalize tm.getD 85 undef = v85 at e
        generalize tm.getD 86 undef = v86 at e
        generalize tm.getD 87 undef = v87 at e
        generalize tm.getD 88 undef = v88 at e
        generalize tm.getD 89 undef = v89 at e
        generalize tm.getD 90 undef = v90 at e
        generalize tm.getD 91 undef = v91 at e
        generalize tm.getD 92 undef = v92 at e
        generalize tm.getD 93 undef = v93 at e
        generalize tm.getD 94 undef = v94 at e
        generalize tm.getD 95 undef = v95 at e
        generalize tm.getD 96 undef = v96 at e
        subst e
        obtain ⟨hR, hO⟩ := hC
        clear hval
        have hz0 := hR.z.cell (i := 0) rfl
        have hz1 := hR.z.cell (i := 1) rfl
        have hz2 := hR.z.cell (i := 2) rfl
        have hzf := hR.z.free
        have hzl := hR.z.lt
        have HLE := Lib.hid hR.le
        by_cases hok : okD cap l = true
        · have h1 := hok
          rw [HOKE.out, Bool.and_eq_true, decide_eq_true_eq, decide_eq_true_eq] at h1
          obtain ⟨h2, h3⟩ := h1
          subst h2 h3
          have HOK := Lib.hid hok
          have hse := str_same (rfl : again = again)
          have hC0 : RcF w0 gT again cl (finD again) va i vc ts 0 W.drew := ⟨fun _ => hR.drew, hO, fun h => by omega⟩
          clear hok hR hO hz0 hz1 hz2 hzf hzl
          go_upto_region 12 with (fail)
          refine wp_region_seq (by kernel_rfl) (RT) (RcF w0 gT again cl (finD again) va i vc ts) (rdec12 again cl (finD again) va i vc) (fun _ => false) rdec12E 1 (by kernel_rfl) (by kernel_rfl) (.inl (by kernel_rfl)) (rdec12_keep again cl (finD again) va i vc) (hC0) ⟨?_, ?_, ?_, ?_, ?_, ?_, trivial⟩ ?_
          · intro r a W hc hsz hold hdep hnot hlo hhi hrk
            have o7 : a.tmps.getD 7 undef = .pointer (some ⟨gT, 0, none⟩) := hold 7 (by kernel_rfl)
            have hr0 := hhi 3 0 rfl (by kernel_rfl)
            have hR := hc.1 (by omega)
            have c0 := hR.t.cell (i := 0) rfl
            have c1 := hR.t.cell (i := 1) rfl
            have c2 := hR.t.cell (i := 2) rfl
            clear hsz hold hdep hnot hlo hhi hrk
            refine stepR_do rfl (wanted_none rfl) ?_
            refine stepS_val (v := .agg #[.int .i64 cl, .bool (finD again), .slice va i vc]) (RT.mk _ _ _) hc rfl fun K hK => ?_
            go_simp
            exact hK
          · intro r a W hc hsz hold hdep hnot hlo hhi hrk
            have o1 : a.tmps.getD 1 undef = .string (str again) := hold 1 (by kernel_rfl)
            clear hsz hold hdep hnot hlo hhi hrk
            refine stepR_do rfl (wanted_none rfl) ?_
            refine stepS_val (v := .string (str again)) (RT.mk _ _ _) hc rfl fun K hK => ?_
            go_simp
            exact hK
          · intro r a W hc hsz hold hdep hnot hlo hhi hrk
            have d1 : a.tmps.getD 95 undef = .string (str again) := hdep 1 (by kernel_rfl) rfl _ rfl
            have e1 : a.tmps[95]?.getD undef = .string (str again) := by rw [← Array.getD_eq_getD_getElem?]; exact d1
            clear hsz hold hdep hnot hlo hhi hrk
            refine stepR_do rfl (wanted_none rfl) ?_
            have hcc := number_any again 4 4 4 4 W rfl rfl (by omega) (by omega) (by omega) HL.out
            refine stepS_call2 (v := .int .i64 (rdE again 4 4)) fun K hK => ?_
            go_simp
            refine hcc.mono ?_
            rintro e w' ⟨rfl, h1⟩
            exact hK w' (RT.mk _ _ _) (RcF.call hc h1) rfl
          · intro r a W hc hsz hold hdep hnot hlo hhi hrk
            have hr := hrk 0 rfl
            subst hr
            have o4 : a.tmps.getD 4 undef = .pointer (some ⟨w0.heap.size, 0, none⟩) := hold 4 (by kernel_rfl)
            have d0 : a.tmps.getD 94 undef = .agg #[.int .i64 cl, .bool (finD again), .slice va i vc] := hdep 0 (by kernel_rfl) rfl _ rfl
            clear hsz hold hdep hnot hlo hhi hrk
            refine stepR_do rfl (wanted_none rfl) ?_
            have hR := hc.1 rfl
            have hf := hR.z.free
            have c0 := hR.z.cell (i := 0) rfl
            have c1 := hR.z.cell (i := 1) rfl
            have c2 := hR.z.cell (i := 2) rfl
            have hC1 : RcF w0 gT again cl (finD again) va i vc ts 1 (((W.setCell ⟨w0.heap.size, 0, none⟩ (.int .i64 cl)).setCell ⟨w0.heap.size, 1, none⟩ (.bool (finD again))).setCell ⟨w0.heap.size, 2, none⟩ (.slice va i vc)) := ⟨fun h => by omega,
              ownD_far (ownD_far (ownD_far hc.2.1 (p := ⟨w0.heap.size, 0, none⟩) (by have := hR.g; simp only; omega) _) (p := ⟨w0.heap.size, 1, none⟩) (by have := hR.g; simp only; omega) _) (p := ⟨w0.heap.size, 2, none⟩) (by have := hR.g; simp only; omega) _,
              fun _ => ⟨((hR.z.set 0 (.int .i64 cl)).set 1 (.bool (finD again))).set 2 (.slice va i vc), ((hR.le.setCell (p := ⟨w0.heap.size, 0, none⟩) (Nat.le_refl _) _).setCell (p := ⟨w0.heap.size, 1, none⟩) (Nat.le_refl _) _).setCell (p := ⟨w0.heap.size, 2, none⟩) (Nat.le_refl _) _⟩⟩
            refine stepS_new (v := undef) (RT.mk _ _ _) hC1 trivial fun K hK => ?_
            clear hR hc hC1
            go_simp
            exact hK
          · intro r a W hc hsz hold hdep hnot hlo hhi hrk
            have d2 : a.tmps.getD 96 undef = .int .i64 (rdE again 4 4) := hdep 2 (by kernel_rfl) rfl _ rfl
            clear hsz hold hdep hnot hlo hhi hrk
            refine stepR_do rfl (wanted_none rfl) ?_
            refine stepS_val (v := .int .i64 (rdE again 4 4)) (RT.mk _ _ _) hc rfl fun K hK => ?_
            go_simp
            exact hK
          · intro r a W hc hsz hold hdep hnot hlo hhi hrk
            clear hsz hold hdep hnot hlo hhi hrk
            refine stepR_do rfl (wanted_none rfl) ?_
            refine stepS_val (v := .bool true) (RT.mk _ _ _) hc rfl fun K hK => ?_
            go_simp
            exact hK
          · intro a W hC hd hsz hold hval
            have d5 : a.tmps.getD 5 undef = .int .i64 (rdE again 4 4) := hval 4 _ rfl rfl
            have d6 : a.tmps.getD 6 undef = .bool true := hval 5 _ rfl rfl
            have d4 : a.tmps.getD 4 undef = .pointer (some ⟨w0.heap.size, 0, none⟩) := hold 4 (by kernel_rfl)
            clear hold
            obtain ⟨tm, df⟩ := a
            replace hd : df = [] := hd
            replace hsz : tm.size = 97 := hsz
            replace d5 : tm.getD 5 undef = .int .i64 (rdE again 4 4) := d5
            replace d6 : tm.getD 6 undef = .bool true := d6
            replace d4 : tm.getD 4 undef = .pointer (some ⟨w0.heap.size, 0, none⟩) := d4
            subst hd
            have e : tm = List.toArray (tm.getD 0 undef :: tm.getD 1 undef :: tm.getD 2 undef :: tm.getD 3 undef :: tm.getD 4 undef :: tm.getD 5 undef :: tm.getD 6 undef :: tm.getD 7 undef :: tm.getD 8 undef :: tm.getD 9 undef :: tm.getD 10 undef :: tm.getD 11 undef :: tm.getD 12 undef :: tm.getD 13 undef :: tm.getD 14 undef :: tm.getD 15 undef :: tm.getD 16 undef :: tm.getD 17 undef :: tm.getD 18 undef :: tm.getD 19 undef :: tm.getD 20 undef :: tm.getD 21 undef :: tm.getD 22 undef :: tm.getD 23 undef :: tm.getD 24 undef :: tm.getD 25 undef :: tm.getD 26 undef :: tm.getD 27 undef :: tm.getD 28 undef :: tm.getD 29 undef :: tm.getD 30 undef :: tm.getD 31 undef :: tm.getD 32 undef :: tm.getD 33 undef :: tm.getD 34 undef :: tm.getD 35 undef :: tm.getD 36 undef :: tm.getD 37 undef :: tm.getD 38 undef :: tm.getD 39 undef :: tm.getD 40 undef :: tm.getD 41 undef :: tm.getD 42 undef :: tm.getD 43 undef :: tm.getD 44 undef :: tm.getD 45 undef :: tm.getD 46 undef :: tm.getD 47 undef :: tm.getD 48 undef :: tm.getD 49 undef :: tm.getD 50 undef :: tm.getD 51 undef :: tm.getD 52 undef :: tm.getD 53 undef :: tm.getD 54 undef :: tm.getD 55 undef :: tm.getD 56 undef :: tm.getD 57 undef :: tm.getD 58 undef :: tm.getD 59 undef :: tm.getD 60 undef :: tm.getD 61 undef :: tm.getD 62 undef :: tm.getD 63 undef :: tm.getD 64 undef :: tm.getD 65 undef :: tm.getD 66 undef :: tm.getD 67 undef :: tm.getD 68 undef :: tm.getD 69 undef :: tm.getD 70 undef :: tm.getD 71 undef :: tm.getD 72 undef :: tm.getD 73 undef :: tm.getD 74 undef :: tm.getD 75 undef :: tm.getD 76 undef :: tm.getD 77 undef :: tm.getD 78 undef :: tm.getD 79 undef :: tm.getD 80 undef :: tm.getD 81 undef :: tm.getD 82 undef :: tm.getD 83 undef :: tm.getD 84 undef :: tm.getD 85 undef :: tm.getD 86 undef :: tm.getD 87 undef :: tm.getD 88 undef :: tm.getD 89 undef :: tm.getD 90 undef :: tm.getD 91 undef :: tm.getD 92 undef :: tm.getD 93 undef :: tm.getD 94 undef :: tm.getD 95 undef :: tm.getD 96 undef :: []) := arr_eq tm 97 hsz
            rw [d5, d6, d4] at e
            clear d5 d6 d4 hsz
            generalize tm.getD 0 undef = v0 at e
            generalize tm.getD 1 undef = v1 at e
            generalize tm.getD 2 undef = v2 at e
            generalize tm.getD 3 undef = v3 at e
            generalize tm.getD 7 undef = v7 at e
            generalize tm.getD 8 undef = v8 at e
            generalize tm.getD 9 undef = v9 at e
            generalize tm.getD 10 undef = v10 at e
            generalize tm.getD 11 undef = v11 at e
            generalize tm.getD 12 undef = v12 at e
            generalize tm.getD 13 undef = v13 at e
            generalize tm.getD 14 undef = v14 at e
            generalize tm.getD 15 undef = v15 at e
            generalize tm.getD 16 undef = v16 at e
            generalize tm.getD 17 undef = v17 at e
            generalize tm.getD 18 undef = v18 at e
            generalize tm.getD 19 undef = v19 at e
            generalize tm.getD 20 undef = v20 at e
            generalize tm.getD 21 undef = v21 at e
            generalize tm.getD 22 undef = v22 at e
            generalize tm.getD 23 undef = v23 at e
            generalize tm.getD 24 undef = v24 at e
            generalize tm.getD 25 undef = v25 at e
            generalize tm.getD 26 undef = v26 at e
            generalize tm.getD 27 undef = v27 at e
            generalize tm.getD 28 undef = v28 at e
            generalize tm.getD 29 undef = v29 at e
            generalize tm.getD 30 undef = v30 at e
            generalize tm.getD 31 undef = v31 at e
            generalize tm.getD 32 undef = v32 at e
            generalize tm.getD 33 undef = v33 at e
            generalize tm.getD 34 undef = v34 at e
            generalize tm.getD 35 undef = v35 at e
            generalize tm.getD 36 undef = v36 at e
            generalize tm.getD 37 undef = v37 at e
            generalize tm.getD 38 undef = v38 at e
            generalize tm.getD 39 undef = v39 at e
            generalize tm.getD 40 undef = v40 at e
            generalize tm.getD 41 undef = v41 at e
            generalize tm.getD 42 undef = v42 at e
            generalize tm.getD 43 undef = v43 at e
            generalize tm.getD 44 undef = v44 at e
            generalize tm.getD 45 undef = v45 at e
            generalize tm.getD 46 undef = v46 at e
            generalize tm.getD 47 undef = v47 at e
            generalize tm.getD 48 undef = v48 at e
            generalize tm.getD 49 undef = v49 at e
            generalize tm.getD 50 undef = v50 at e
            generalize tm.getD 51 undef = v51 at e
            generalize tm.getD 52 undef = v52 at e
            generalize tm.getD 53 undef = v53 at e
            generalize tm.getD 54 undef = v54 at e
            generalize tm.getD 55 undef = v55 at e
            generalize tm.getD 56 undef = v56 at e
            generalize tm.getD 57 undef = v57 at e
            generalize tm.getD 58 undef = v58 at e
            generalize tm.getD 59 undef = v59 at e
            generalize tm.getD 60 undef = v60 at e
            generalize tm.getD 61 undef = v61 at e
            generalize tm.getD 62 undef = v62 at e
            generalize tm.getD 63 undef = v63 at e
            generalize tm.getD 64 undef = v64 at e
            generalize tm.getD 65 undef = v65 at e
            generalize tm.getD 66 undef = v66 at e
            generalize tm.getD 67 undef = v67 at e
            generalize tm.getD 68 undef = v68 at e
            generalize tm.getD 69 undef = v69 at e
            generalize tm.getD 70 undef = v70 at e
            generalize tm.getD 71 undef = v71 at e
            generalize tm.getD 72 undef = v72 at e
            generalize tm.getD 73 undef = v73 at e
            generalize tm.getD 74 undef = v74 at e
            generalize tm.getD 75 undef = v75 at e
            generalize tm.getD 76 undef = v76 at e
            generalize tm.getD 77 undef = v77 at e
            generalize tm.getD 78 undef = v78 at e
            generalize tm.getD 79 undef = v79 at e
            generalize tm.getD 80 undef = v80 at e
            generalize tm.getD 81 undef = v81 at e
            generalize tm.getD 82 undef = v82 at e
            generalize tm.getD 83 undef = v83 at e
            generalize tm.getD 84 undef = v84 at e
            generalize tm.getD 85 undef = v85 at e
            generalize tm.getD 86 undef = v86 at e
            generalize tm.getD 87 undef = v87 at e
            generalize tm.getD 88 undef = v88 at e
            generalize tm.getD 89 undef = v89 at e
            generalize tm.getD 90 undef = v90 at e
            generalize tm.getD 91 undef = v91 at e
            generalize tm.getD 92 undef = v92 at e
            generalize tm.getD 93 undef = v93 at e
            generalize tm.getD 94 undef = v94 at e
            generalize tm.getD 95 undef = v95 at e
            generalize tm.getD 96 undef = v96 at e
            subst e
            obtain ⟨hB, hLE⟩ := hC.2.2 rfl
            have hO := hC.2.1
            clear hval hC
            have z0 := hB.cell (i := 0) rfl
            have z1 := hB.cell (i := 1) rfl
            have z2 := hB.cell (i := 2) rfl
            go_wp2_with fail
            refine bodyPost_ret (v := .tuple #[tval cl (finD again) (.slice va i vc), .int .i64 (rdE again 4 4), .bool true]) (by simp [results, Try.results80, go_sem, z0, z1, z2]) rfl ?_
            exact ⟨cl, finD again, _, ts, rdE again 4 4, by rw [HOK.out], rdk_own hO HTL.out, hLE, fun _ => ⟨HCL.out, rfl, HEND.out, rfl⟩⟩
        · have HOK := Lib.hid (Bool.eq_false_iff.2 hok)
          have h1 := HOK.out
          rw [HOKE.out, Bool.and_eq_false_iff, decide_eq_false_iff_not, decide_eq_false_iff_not] at h1
          clear hok hR hO
          by_cases hcode : code = 0
          · have hse := str_other (h1.resolve_left (fun h => h hcode))
            subst hcode
            clear h1
            go_wp2_with fail
            refine bodyPost_ret (v := .tuple #[tval 0 false (.slice none 0 0), .int .i64 0, .bool false]) (by simp [results, Try.results80, go_sem, hz0, hz1, hz2]) rfl ?_
            refine ⟨0, false, _, [], 0, by rw [HOK.out], RdK.nil _, ?_, fun h => by rw [HOK.out] at h; cases h⟩
            exact ((HLE.out.setCell (by simp) _).setCell (by simp) _).setCell (by simp) _
          · have hse : (code == 0) = false := beq_eq_false_iff_ne.2 hcode
            have hse2 : (code != 0) = true := bne_iff_ne.2 hcode
            clear h1 hcode
            go_wp2_with fail
            refine bodyPost_ret (v := .tuple #[tval 0 false (.slice none 0 0), .int .i64 0, .bool false]) (by simp [results, Try.results80, go_sem, hz0, hz1, hz2]) rfl ?_
            refine ⟨0, false, _, [], 0, by rw [HOK.out], RdK.nil _, ?_, fun h => by rw [HOK.out] at h; cases h⟩
            exact ((HLE.out.setCell (by simp) _).setCell (by simp) _).setCell (by simp) _
end Go.Proofs.Ytiioojlihapdaaa.E1
namespace Go.Proofs.Ytiioojlihapdaaa.E1
open Go.RowKit W10
set_option linter.unusedVariables false

set_option maxRecDepth 100000 in
set_option maxHeartbeats 1000000 in
theorem rdecode_short (cap : Int) (l : List UInt8) (w : World) (h1 : l.length < 16) (hok : okD cap l = false) : Calls Try.prog 80 #[.int .i64 cap, .string (str l)] w (DecP cap l w) := by
  have hsz := str_size l
  obtain ⟨n, hn⟩ : ∃ n, n = l.length := ⟨_, rfl⟩
  rw [← hn] at hsz h1
  have HOK := Lib.hid hok
  clear hok hn
  go_enter Try.func80, Try.ntmps80
  go_wp2_with fail
  refine bodyPost_ret (v := .tuple #[tval 0 false (.slice none 0 0), .int .i64 0, .bool false]) (by simp [results, Try.results80, go_sem]) rfl ?_
  refine ⟨0, false, _, [], 0, by rw [HOK.out], RdK.nil _, ?_, fun h => by rw [HOK.out] at h; cases h⟩
  exact (Below.refl _ _).alloc (Nat.le_refl _) _
set_option maxRecDepth 100000 in
set_option maxHeartbeats 1000000 in
theorem rdecode_magic (cap : Int) (l : List UInt8) (w : World) (h1 : 16 ≤ l.length) (hl : l.length ≤ 1000000) (hm : l.take 4 ≠ magic) (hok : okD cap l = false) : Calls Try.prog 80 #[.int .i64 cap, .string (str l)] w (DecP cap l w) := by
  have hsz := str_size l
  have hcut := fun W => run_stoE (P := Try.prog) Try.underlying9 l 4 (by omega) 4 rfl W
  have hse : ((str (l.take 4)).toList == [80, 77, 65, 49]) = false := by rw [str_toList]; exact beq_eq_false_iff_ne.2 hm
  have hse2 : ((str (l.take 4)).toList != [80, 77, 65, 49]) = true := by rw [str_toList]; exact bne_iff_ne.2 hm
  generalize l.take 4 = M at hcut hse hse2
  obtain ⟨n, hn⟩ : ∃ n, n = l.length := ⟨_, rfl⟩
  rw [← hn] at hsz h1 hl
  have HOK := Lib.hid hok
  clear hok hn hm
  go_enter Try.func80, Try.ntmps80
  go_wp2_with fail
  refine bodyPost_ret (v := .tuple #[tval 0 false (.slice none 0 0), .int .i64 0, .bool false]) (by simp [results, Try.results80, go_sem]) rfl ?_
  refine ⟨0, false, _, [], 0, by rw [HOK.out], RdK.nil _, ?_, fun h => by rw [HOK.out] at h; cases h⟩
  exact (Below.refl _ _).alloc (Nat.le_refl _) _
set_option maxRecDepth 100000 in
set_option maxHeartbeats 1000000 in
theorem rdecode_cnt (cap : Int) (l : List UInt8) (w : World) (h1 : 16 ≤ l.length) (hl : l.length ≤ 1000000) (hm : l.take 4 = magic) (hc : l.length ≠ 16 + 20 * cntD l) (hok : okD cap l = false) : Calls Try.prog 80 #[.int .i64 cap, .string (str l)] w (DecP cap l w) := by
  have hsz := str_size l
  have hcut := fun W => run_stoE (P := Try.prog) Try.underlying9 l 4 (by omega) 4 rfl W
  have hse : ((str (l.take 4)).toList == [80, 77, 65, 49]) = true := by rw [hm, str_toList]; rfl
  generalize l.take 4 = M at hcut hse hm
  have HN := Lib.hid (fun W => number_any l 12 2 2 12 W rfl rfl (by omega) (by omega) (by omega) hl)
  have hmb := rdE_lt l 12 2 (by omega)
  unfold cntD at hc
  generalize rdE l 12 2 = m at HN hmb hc
  obtain ⟨n, hn⟩ : ∃ n, n = l.length := ⟨_, rfl⟩
  rw [← hn] at hsz h1 hl hc
  have hd4 : ((n : Int) != 16 + 20 * (m : Int)) = true := by rw [bne_iff_ne]; omega
  have HOK := Lib.hid hok
  clear hok hn hm hc
  go_enter Try.func80, Try.ntmps80
  go_wp2_with fail
  refine (HN.out _).mono ?_
  rintro e w1 ⟨rfl, hb1⟩
  have hz1 := (Bx.new w 24 [.int .i64 0, .bool false, .slice none 0 0]).call hb1
  have hle1 := ((Below.refl w.heap.size w).alloc (Nat.le_refl _) (.cells #[.int .i64 0, .bool false, .slice none 0 0] 24)).trans (hb1.mono (by simp))
  have z0 := hz1.cell (i := 0) rfl
  have z1 := hz1.cell (i := 1) rfl
  have z2 := hz1.cell (i := 2) rfl
  have hzf := hz1.free
  have hzl := hz1.lt
  clear hb1 hz1
  go_wp2_with fail
  refine bodyPost_ret (v := .tuple #[tval 0 false (.slice none 0 0), .int .i64 0, .bool false]) (by simp [results, Try.results80, go_sem, z0, z1, z2]) rfl ?_
  refine ⟨0, false, _, [], 0, by rw [HOK.out], RdK.nil _, ?_, fun h => by rw [HOK.out] at h; cases h⟩
  exact ((hle1.setCell (by simp) _).setCell (by simp) _).setCell (by simp) _
theorem rdecode_any (cap : Int) (l : List UInt8) (w : World) (hl : l.length ≤ 20000) : Calls Try.prog 80 #[.int .i64 cap, .string (str l)] w (DecP cap l w) := by
  have bad : ¬ (16 ≤ l.length ∧ l.length = 16 + 20 * cntD l ∧ l.take 4 = magic) → okD cap l = false := fun h => by
    rw [Bool.eq_false_iff]
    intro h1
    have h2 := okD_iff.1 h1
    exact h ⟨h2.1.1, h2.1.2, okD_magic h1⟩
  by_cases h1 : l.length < 16
  · exact rdecode_short cap l w h1 (bad fun h => by omega)
  by_cases hm : l.take 4 = magic
  · by_cases hc : l.length = 16 + 20 * cntD l
    · exact rdecode_main cap l (cntD l) w hc (by omega) rfl hm
    · exact rdecode_cnt cap l w (by omega) (by omega) hm hc (bad fun h => hc h.2.1)
  · exact rdecode_magic cap l w (by omega) (by omega) hm (bad fun h => hm h.2.2)
end Go.Proofs.Ytiioojlihapdaaa.E1
