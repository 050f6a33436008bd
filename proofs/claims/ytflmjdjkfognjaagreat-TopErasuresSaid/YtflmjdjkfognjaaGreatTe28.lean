/- Parts: XWv XWa XWf XWr XWq -/
import Derived.Outline
import Derived.Test.YtflmjdjkfognjaaGreatTe17
import Derived.Test.YtflmjdjkfognjaaGreatTe08
import Derived.Test.YtflmjdjkfognjaaGreatTeShelf
import Derived.IntWalk
import Derived.Test.YtflmjdjkfognjaaGreatTe18
import Derived.Test.YtflmjdjkfognjaaGreatTe16
import Derived.Deep.Cut
import Derived.Test.YtflmjdjkfognjaaGreatTe14
namespace Go.Proofs.YtflmjdjkfognjaaGreat.W8
open Go.RowKit Go.Shelf
set_option linter.unusedVariables false
attribute [local go_sem] Oper.semAt_some
def soundN (raw : List UInt8) (f : Int) : Nat → Bool
  | 0 => true
  | k + 1 => soundN raw f k && G.validB (takeL raw (wd k) f) 2
def soundB (raw : List UInt8) (f : Int) : Bool := soundN raw f 138
theorem soundN_false {raw : List UInt8} {f : Int} {k : Nat} (h : G.validB (takeL raw (wd k) f) 2 = false) : ∀ n, k < n → soundN raw f n = false
  | 0, hk => by omega
  | n + 1, hk => by
    unfold soundN
    by_cases e : k = n
    · subst e; rw [h, Bool.and_false]
    · rw [soundN_false h n (by omega), Bool.false_and]
theorem words_in (n : Nat) (w : World) : CallsIn Fence.wide n Tryz.prog 61 #[] w fun e w' => e = .returned (.func (.func 122) #[] #[]) ∧ w = w' := by
  refine callsIn_of_wp Tryz.func61 rfl trivial ?_ rfl
  simp only [Tryz.ntmps61, List.size_toArray, List.length_nil, Nat.reduceSub, Array.replicate_succ, Array.replicate_zero, List.push_toArray, List.append_toArray, List.nil_append]
  gi_wp2
  go_ret
  exact ⟨rfl, rfl⟩
set_option maxRecDepth 100000 in
set_option maxHeartbeats 2000000 in
theorem sound_any (rv : Value) (raw : List UInt8) (f : Int) (w : World) (hr : Rd w rv raw) (hl : raw.length = 2352) :
    Calls Tryz.prog 98 #[rv, .int .i64 f] w fun e w' => e = .returned (.bool (soundB raw f)) ∧ Below w.heap.size w w' := by
  have HL := Lib.hid hl
  obtain ⟨ra, rc, rfl⟩ := hr.form
  rw [hl] at hr ⊢
  have HR := Lib.hid hr
  clear hl hr
  refine (callsIn_wide (n := 5)).1 ?_
  refine callsIn_of_wp_marks Tryz.func98 rfl trivial ?_ rfl
  simp only [Tryz.ntmps98, List.size_toArray, List.length_cons, List.length_nil, Nat.reduceAdd, Nat.reduceSub, Array.replicate_succ, Array.replicate_zero, List.push_toArray, List.append_toArray, List.nil_append, List.cons_append]
  gi_wp2_with (refine ⟨trivial, ?_⟩; gi_at_call 61; refine (words_in 4 _).mono ?_; rintro e w' ⟨rfl, rfl⟩)
  have X0 := ((Bx.new w 123 [.slice ra 2352 rc]).alloc (.cells #[.int .i64 f] 3)).alloc (.cells #[.bool false] 4)
  have X1 := (Bx.new (w.alloc (.cells #[.slice ra 2352 rc] 123)) 3 [.int .i64 f]).alloc (.cells #[.bool false] 4)
  have X2 := Bx.new ((w.alloc (.cells #[.slice ra 2352 rc] 123)).alloc (.cells #[.int .i64 f] 3)) 4 [.bool false]
  have hB : Below w.heap.size w (((w.alloc (.cells #[.slice ra 2352 rc] 123)).alloc (.cells #[.int .i64 f] 3)).alloc (.cells #[.bool false] 4)) := (((Below.refl _ w).alloc (Nat.le_refl _) _).alloc (by simp) _).alloc (by simp; omega) _
  simp only [World.size_alloc] at X1 X2
  obtain ⟨B, hBs⟩ : ∃ B, B = (((w.alloc (.cells #[.slice ra 2352 rc] 123)).alloc (.cells #[.int .i64 f] 3)).alloc (.cells #[.bool false] 4)).heap.size := ⟨_, rfl⟩
  have hB3 : B = w.heap.size + 1 + 1 + 1 := by rw [hBs]; simp
  have hseq := words_gives 4 (by omega) (((w.alloc (.cells #[.slice ra 2352 rc] 123)).alloc (.cells #[.int .i64 f] 3)).alloc (.cells #[.bool false] 4))
  rw [← hBs] at hseq
  refine wpIn_range_gives1 (n := 5) rfl (by omega) (gf := 122) (lb := #[]) rfl trivial (enters_of Tryz.func122 (by kernel_rfl) rfl) hseq rfl
    (fun k W => ((soundN raw f k = true) ∧ Bx W w.heap.size 123 [.slice ra 2352 rc] ∧ Bx W (w.heap.size + 1) 3 [.int .i64 f] ∧ Bx W (w.heap.size + 1 + 1) 4 [.bool false]) ∧ Below w.heap.size w W)
    (fun c W => ((c = .ret ∧ soundB raw f = false) ∧ Bx W (w.heap.size + 1 + 1) 4 [.bool false]) ∧ Below w.heap.size w W)
    (fun v => { tmps := #[.slice ra 2352 rc, .int .i64 f, .pointer (some ⟨w.heap.size, 0, none⟩), .pointer (some ⟨w.heap.size + 1, 0, none⟩), .pointer (some ⟨w.heap.size + 1 + 1, 0, none⟩), v, .func (.func 122) #[] #[], v, undef, undef, undef, undef, undef, undef], defers := [] })
    (fun k => ((Stays.const _ _).and ((stays_bx _ _ _ _).and ((stays_bx _ _ _ _).and (stays_bx _ _ _ _)))).and (stays_below (Nat.le_refl _) (by simp; omega)))
    (fun c => ((Stays.const _ _).and (stays_bx _ _ _ _)).and (stays_below (Nat.le_refl _) (by simp; omega)))
    (fun k v => GW.stays _ _ _ _) ⟨⟨rfl, X0, X1, X2⟩, hB⟩ ?assign ?body ?done ?stop
  case assign =>
    intro l v W K _ hK
    gi_wp2
    exact hK
  case body =>
    rw [← hBs]
    rintro l k v W hk ⟨⟨hsn, x0, x1, x2⟩, hb⟩ hg
    clear X0 X1 X2 hB hseq hBs
    have hwb := wd_bd hk
    have hwl := wd_length k
    have hlen : (wd k).length ≤ 45 := by rw [hwl]; split <;> omega
    have hlen2 : 26 ≤ (wd k).length := by rw [hwl]; split <;> omega
    have hri := rdI_own (w := W) hg rfl (by omega) (fun x hx => by have := hwb x hx; omega)
    have hra := HR.out.keep hb
    have HT := Lib.hid (take_any _ raw v (wd k) f W hra hri (by omega) (fun x hx => by have := hwb x hx; have := HL.out; omega))
    have HV := Lib.hid (fun W => valid_any (takeL raw (wd k) f) 2 W (by rw [takeL_length]; omega))
    have hS : soundN raw f (k + 1) = (soundN raw f k && G.validB (takeL raw (wd k) f) 2) := rfl
    rw [hsn, Bool.true_and] at hS
    have hF : G.validB (takeL raw (wd k) f) 2 = false → soundB raw f = false := fun h => soundN_false h 138 hk
    generalize G.validB (takeL raw (wd k) f) 2 = bb at *
    have HS := Lib.hid hS
    have c0 := x0.cell (i := 0) rfl
    have c1 := x1.cell (i := 0) rfl
    clear hS hsn hwl hwb hri hra hg
    have HB := Lib.hid hb
    have HX := Lib.hid (And.intro x0 (And.intro x1 x2))
    have h32 : 1 ≤ 5 - 1 - 1 := by omega
    clear hb x0 x1 x2
    cases bb with
    | false =>
      have HF := Lib.hid (hF rfl)
      clear hF
      gi_wp2_with (first | (refine ⟨trivial, ?_⟩; gi_at_call 147; refine (CallsIn.inRound l (callsIn_wide.2 HT.out)).mono ?_; rintro e W2 ⟨rfl, hb2⟩) | (refine ⟨trivial, ?_⟩; gi_at_call 164; refine (CallsIn.inRound l (callsIn_wide.2 (HV.out _))).mono ?_; rintro e W3 ⟨rfl, hb3⟩; have hb4 := hb2.trans (hb3.mono hb2.size); have x2' := HX.out.2.2.call hb4; have c3 := x2'.cell (i := 0) rfl; have f3 := x2'.free 0; clear x2'))
      exact ⟨(kf_below hb4).trans (kf_set _ _ _ _), ⟨⟨rfl, HF.out⟩, (HX.out.2.2.call hb4).set 0 (.bool false)⟩, (HB.out.trans (hb4.mono HB.out.size)).setCell (p := ⟨w.heap.size + 1 + 1, 0, none⟩) (by simp; omega) _⟩
    | true =>
      clear hF
      gi_wp2_with (first | (refine ⟨trivial, ?_⟩; gi_at_call 147; refine (CallsIn.inRound l (callsIn_wide.2 HT.out)).mono ?_; rintro e W2 ⟨rfl, hb2⟩) | (refine ⟨trivial, ?_⟩; gi_at_call 164; refine (CallsIn.inRound l (callsIn_wide.2 (HV.out _))).mono ?_; rintro e W3 ⟨rfl, hb3⟩; have hb4 := hb2.trans (hb3.mono hb2.size); have x2' := HX.out.2.2.call hb4; have c3 := x2'.cell (i := 0) rfl; have f3 := x2'.free 0; clear x2'))
      exact ⟨kf_below hb4, ⟨HS.out, HX.out.1.call hb4, HX.out.2.1.call hb4, HX.out.2.2.call hb4⟩, HB.out.trans (hb4.mono HB.out.size)⟩
  case done =>
    rintro D W hD ⟨⟨hsn, _, _, hx⟩, hb⟩ hK
    rw [← hBs] at hD
    have HSN : Hid (soundB raw f = true) := Lib.hid hsn
    clear X0 X1 X2 hB hseq hBs hsn
    have c3 := hx.cell (i := 0) rfl
    have f3 := hx.free 0
    have hK' := (KeepsOthers.setCell W ⟨w.heap.size + 1 + 1, 0, none⟩ (.bool true)).same D _ hK rfl
    have hx' := hx.set 0 (.bool true)
    have hb' := hb.setCell (p := ⟨w.heap.size + 1 + 1, 0, none⟩) (by simp; omega) (.bool true)
    gi_wp2
    refine ⟨by simp, .inl ⟨_, _, rfl, run_takeDeferred hK', ?_⟩⟩
    have hc := ((stays_bx (w.heap.size + 1 + 1) _ _ _).putObj (.deferred none) hx' (by omega) hK' rfl).cell (i := 0) rfl
    rw [HSN.out]
    exact ⟨.bool true, by simp [results, Tryz.results98, go_sem, hc], rfl, hb'.trans (belowK_b (w := w) (Nat.le_refl _) _ D _ _ (by omega) hK' rfl rfl)⟩
  case stop =>
    rintro D c W hD ⟨⟨⟨rfl, hsn⟩, hx⟩, hb⟩ hK
    rw [← hBs] at hD
    have HSN : Hid (soundB raw f = false) := Lib.hid hsn
    clear X0 X1 X2 hB hseq hBs hsn
    gi_wp2
    refine ⟨by simp, .inl ⟨_, _, rfl, run_takeDeferred hK, ?_⟩⟩
    have hc := ((stays_bx (w.heap.size + 1 + 1) _ _ _).putObj (.deferred none) hx (by omega) hK rfl).cell (i := 0) rfl
    rw [HSN.out]
    exact ⟨.bool false, by simp [results, Tryz.results98, go_sem, hc], rfl, hb.trans (belowK_b (w := w) (Nat.le_refl _) _ D _ _ (by omega) hK rfl rfl)⟩
def fstI (m : Int) : Int := if m = 0 then 12 else if m = 1 then 16 else 0
def fstB (m : Int) : Bool := decide (m = 0) || decide (m = 1)
theorem first_any (m : Int) (w : World) : Calls Tryz.prog 59 #[.int .i64 m] w fun e w' => e = .returned (.tuple #[.int .i64 (fstI m), .bool (fstB m)]) ∧ w = w' := by
  by_cases h0 : m = 0
  · subst h0
    go_enter Tryz.func59, Tryz.ntmps59
    go_wp2_with fail
    go_ret2
    exact ⟨rfl, rfl⟩
  · by_cases h1 : m = 1
    · subst h1
      go_enter Tryz.func59, Tryz.ntmps59
      go_wp2_with fail
      go_ret2
      exact ⟨rfl, rfl⟩
    · have e1 : fstI m = 0 := by simp [fstI, h0, h1]
      have e2 : fstB m = false := by simp [fstB, h0, h1]
      rw [e1, e2]
      have hb0 : (m == 0) = false := by simpa using h0
      have hb1 : (m == 1) = false := by simpa using h1
      have H0 := Lib.hid h0; have H1 := Lib.hid h1
      clear e1 e2 h0 h1
      go_enter Tryz.func59, Tryz.ntmps59
      go_wp2_with fail
      go_ret2
      exact ⟨rfl, rfl⟩
def vldB (raw : List UInt8) (m : Int) : Bool := fstB m && (decide (raw.length = 2352) && soundB raw (fstI m))
theorem run_bytes {P : Program} (w : World) {src dst e : TypeId} (hs : P.underlying src = some .string) (hd : P.underlying dst = some (.slice e)) (he : P.underlying e = some (.int .u8)) (l : List UInt8) (n : Nat) (hn : l.length = n) :
    ∃ w' cap, (convert src dst (.string (str l))).run P w = .ok (.slice (some ⟨w.heap.size, 0, none⟩) n cap) w' ∧ Row w' e w.heap.size cap l ∧ Below w.heap.size w w' ∧ n ≤ cap := by
  subst hn
  have hsz := str_size l
  refine ⟨_, _, by rw [Lib.run_convert_string_bytes (P := P) w src dst e (str l) hs hd he, hsz], ?_, ?_, ?_⟩
  · refine ⟨Lib.bytesCells w e (str l), _, Lib.bytesWorld_at_new w e (str l), .inr (Nat.le_refl _), ?_, by rw [size_bytesCells w e (str l), hsz], ?_⟩
    · have := grownCap_ge w l.length 0 e
      simpa using this
    · have hl : (str l).data.toList.length = l.length := rfl
      unfold Lib.bytesCells
      rw [Array.toList_append, List.take_append_of_le_length (by simp [← hl]), List.take_of_length_le (by simp [← hl])]
      simp [bs, str]
  · exact ⟨rfl, rfl, rfl, by rw [Lib.bytesWorld_size]; omega, fun k hk => Lib.bytesWorld_at_old w e (str l) k hk⟩
  · have := grownCap_ge w l.length 0 e
    simpa using this
set_option maxRecDepth 100000 in
set_option maxHeartbeats 1000000 in
theorem valid8_any (raw : List UInt8) (m : Int) (w : World) (hl : raw.length ≤ 9223372036854775807) :
    Calls Tryz.prog 35 #[.string (str raw), .int .i64 m] w fun e w' => e = .returned (.bool (vldB raw m)) ∧ Below w.heap.size w w' := by
  have hs := str_size raw
  have HF := Lib.hid (fun W => first_any m W)
  cases hb : fstB m with
  | false =>
    have e1 : vldB raw m = false := by simp [vldB, hb]
    rw [e1]
    rw [hb] at HF
    clear e1 hb hs hl
    go_enter Tryz.func35, Tryz.ntmps35
    go_wp2_with (refine (HF.out _).mono ?_; rintro e w' ⟨rfl, rfl⟩)
    go_ret
    exact ⟨rfl, Below.refl _ _⟩
  | true =>
    rw [hb] at HF
    by_cases hn : raw.length = 2352
    · have e1 : vldB raw m = soundB raw (fstI m) := by simp [vldB, hb, hn]
      rw [e1]
      rw [hn] at hs
      have HN := Lib.hid hn
      generalize fstI m = f at *
      clear e1 hb hl
      obtain ⟨w2, cap, hrun, hr2, hb2, hcap⟩ := run_bytes (P := Tryz.prog) w Tryz.underlying9 Tryz.underlying123 Tryz.underlying5 raw 2352 hn
      have hrd := hr2.rd (by omega)
      rw [hn] at hrd
      clear hn hr2
      go_enter Tryz.func35, Tryz.ntmps35
      go_wp2_with (refine (HF.out _).mono ?_; rintro e w' ⟨rfl, rfl⟩)
      refine (sound_any _ raw f _ hrd HN.out).mono ?_
      rintro e w3 ⟨rfl, hb3⟩
      have hB3 := hb2.trans (hb3.mono hb2.size)
      clear hrd hb2 hb3 hrun
      go_wp2_with fail
      go_ret
      exact ⟨rfl, hB3⟩
    · have e1 : vldB raw m = false := by simp [vldB, hn]
      rw [e1]
      have hn1 : ((raw.length : Int) == 2352) = false := by simp; omega
      have HN := Lib.hid hn
      clear e1 hb hn
      go_enter Tryz.func35, Tryz.ntmps35
      go_wp2_with (refine (HF.out _).mono ?_; rintro e w' ⟨rfl, rfl⟩)
      go_ret
      exact ⟨rfl, Below.refl _ _⟩
end Go.Proofs.YtflmjdjkfognjaaGreat.W8
namespace Go.Proofs.YtflmjdjkfognjaaGreat.W8
open Go.RowKit Go.Shelf
set_option linter.unusedVariables false
theorem own_int {w : World} {base e n : Nat} {v : Value} {l : List Int} (h : w.ownsRow base e 1 v n (is l)) (hn : 0 < n) : ∃ g c, v = .slice (some ⟨g, 0, none⟩) n c ∧ ∀ i, i < n → w.cell? ⟨g, i, none⟩ = some (.int .i64 (ixI l i)) := by
  have hl := h.1
  rw [is_length, Nat.mul_one] at hl
  rcases h.2 with ⟨_, h0⟩ | ⟨g, cap, cur, rfl, hg, hh, hnn, hm, hcs, ht⟩
  · omega
  · exact ⟨g, cap, rfl, fun i hi => by rw [h.cellAt i (by omega), is_get (by omega)]⟩
end Go.Proofs.YtflmjdjkfognjaaGreat.W8
namespace Go.Proofs.YtflmjdjkfognjaaGreat.W8
open Go.RowKit Go.Shelf
set_option linter.unusedVariables false
attribute [local go_sem] Oper.semAt_some
def enc7V (g cap n g1 c1 : Nat) (f : Int) (v2 : Value) (S : ByteArray) (i : Nat) (v : Value) (W : World) : Prop := match i with
  | 0 => v = .slice (some ⟨g, 0, none⟩) 2352 cap
  | 1 => v = .slice (some ⟨g1, 0, none⟩) n c1
  | 2 => v = .slice (some ⟨g1, 0, none⟩) n c1
  | 3 => v = .int .i64 (n : Int)
  | 4 => v = .int .i64 ((n : Int) - 2)
  | 5 => v = v2
  | 6 => v = .int .i64 f
  | 7 => v = .string S
  | 8 => v = .string S
  | _ => True
theorem enc7V_keep (g cap n g1 c1 : Nat) (f : Int) (v2 : Value) (S : ByteArray) (i : Nat) (v : Value) (W W' : World) (hR : (fun w W => Below w.heap.size w W) W W') (h : enc7V g cap n g1 c1 f v2 S i v W) : enc7V g cap n g1 c1 f v2 S i v W' := by
  unfold enc7V at h ⊢
  split at h <;> first | exact h
set_option maxRecDepth 100000 in
set_option maxHeartbeats 4000000 in
theorem encode8_ok (raw : List UInt8) (m : Int) (w : World) (h : fstB m = true) (hl : raw.length = 2352) :
    Calls Tryz.prog 77 #[.string (str raw), .int .i64 m] w fun e w' => e = .returned (.tuple #[.string (str (encN raw (fstI m) 138)), .int .i64 0]) ∧ Below w.heap.size w w' := by
  have HF := Lib.hid (fun W => first_any m W)
  rw [h] at HF
  have hf16 : fstI m ≤ 16 := by unfold fstI; split <;> (try split) <;> omega
  have hs : (str raw).size = 2352 := by rw [str_size, hl]
  have HL := Lib.hid hl
  have HS := Lib.hid hs
  have hd : ((2352 : Int) != 2352) = false := by decide
  generalize fstI m = f at *
  clear h hl
  refine (callsIn_wide (n := 5)).1 ?_
  refine callsIn_of_wp_marks Tryz.func77 rfl trivial ?_ rfl
  simp only [Tryz.ntmps77, List.size_toArray, List.length_cons, List.length_nil, Nat.reduceAdd, Nat.reduceSub, Array.replicate_succ, Array.replicate_zero, List.push_toArray, List.append_toArray, List.nil_append, List.cons_append]
  gi_wp2_with (refine ⟨trivial, ?_⟩; gi_at_call 59; refine (callsIn_wide.2 (HF.out _)).mono ?_; rintro e w' ⟨rfl, rfl⟩)
  have hb1 : Below w.heap.size w (w.alloc (.cells #[.int .i64 f] 3)) := (Below.refl _ w).alloc (Nat.le_refl _) _
  have X6 := Bx.new w 3 [.int .i64 f]
  have hg1 : (w.alloc (.cells #[.int .i64 f] 3)).heap.size = w.heap.size + 1 := by simp
  obtain ⟨w2, cap, hrun, hr2, hb2, hcap⟩ := run_bytes (P := Tryz.prog) (w.alloc (.cells #[.int .i64 f] 3)) Tryz.underlying9 Tryz.underlying123 Tryz.underlying5 raw 2352 HL.out
  rw [hg1] at hrun hr2 hb2
  rw [hrun]
  simp only [Result.andThen]
  rw [Oper.uponIn_value]
  have hb2' := hb1.trans (hb2.mono (by omega))
  have X6 := X6.keepB hb2 (by omega)
  have hlt2 := hr2.lt
  clear hb1 hb2 hrun hg1
  gi_wp2_with (refine ⟨trivial, ?_⟩; gi_at_call 61; refine (words_in 4 _).mono ?_; rintro e w' ⟨rfl, rfl⟩)
  obtain ⟨b6, hb6⟩ : ∃ b, b = w.heap.size := ⟨_, rfl⟩
  obtain ⟨b8, hb8⟩ : ∃ b, b = w2.heap.size := ⟨_, rfl⟩
  obtain ⟨g, hg⟩ : ∃ b, b = w.heap.size + 1 := ⟨_, rfl⟩
  rw [← hg] at hr2 hlt2 ⊢
  rw [← hb6] at X6
  have X8 := Bx.new w2 123 [.slice (some ⟨g, 0, none⟩) 2352 cap]
  have hR := hr2.below ((Below.refl w2.heap.size w2).alloc (Nat.le_refl _) (.cells #[.slice (some ⟨g, 0, none⟩) 2352 cap] 123))
  have X6' := X6.alloc (.cells #[.slice (some ⟨g, 0, none⟩) 2352 cap] 123)
  have hB0 := hb2'.alloc hb2'.size (.cells #[.slice (some ⟨g, 0, none⟩) 2352 cap] 123)
  rw [← hb8] at X8
  obtain ⟨W0, hW0⟩ : ∃ W0, W0 = w2.alloc (.cells #[.slice (some ⟨g, 0, none⟩) 2352 cap] 123) := ⟨_, rfl⟩
  have hs0 : W0.heap.size = b8 + 1 := by rw [hW0, hb8]; simp
  have hord : b6 < g ∧ g < b8 := by omega
  rw [← hW0] at hR X6' X8 hB0
  simp only [← hb6, ← hb8, ← hW0]
  have HORD := Lib.hid hord
  have hwle : w.heap.size ≤ W0.heap.size := hB0.size
  have hbg : w.heap.size ≤ g ∧ w.heap.size ≤ b8 := by omega
  have HS0 := Lib.hid hs0
  clear X6 hr2 hb2' hlt2 hcap hord hb6 hb8 hg hW0 hs0
  have hseq := words_gives 4 (by omega) W0
  refine wpIn_range_gives1 (n := 5) rfl (by omega) (gf := 122) (lb := #[]) rfl trivial (enters_of Tryz.func122 (by kernel_rfl) rfl) hseq rfl
    (fun k W => (Row W 5 g cap (encN raw f k) ∧ Bx W b6 3 [.int .i64 f] ∧ Bx W b8 123 [.slice (some ⟨g, 0, none⟩) 2352 cap]) ∧ Below w.heap.size w W)
    (fun _ _ => False)
    (fun v => { tmps := #[.string (str raw), .int .i64 m, undef, undef, .string ⟨#[]⟩, .int .i64 0, .pointer (some ⟨b6, 0, none⟩), .bool true, .pointer (some ⟨b8, 0, none⟩), v, undef, undef, undef, .tuple #[.int .i64 f, .bool true], .int .i64 m, .tuple #[.int .i64 f, .bool true], .int .i64 f, .bool true, .bool true, .bool false, .bool false, .string (str raw), .int .i64 2352, .bool false, .bool false, .string (str raw), .slice (some ⟨g, 0, none⟩) 2352 cap, .func (.func 122) #[] #[], v, undef, undef, undef, undef, undef, undef, undef, undef, undef, undef, undef, undef, undef, undef, undef, undef, undef, undef, undef, undef], defers := [] })
    (fun k => ((stays_row _ _ _ _ _).and ((stays_bx _ _ _ _).and (stays_bx _ _ _ _))).and (stays_below (Nat.le_refl _) hwle))
    (fun c => Stays.const _ _)
    (fun k v => GW.stays _ _ _ _) ⟨⟨hR, X6', X8⟩, hB0⟩ ?assign ?body ?done ?stop
  case assign =>
    intro l v W K _ hK
    gi_wp2
    exact hK
  case body =>
    rintro l k v W1 hk ⟨⟨hr, x6, x8⟩, hb⟩ hg
    clear hR X6' X8 hB0 hseq
    have hwb := wd_bd hk
    have hwl := wd_length k
    have hlen : (wd k).length ≤ 45 := by rw [hwl]; split <;> omega
    have hlen2 : 26 ≤ (wd k).length := by rw [hwl]; split <;> omega
    have hel := encN_length raw f k
    rw [HL.out] at hel
    have hep := encN_put raw f k hk hf16
    obtain ⟨g1, c1, rfl, _⟩ := own_int hg (by omega)
    have hri := rdI_own (w := W1) hg rfl (by omega) (fun x hx => by have := hwb x hx; omega)
    have hs0 := HS0.out
    have hoff := offI_own (g := g) (w := W1) hg (by have := HORD.out; omega) rfl (by omega) (fun x hx => by have := hwb x hx; omega)
    obtain ⟨v2, hv2, hcut⟩ := run_cutI (P := Tryz.prog) Tryz.underlying53 Tryz.sizeInt hri ((wd k).length - 2) (by omega)
    have hrd := hr.rd (by omega)
    rw [hel] at hrd
    obtain ⟨n, hn⟩ : ∃ n, n = (wd k).length := ⟨_, rfl⟩
    have HT : Hid (∀ W, Below W1.heap.size W1 W → Calls Tryz.prog 147 #[.slice (some ⟨g, 0, none⟩) 2352 cap, v2, .int .i64 f] W fun e W' => e = .returned (.string (str (takeL (encN raw f k) ((wd k).take ((wd k).length - 2)) f))) ∧ Below W.heap.size W W') := Lib.hid fun W hW =>
      take_any _ (encN raw f k) v2 _ f W (hrd.keep hW) (hv2 W (hri.keep hW)) (by rw [List.length_take]; omega) (fun x hx => by have := hwb x (List.mem_of_mem_take hx); rw [hel]; omega)
    have HE : Hid (∀ W, Calls Tryz.prog 85 #[.string (str (takeL (encN raw f k) ((wd k).take ((wd k).length - 2)) f)), .int .i64 2] W fun e W' => e = .returned (.tuple #[.string (str (cwd (encN raw f k) (wd k) f)), .int .i64 0]) ∧ Below W.heap.size W W') := Lib.hid fun W =>
      encode_ok _ 2 W (fun e => by have := congrArg List.length e; rw [takeL_length, List.length_take] at this; simp at this; omega) (by omega) (by omega) (by rw [takeL_length, List.length_take]; omega)
    have HP : Hid (∀ W, Below W1.heap.size W1 W → Calls Tryz.prog 148 #[.slice (some ⟨g, 0, none⟩) 2352 cap, .slice (some ⟨g1, 0, none⟩) (wd k).length c1, .int .i64 f, .string (str (cwd (encN raw f k) (wd k) f))] W (PutP 5 g cap (encN raw f k) (wd k) f (cwd (encN raw f k) (wd k) f) W)) := Lib.hid fun W hW =>
      put_any g 2352 cap (encN raw f k) _ (wd k) f _ W hel.symm (hr.below hW) (fun W' hW' => hoff W' fun j hj hjg => (hW' j (Nat.lt_of_lt_of_le hj hW.size) hjg).trans (hW.block j hj)) (by omega) (fun x hx => by have := hwb x hx; rw [hel]; omega) (by rw [cwd_length _ _ _ (by omega)]; exact Nat.le_refl _)
    have HPut : Hid (∀ e W W', PutP 5 g cap (encN raw f k) (wd k) f (cwd (encN raw f k) (wd k) f) W e W' → (∃ b, e = .returned (.bool b)) ∧ Row W' 5 g cap (encN raw f (k + 1)) ∧ W.grownBy W' (some g)) := Lib.hid fun e W W' ⟨h1, h2, h3⟩ => ⟨⟨_, h1⟩, by rw [← hep]; exact h2, h3⟩
    have HX := Lib.hid (And.intro hr (And.intro x6 x8))
    have HB := Lib.hid hb
    rw [← hn] at HT HE HP hcut
    have hcut' : ∀ w', (Instr.slice 53 (.slice (some ⟨g1, 0, none⟩) n c1) none (some (.int .i64 ((n : Int) - 2))) none).run Tryz.prog w' = .ok v2 w' := fun w' => hcut _ w' (by omega)
    have HCut := Lib.hid hcut'
    have hn26 : (26 : Int) ≤ n ∧ (n : Int) ≤ 45 := by omega
    generalize str (takeL (encN raw f k) ((wd k).take (n - 2)) f) = S at HT HE
    generalize str (cwd (encN raw f k) (wd k) f) = S2 at HE HP
    have HN := Lib.hid hn
    rw [← hn]
    clear hn hs0 hcut hcut' hri hoff hrd hv2 hg hr x6 x8 hb hel hep hwb hwl hlen hlen2
    gi_wp2
    refine wpIn_region_inr (by rintro ⟨_, _, h⟩; exact h) (by kernel_rfl) (by kernel_rfl) (fun w W => Below w.heap.size w W) (fun W => Below W1.heap.size W1 W) (enc7V g cap n g1 c1 f v2 S) (fun _ => false) (by kernel_rfl) (fun W W' hb h => h.trans (hb.mono h.size)) (enc7V_keep g cap n g1 c1 f v2 S) ((Below.refl _ _).drew) ⟨?_, ?_, ?_, ?_, ?_, ?_, ?_, ?_, ?_, trivial⟩ ?_
    · intro a W hc hsz hold hdep
      have o8 : a.tmps.getD 8 undef = .pointer (some ⟨b8, 0, none⟩) := hold 8 (by kernel_rfl)
      have q := (HX.out.2.2.call hc).cell (i := 0) rfl
      clear hsz hold hdep
      refine stepR_do rfl (wanted_none rfl) ?_
      refine stepR_val (v := .slice (some ⟨g, 0, none⟩) 2352 cap) (Below.refl _ _) rfl fun K hK => ?_
      go_simp
      exact hK
    · intro a W hc hsz hold hdep
      have o9 : a.tmps.getD 9 undef = .slice (some ⟨g1, 0, none⟩) n c1 := hold 9 (by kernel_rfl)
      clear hsz hold hdep
      refine stepR_do rfl (wanted_none rfl) ?_
      refine stepR_val (v := .slice (some ⟨g1, 0, none⟩) n c1) (Below.refl _ _) rfl fun K hK => ?_
      go_simp
      exact hK
    · intro a W hc hsz hold hdep
      have o9 : a.tmps.getD 9 undef = .slice (some ⟨g1, 0, none⟩) n c1 := hold 9 (by kernel_rfl)
      clear hsz hold hdep
      refine stepR_do rfl (wanted_none rfl) ?_
      refine stepR_val (v := .slice (some ⟨g1, 0, none⟩) n c1) (Below.refl _ _) rfl fun K hK => ?_
      go_simp
      exact hK
    · intro a W hc hsz hold hdep
      have d2 : a.tmps.getD 31 undef = .slice (some ⟨g1, 0, none⟩) n c1 := hdep 2 (by kernel_rfl) rfl _ rfl
      have e2 : a.tmps[31]?.getD undef = .slice (some ⟨g1, 0, none⟩) n c1 := by rw [← Array.getD_eq_getD_getElem?]; exact d2
      clear hsz hold hdep
      refine stepR_do rfl (wanted_none rfl) ?_
      refine stepR_val (v := .int .i64 (n : Int)) (Below.refl _ _) rfl fun K hK => ?_
      go_simp
      exact hK
    · intro a W hc hsz hold hdep
      have d3 : a.tmps.getD 32 undef = .int .i64 (n : Int) := hdep 3 (by kernel_rfl) rfl _ rfl
      have hn2 := hn26
      have hw2 : IntKind.i64.wrap ((n : Int) - 2) = (n : Int) - 2 := IntWalk.i64_in _ (by omega)
      clear hsz hold hdep
      refine stepR_do rfl (wanted_none rfl) ?_
      refine stepR_val (v := .int .i64 ((n : Int) - 2)) (Below.refl _ _) rfl fun K hK => ?_
      go_simp
      exact hK
    · intro a W hc hsz hold hdep
      have d1 : a.tmps.getD 30 undef = .slice (some ⟨g1, 0, none⟩) n c1 := hdep 1 (by kernel_rfl) rfl _ rfl
      have d4 : a.tmps.getD 33 undef = .int .i64 ((n : Int) - 2) := hdep 4 (by kernel_rfl) rfl _ rfl
      have hcut := HCut.out
      clear hsz hold hdep
      refine stepR_do rfl (wanted_none rfl) ?_
      refine stepR_val (v := v2) (Below.refl _ _) rfl fun K hK => ?_
      go_simp
      exact hK
    · intro a W hc hsz hold hdep
      have o6 : a.tmps.getD 6 undef = .pointer (some ⟨b6, 0, none⟩) := hold 6 (by kernel_rfl)
      have q := (HX.out.2.1.call hc).cell (i := 0) rfl
      clear hsz hold hdep
      refine stepR_do rfl (wanted_none rfl) ?_
      refine stepR_val (v := .int .i64 f) (Below.refl _ _) rfl fun K hK => ?_
      go_simp
      exact hK
    · intro a W hc hsz hold hdep
      have d0 : a.tmps.getD 29 undef = .slice (some ⟨g, 0, none⟩) 2352 cap := hdep 0 (by kernel_rfl) rfl _ rfl
      have e0 : a.tmps[29]?.getD undef = .slice (some ⟨g, 0, none⟩) 2352 cap := by rw [← Array.getD_eq_getD_getElem?]; exact d0
      have d5 : a.tmps.getD 34 undef = v2 := hdep 5 (by kernel_rfl) rfl _ rfl
      have e5 : a.tmps[34]?.getD undef = v2 := by rw [← Array.getD_eq_getD_getElem?]; exact d5
      have d6 : a.tmps.getD 35 undef = .int .i64 f := hdep 6 (by kernel_rfl) rfl _ rfl
      have e6 : a.tmps[35]?.getD undef = .int .i64 f := by rw [← Array.getD_eq_getD_getElem?]; exact d6
      clear hsz hold hdep
      refine stepR_do rfl (wanted_none rfl) ?_
      refine stepR_call (v := .string S) (fun W' hb => hb) (fun _ => rfl) fun K hK => ?_
      go_simp
      refine (HT.out W hc).mono ?_
      rintro e w' ⟨rfl, hb'⟩
      exact hK _ hb'
    · intro a W hc hsz hold hdep
      have d7 : a.tmps.getD 36 undef = .string S := hdep 7 (by kernel_rfl) rfl _ rfl
      clear hsz hold hdep
      refine stepR_do rfl (wanted_none rfl) ?_
      refine stepR_val (v := .string S) (Below.refl _ _) rfl fun K hK => ?_
      go_simp
      exact hK
    · intro a W hC hd hsz hold hval
      have d10 : a.tmps.getD 10 undef = .string S := hval 8 _ rfl rfl
      have d9 : a.tmps.getD 9 undef = .slice (some ⟨g1, 0, none⟩) n c1 := hold 9 (by kernel_rfl)
      have d8 : a.tmps.getD 8 undef = .pointer (some ⟨b8, 0, none⟩) := hold 8 (by kernel_rfl)
      have d6 : a.tmps.getD 6 undef = .pointer (some ⟨b6, 0, none⟩) := hold 6 (by kernel_rfl)
      clear hold
      obtain ⟨tm, df⟩ := a
      replace hd : df = [] := hd
      replace hsz : tm.size = 49 := hsz
      replace d10 : tm.getD 10 undef = .string S := d10
      replace d9 : tm.getD 9 undef = .slice (some ⟨g1, 0, none⟩) n c1 := d9
      replace d8 : tm.getD 8 undef = .pointer (some ⟨b8, 0, none⟩) := d8
      replace d6 : tm.getD 6 undef = .pointer (some ⟨b6, 0, none⟩) := d6
      subst hd
      have e : tm = List.toArray (tm.getD 0 undef :: tm.getD 1 undef :: tm.getD 2 undef :: tm.getD 3 undef :: tm.getD 4 undef :: tm.getD 5 undef :: tm.getD 6 undef :: tm.getD 7 undef :: tm.getD 8 undef :: tm.getD 9 undef :: tm.getD 10 undef :: tm.getD 11 undef :: tm.getD 12 undef :: tm.getD 13 undef :: tm.getD 14 undef :: tm.getD 15 undef :: tm.getD 16 undef :: tm.getD 17 undef :: tm.getD 18 undef :: tm.getD 19 undef :: tm.getD 20 undef :: tm.getD 21 undef :: tm.getD 22 undef :: tm.getD 23 undef :: tm.getD 24 undef :: tm.getD 25 undef :: tm.getD 26 undef :: tm.getD 27 undef :: tm.getD 28 undef :: tm.getD 29 undef :: tm.getD 30 undef :: tm.getD 31 undef :: tm.getD 32 undef :: tm.getD 33 undef :: tm.getD 34 undef :: tm.getD 35 undef :: tm.getD 36 undef :: tm.getD 37 undef :: tm.getD 38 undef :: tm.getD 39 undef :: tm.getD 40 undef :: tm.getD 41 undef :: tm.getD 42 undef :: tm.getD 43 undef :: tm.getD 44 undef :: tm.getD 45 undef :: tm.getD 46 undef :: tm.getD 47 undef :: tm.getD 48 undef :: []) := arr_eq tm 49 hsz
      rw [d10, d9, d8, d6] at e
      clear d10 d9 d8 d6 hsz
      generalize tm.getD 0 undef = v0 at e
      generalize tm.getD 1 undef = v1 at e
      generalize tm.getD 2 undef = v2 at e
      generalize tm.getD 3 undef = v3 at e
      generalize tm.getD 4 undef = v4 at e
      generalize tm.getD 5 undef = v5 at e
      generalize tm.getD 7 undef = v7 at e
      generalize tm.getD 11 undef = v11 at e
      generalize tm.getD 12 undef = v12 at e
      generalize tm.getD 13 undef = v13 at e
      generalize tm.getD 14 undef = v14 at e
      generalize tm.getD 15 undef = v15 at e
      generalize tm.getD 16 undef = v16 at e
      generalize tm.getD 17 undef = v17 at e
      generalize tm.getD 18 undef = v18 at e
      generalize tm.getD 19 undef = v19 at e
      generalize tm.getD 20 undef = v20 at e
      generalize tm.getD 21 undef = v21 at e
      generalize tm.getD 22 undef = v22 at e
      generalize tm.getD 23 undef = v23 at e
      generalize tm.getD 24 undef = v24 at e
      generalize tm.getD 25 undef = v25 at e
      generalize tm.getD 26 undef = v26 at e
      generalize tm.getD 27 undef = v27 at e
      generalize tm.getD 28 undef = v28 at e
      generalize tm.getD 29 undef = v29 at e
      generalize tm.getD 30 undef = v30 at e
      generalize tm.getD 31 undef = v31 at e
      generalize tm.getD 32 undef = v32 at e
      generalize tm.getD 33 undef = v33 at e
      generalize tm.getD 34 undef = v34 at e
      generalize tm.getD 35 undef = v35 at e
      generalize tm.getD 36 undef = v36 at e
      generalize tm.getD 37 undef = v37 at e
      generalize tm.getD 38 undef = v38 at e
      generalize tm.getD 39 undef = v39 at e
      generalize tm.getD 40 undef = v40 at e
      generalize tm.getD 41 undef = v41 at e
      generalize tm.getD 42 undef = v42 at e
      generalize tm.getD 43 undef = v43 at e
      generalize tm.getD 44 undef = v44 at e
      generalize tm.getD 45 undef = v45 at e
      generalize tm.getD 46 undef = v46 at e
      generalize tm.getD 47 undef = v47 at e
      generalize tm.getD 48 undef = v48 at e
      subst e
      gi_wp2_with (first | (refine ⟨trivial, ?_⟩; gi_at_call 85; refine (CallsIn.inRound l (callsIn_wide.2 (HE.out _))).mono ?_; rintro e W2 ⟨rfl, hb2⟩; have hc2 := hC.trans (hb2.mono hC.size); have q6 := (HX.out.2.1.call hc2).cell (i := 0) rfl; have q8 := (HX.out.2.2.call hc2).cell (i := 0) rfl) | (refine ⟨trivial, ?_⟩; gi_at_call 148; refine (CallsIn.inRound l (callsIn_wide.2 (HP.out _ hc2))).mono ?_; rintro e W3 hp; obtain ⟨⟨bb, rfl⟩, hr3, hg3⟩ := HPut.out _ _ _ hp; clear hp))
      have hB2 := HB.out.trans (hc2.mono HB.out.size)
      refine ⟨(kf_below hc2).trans (KeepsFrom.of_grownBy hg3 (fun j e => by cases e; have := HORD.out; have := HS0.out; omega)), ⟨hr3, ?_, ?_⟩, hB2.grown hg3 hB2.size (fun j e => by cases e; exact hbg.1)⟩
      · exact (hg3.block _ (HX.out.2.1.call hc2).lt (fun e => by have := HORD.out; cases e; omega)).trans (HX.out.2.1.call hc2)
      · exact (hg3.block _ (HX.out.2.2.call hc2).lt (fun e => by have := HORD.out; cases e; omega)).trans (HX.out.2.2.call hc2)
  case done =>
    rintro D W hD ⟨⟨hr, _, x8⟩, hb⟩ hK
    clear hR X6' X8 hB0 hseq
    have hel := encN_length raw f 138
    rw [HL.out] at hel
    have q8 := x8.cell (i := 0) rfl
    have hrd := hr.rd (by omega)
    rw [hel] at hrd
    have hcx := run_str (P := Tryz.prog) Tryz.underlying123 Tryz.underlying5 Tryz.underlying9 hrd
    clear hrd hel hr x8
    gi_wp2
    refine ⟨by simp, .inl ⟨_, _, rfl, run_takeDeferred hK, ?_⟩⟩
    exact ⟨_, results_tmp2 rfl _ _ _, rfl, hb.trans (belowK_b (w := w) (Nat.le_refl _) _ D _ _ (by omega) hK rfl rfl)⟩
  case stop =>
    rintro D c W _ h _
    exact h.elim
end Go.Proofs.YtflmjdjkfognjaaGreat.W8
namespace Go.Proofs.YtflmjdjkfognjaaGreat.W8
open Go.RowKit Go.Shelf
set_option linter.unusedVariables false
theorem own_other {w w' : World} {b e sz n : Nat} {v : Value} {xs : List Value} {r : Option Nat} (h : w.ownsRow b e sz v n xs) (hg : w.grownBy w' r) (hr : ∀ k, v.ownBlock = some k → some k ≠ r) : w'.ownsRow b e sz v n xs := by
  refine ⟨h.1, ?_⟩
  rcases h.2 with h | ⟨g, cap, cur, rfl, hb, hh, rest⟩
  · exact .inl h
  · exact .inr ⟨g, cap, cur, rfl, hb, (hg.block g (Array.getElem?_eq_some_iff.1 hh).1 (hr g rfl)).trans hh, rest⟩
def fitB (raw : List UInt8) (m : Int) : Bool := decide (raw.length = 2352) && fstB m
def Lst (B : Nat) (W : World) (vs : List Value) (k : Nat) : Prop := vs.length = k ∧ ∀ j v, vs[j]? = some v → W.ownsRow B 3 1 v (wd j).length (is (wd j))
theorem Lst.keep {B : Nat} {W W' : World} {vs : List Value} {k : Nat} (h : Lst B W vs k) (hb : Below W.heap.size W W') : Lst B W' vs k := ⟨h.1, fun j v hv => own_keep' (h.2 j v hv) hb⟩
theorem Lst.one {B : Nat} {W : World} {vs : List Value} {k : Nat} (h : Lst B W vs k) : ∀ u ∈ vs, u.oneCell' = true := fun u hu => by
  obtain ⟨j, hj, rfl⟩ := List.getElem_of_mem hu
  obtain ⟨a, c, _, e, _⟩ := own_form (h.2 j _ (List.getElem?_eq_getElem hj))
  rw [e]; rfl
end Go.Proofs.YtflmjdjkfognjaaGreat.W8
namespace Go.Proofs.YtflmjdjkfognjaaGreat.W8
open Go.RowKit Go.Shelf
set_option linter.unusedVariables false
def enc8 (raw : List UInt8) (m : Int) : List UInt8 × Int := if fitB raw m = true then (encN raw (fstI m) 138, 0) else ([], 1)
end Go.Proofs.YtflmjdjkfognjaaGreat.W8
