/- Chapter 8: sound and Valid of the package walked. -/
import Derived.Outline
import Derived.Test.YtepdcpbgdfjobaaWs
import Derived.Test.YtepdcpbgdfjobaaRsW
namespace Go.Proofs.Ytepdcpbgdfjobaa.W8
open Go.RowKit Go.Shelf
set_option linter.unusedVariables false
attribute [local go_sem] Oper.semAt_some

/-- the first 'k' words are codewords -/
def soundN (raw : List UInt8) (f : Int) : Nat → Bool
  | 0 => true
  | k + 1 => soundN raw f k && G.validB (takeL raw (wd k) f) 2
def soundB (raw : List UInt8) (f : Int) : Bool := soundN raw f 138
theorem soundN_false {raw : List UInt8} {f : Int} {k : Nat} (h : G.validB (takeL raw (wd k) f) 2 = false) : ∀ n, k < n → soundN raw f n = false
  | 0, hk => by omega
  | n + 1, hk => by
    unfold soundN
    by_cases e : k = n
    · subst e; rw [h, Bool.and_false]
    · rw [soundN_false h n (by omega), Bool.false_and]

theorem words_in (n : Nat) (w : World) : CallsIn Fence.wide n Try.prog 34 #[] w fun e w' => e = .returned (.func (.func 60) #[] #[]) ∧ w = w' := by
  refine callsIn_of_wp Try.func34 rfl trivial ?_ rfl
  simp only [Try.ntmps34, List.size_toArray, List.length_nil, Nat.reduceSub, Array.replicate_succ, Array.replicate_zero, List.push_toArray, List.append_toArray, List.nil_append]
  gi_wp2
  go_ret
  exact ⟨rfl, rfl⟩

set_option maxRecDepth 100000 in
set_option maxHeartbeats 2000000 in
theorem sound_any (rv : Value) (raw : List UInt8) (f : Int) (w : World) (hr : Rd w rv raw) (hl : raw.length = 2352) :
    Calls Try.prog 42 #[rv, .int .i64 f] w fun e w' => e = .returned (.bool (soundB raw f)) ∧ Below w.heap.size w w' := by
  have HL := Lib.hid hl
  obtain ⟨ra, rc, rfl⟩ := hr.form
  rw [hl] at hr ⊢
  have HR := Lib.hid hr
  clear hl hr
  refine (callsIn_wide (n := 5)).1 ?_
  refine callsIn_of_wp_marks Try.func42 rfl trivial ?_ rfl
  simp only [Try.ntmps42, List.size_toArray, List.length_cons, List.length_nil, Nat.reduceAdd, Nat.reduceSub, Array.replicate_succ, Array.replicate_zero, List.push_toArray, List.append_toArray, List.nil_append, List.cons_append]
  gi_wp2_with (refine ⟨trivial, ?_⟩; gi_at_call 34; refine (words_in 4 _).mono ?_; rintro e w' ⟨rfl, rfl⟩)
  have X0 := ((Bx.new w 43 [.slice ra 2352 rc]).alloc (.cells #[.int .i64 f] 3)).alloc (.cells #[.bool false] 4)
  have X1 := (Bx.new (w.alloc (.cells #[.slice ra 2352 rc] 43)) 3 [.int .i64 f]).alloc (.cells #[.bool false] 4)
  have X2 := Bx.new ((w.alloc (.cells #[.slice ra 2352 rc] 43)).alloc (.cells #[.int .i64 f] 3)) 4 [.bool false]
  have hB : Below w.heap.size w (((w.alloc (.cells #[.slice ra 2352 rc] 43)).alloc (.cells #[.int .i64 f] 3)).alloc (.cells #[.bool false] 4)) := (((Below.refl _ w).alloc (Nat.le_refl _) _).alloc (by simp) _).alloc (by simp; omega) _
  simp only [World.size_alloc] at X1 X2
  obtain ⟨B, hBs⟩ : ∃ B, B = (((w.alloc (.cells #[.slice ra 2352 rc] 43)).alloc (.cells #[.int .i64 f] 3)).alloc (.cells #[.bool false] 4)).heap.size := ⟨_, rfl⟩
  have hB3 : B = w.heap.size + 1 + 1 + 1 := by rw [hBs]; simp
  have hseq := words_gives 4 (by omega) (((w.alloc (.cells #[.slice ra 2352 rc] 43)).alloc (.cells #[.int .i64 f] 3)).alloc (.cells #[.bool false] 4))
  rw [← hBs] at hseq
  refine wpIn_range_gives1 (n := 5) rfl (by omega) (gf := 60) (lb := #[]) rfl trivial (enters_of Try.func60 (by kernel_rfl) rfl) hseq rfl
    (fun k W => ((soundN raw f k = true) ∧ Bx W w.heap.size 43 [.slice ra 2352 rc] ∧ Bx W (w.heap.size + 1) 3 [.int .i64 f] ∧ Bx W (w.heap.size + 1 + 1) 4 [.bool false]) ∧ Below w.heap.size w W)
    (fun c W => ((c = .ret ∧ soundB raw f = false) ∧ Bx W (w.heap.size + 1 + 1) 4 [.bool false]) ∧ Below w.heap.size w W)
    (fun v => { tmps := #[.slice ra 2352 rc, .int .i64 f, .pointer (some ⟨w.heap.size, 0, none⟩), .pointer (some ⟨w.heap.size + 1, 0, none⟩), .pointer (some ⟨w.heap.size + 1 + 1, 0, none⟩), v, .func (.func 60) #[] #[], v, undef, undef, undef, undef, undef, undef], defers := [] })
    (fun k => ((Stays.const _ _).and ((stays_bx _ _ _ _).and ((stays_bx _ _ _ _).and (stays_bx _ _ _ _)))).and (stays_below (Nat.le_refl _) (by simp; omega)))
    (fun c => ((Stays.const _ _).and (stays_bx _ _ _ _)).and (stays_below (Nat.le_refl _) (by simp; omega)))
    (fun k v => GW.stays _ _ _ _) ⟨⟨rfl, X0, X1, X2⟩, hB⟩ ?assign ?body ?done ?stop
  case assign =>
    intro l v W K _ hK
    gi_wp2
    exact hK
  case body =>
    rw [← hBs]
    rintro l k v W hk ⟨⟨hsn, x0, x1, x2⟩, hb⟩ hg
    clear X0 X1 X2 hB hseq hBs
    have hwb := wd_bd hk
    have hwl := wd_length k
    have hlen : (wd k).length ≤ 45 := by rw [hwl]; split <;> omega
    have hlen2 : 26 ≤ (wd k).length := by rw [hwl]; split <;> omega
    have hri := rdI_own (w := W) hg rfl (by omega) (fun x hx => by have := hwb x hx; omega)
    have hra := HR.out.keep hb
    have HT := Lib.hid (take_any _ raw v (wd k) f W hra hri (by omega) (fun x hx => by have := hwb x hx; have := HL.out; omega))
    have HV := Lib.hid (fun W => valid_any (takeL raw (wd k) f) 2 W (by rw [takeL_length]; omega))
    have hS : soundN raw f (k + 1) = (soundN raw f k && G.validB (takeL raw (wd k) f) 2) := rfl
    rw [hsn, Bool.true_and] at hS
    have hF : G.validB (takeL raw (wd k) f) 2 = false → soundB raw f = false := fun h => soundN_false h 138 hk
    generalize G.validB (takeL raw (wd k) f) 2 = bb at *
    have HS := Lib.hid hS
    have c0 := x0.cell (i := 0) rfl
    have c1 := x1.cell (i := 0) rfl
    clear hS hsn hwl hwb hri hra hg
    have HB := Lib.hid hb
    have HX := Lib.hid (And.intro x0 (And.intro x1 x2))
    have h32 : 1 ≤ 5 - 1 - 1 := by omega
    clear hb x0 x1 x2
    cases bb with
    | false =>
      have HF := Lib.hid (hF rfl)
      clear hF
      gi_wp2_with (first | (refine ⟨trivial, ?_⟩; gi_at_call 35; refine (CallsIn.inRound l (callsIn_wide.2 HT.out)).mono ?_; rintro e W2 ⟨rfl, hb2⟩) | (refine ⟨trivial, ?_⟩; gi_at_call 65; refine (CallsIn.inRound l (callsIn_wide.2 (HV.out _))).mono ?_; rintro e W3 ⟨rfl, hb3⟩; have hb4 := hb2.trans (hb3.mono hb2.size); have x2' := HX.out.2.2.call hb4; have c3 := x2'.cell (i := 0) rfl; have f3 := x2'.free 0; clear x2'))
      exact ⟨(kf_below hb4).trans (kf_set _ _ _ _), ⟨⟨rfl, HF.out⟩, (HX.out.2.2.call hb4).set 0 (.bool false)⟩, (HB.out.trans (hb4.mono HB.out.size)).setCell (p := ⟨w.heap.size + 1 + 1, 0, none⟩) (by simp; omega) _⟩
    | true =>
      clear hF
      gi_wp2_with (first | (refine ⟨trivial, ?_⟩; gi_at_call 35; refine (CallsIn.inRound l (callsIn_wide.2 HT.out)).mono ?_; rintro e W2 ⟨rfl, hb2⟩) | (refine ⟨trivial, ?_⟩; gi_at_call 65; refine (CallsIn.inRound l (callsIn_wide.2 (HV.out _))).mono ?_; rintro e W3 ⟨rfl, hb3⟩; have hb4 := hb2.trans (hb3.mono hb2.size); have x2' := HX.out.2.2.call hb4; have c3 := x2'.cell (i := 0) rfl; have f3 := x2'.free 0; clear x2'))
      exact ⟨kf_below hb4, ⟨HS.out, HX.out.1.call hb4, HX.out.2.1.call hb4, HX.out.2.2.call hb4⟩, HB.out.trans (hb4.mono HB.out.size)⟩
  case done =>
    rintro D W hD ⟨⟨hsn, _, _, hx⟩, hb⟩ hK
    rw [← hBs] at hD
    have HSN : Hid (soundB raw f = true) := Lib.hid hsn
    clear X0 X1 X2 hB hseq hBs hsn
    have c3 := hx.cell (i := 0) rfl
    have f3 := hx.free 0
    have hK' := (KeepsOthers.setCell W ⟨w.heap.size + 1 + 1, 0, none⟩ (.bool true)).same D _ hK rfl
    have hx' := hx.set 0 (.bool true)
    have hb' := hb.setCell (p := ⟨w.heap.size + 1 + 1, 0, none⟩) (by simp; omega) (.bool true)
    gi_wp2
    refine ⟨by simp, .inl ⟨_, _, rfl, run_takeDeferred hK', ?_⟩⟩
    have hc := ((stays_bx (w.heap.size + 1 + 1) _ _ _).putObj (.deferred none) hx' (by omega) hK' rfl).cell (i := 0) rfl
    rw [HSN.out]
    exact ⟨.bool true, by simp [results, Try.results42, go_sem, hc], rfl, hb'.trans (belowK_b (w := w) (Nat.le_refl _) _ D _ _ (by omega) hK' rfl rfl)⟩
  case stop =>
    rintro D c W hD ⟨⟨⟨rfl, hsn⟩, hx⟩, hb⟩ hK
    rw [← hBs] at hD
    have HSN : Hid (soundB raw f = false) := Lib.hid hsn
    clear X0 X1 X2 hB hseq hBs hsn
    gi_wp2
    refine ⟨by simp, .inl ⟨_, _, rfl, run_takeDeferred hK, ?_⟩⟩
    have hc := ((stays_bx (w.heap.size + 1 + 1) _ _ _).putObj (.deferred none) hx (by omega) hK rfl).cell (i := 0) rfl
    rw [HSN.out]
    exact ⟨.bool false, by simp [results, Try.results42, go_sem, hc], rfl, hb.trans (belowK_b (w := w) (Nat.le_refl _) _ D _ _ (by omega) hK rfl rfl)⟩

def fstI (m : Int) : Int := if m = 0 then 12 else if m = 1 then 16 else 0
def fstB (m : Int) : Bool := decide (m = 0) || decide (m = 1)
theorem first_any (m : Int) (w : World) : Calls Try.prog 33 #[.int .i64 m] w fun e w' => e = .returned (.tuple #[.int .i64 (fstI m), .bool (fstB m)]) ∧ w = w' := by
  by_cases h0 : m = 0
  · subst h0
    go_enter Try.func33, Try.ntmps33
    go_wp2_with fail
    go_ret2
    exact ⟨rfl, rfl⟩
  · by_cases h1 : m = 1
    · subst h1
      go_enter Try.func33, Try.ntmps33
      go_wp2_with fail
      go_ret2
      exact ⟨rfl, rfl⟩
    · have e1 : fstI m = 0 := by simp [fstI, h0, h1]
      have e2 : fstB m = false := by simp [fstB, h0, h1]
      rw [e1, e2]
      have hb0 : (m == 0) = false := by simpa using h0
      have hb1 : (m == 1) = false := by simpa using h1
      have H0 := Lib.hid h0; have H1 := Lib.hid h1
      clear e1 e2 h0 h1
      go_enter Try.func33, Try.ntmps33
      go_wp2_with fail
      go_ret2
      exact ⟨rfl, rfl⟩

/-- whether the bytes are a codeword of a sector of the mode -/
def vldB (raw : List UInt8) (m : Int) : Bool := fstB m && (decide (raw.length = 2352) && soundB raw (fstI m))
/-- '[]byte(s)' as an equation -/
theorem run_bytes {P : Program} (w : World) {src dst e : TypeId} (hs : P.underlying src = some .string) (hd : P.underlying dst = some (.slice e)) (he : P.underlying e = some (.int .u8)) (l : List UInt8) (n : Nat) (hn : l.length = n) :
    ∃ w' cap, (convert src dst (.string (str l))).run P w = .ok (.slice (some ⟨w.heap.size, 0, none⟩) n cap) w' ∧ Row w' e w.heap.size cap l ∧ Below w.heap.size w w' ∧ n ≤ cap := by
  subst hn
  have hsz := str_size l
  refine ⟨_, _, by rw [Lib.run_convert_string_bytes (P := P) w src dst e (str l) hs hd he, hsz], ?_, ?_, ?_⟩
  · refine ⟨Lib.bytesCells w e (str l), _, Lib.bytesWorld_at_new w e (str l), .inr (Nat.le_refl _), ?_, by rw [size_bytesCells w e (str l), hsz], ?_⟩
    · have := grownCap_ge w l.length 0 e
      simpa using this
    · have hl : (str l).data.toList.length = l.length := rfl
      unfold Lib.bytesCells
      rw [Array.toList_append, List.take_append_of_le_length (by simp [← hl]), List.take_of_length_le (by simp [← hl])]
      simp [bs, str]
  · exact ⟨rfl, rfl, rfl, by rw [Lib.bytesWorld_size]; omega, fun k hk => Lib.bytesWorld_at_old w e (str l) k hk⟩
  · have := grownCap_ge w l.length 0 e
    simpa using this

set_option maxRecDepth 100000 in
set_option maxHeartbeats 1000000 in
theorem valid8_any (raw : List UInt8) (m : Int) (w : World) (hl : raw.length ≤ 9223372036854775807) :
    Calls Try.prog 19 #[.string (str raw), .int .i64 m] w fun e w' => e = .returned (.bool (vldB raw m)) ∧ Below w.heap.size w w' := by
  have hs := str_size raw
  have HF := Lib.hid (fun W => first_any m W)
  cases hb : fstB m with
  | false =>
    have e1 : vldB raw m = false := by simp [vldB, hb]
    rw [e1]
    rw [hb] at HF
    clear e1 hb hs hl
    go_enter Try.func19, Try.ntmps19
    go_wp2_with (refine (HF.out _).mono ?_; rintro e w' ⟨rfl, rfl⟩)
    go_ret
    exact ⟨rfl, Below.refl _ _⟩
  | true =>
    rw [hb] at HF
    by_cases hn : raw.length = 2352
    · have e1 : vldB raw m = soundB raw (fstI m) := by simp [vldB, hb, hn]
      rw [e1]
      rw [hn] at hs
      have HN := Lib.hid hn
      generalize fstI m = f at *
      clear e1 hb hl
      obtain ⟨w2, cap, hrun, hr2, hb2, hcap⟩ := run_bytes (P := Try.prog) w Try.underlying9 Try.underlying43 Try.underlying5 raw 2352 hn
      have hrd := hr2.rd (by omega)
      rw [hn] at hrd
      clear hn hr2
      go_enter Try.func19, Try.ntmps19
      go_wp2_with (refine (HF.out _).mono ?_; rintro e w' ⟨rfl, rfl⟩)
      refine (sound_any _ raw f _ hrd HN.out).mono ?_
      rintro e w3 ⟨rfl, hb3⟩
      have hB3 := hb2.trans (hb3.mono hb2.size)
      clear hrd hb2 hb3 hrun
      go_wp2_with fail
      go_ret
      exact ⟨rfl, hB3⟩
    · have e1 : vldB raw m = false := by simp [vldB, hn]
      rw [e1]
      have hn1 : ((raw.length : Int) == 2352) = false := by simp; omega
      have HN := Lib.hid hn
      clear e1 hb hn
      go_enter Try.func19, Try.ntmps19
      go_wp2_with (refine (HF.out _).mono ?_; rintro e w' ⟨rfl, rfl⟩)
      go_ret
      exact ⟨rfl, Below.refl _ _⟩
end Go.Proofs.Ytepdcpbgdfjobaa.W8
