/- Shaken out of XWn XWe XWv XWa -/
import Derived.Test.YtflmjdjkfognjaaGreatTp18
import Derived.Test.YtflmjdjkfognjaaGreatTp19
import Derived.Outline
import Derived.Test.YtflmjdjkfognjaaGreatTp15
import Derived.Test.YtflmjdjkfognjaaGreatShelf
namespace Go.Proofs.YtflmjdjkfognjaaGreat.W8
set_option linter.unusedVariables false
theorem ixI_pw (m i : Nat) (h : i < 26) : ixI (pw m) i = pf m i := by simp [ixI, pw, pl, h]
theorem ixI_qw (m i : Nat) (h : i < 43) : ixI (qw m) i = qf m i := by
  have : i < (ql m 43).length := by rw [ql_length]; exact h
  unfold ixI qw
  rw [List.getD_eq_getElem?_getD, List.getElem?_append_left this]
  simp [ql, h]
theorem ixI_qw43 (m : Nat) : ixI (qw m) 43 = 12 + 2 * (1118 + (m : Int) / 2) + m % 2 := by
  have h : (ql m 43).length = 43 := ql_length _ _
  unfold ixI qw
  rw [List.getD_eq_getElem?_getD, List.getElem?_append_right (by omega), h]
  rfl
theorem ixI_qw44 (m : Nat) : ixI (qw m) 44 = 12 + 2 * (1144 + (m : Int) / 2) + m % 2 := by
  have h : (ql m 43).length = 43 := ql_length _ _
  unfold ixI qw
  rw [List.getD_eq_getElem?_getD, List.getElem?_append_right (by omega), h]
  rfl
theorem q_solve (k i j : Nat) (hk : k < 1118) (hi : i < 43) (hj : j < 26) : (44 * i + 43 * j) % 1118 = k ↔ i = k % 43 ∧ j = (k / 43 + 26 * 43 - k % 43) % 26 := by
  obtain ⟨a, r, hr, ha, rfl⟩ : ∃ a r, r < 43 ∧ a < 26 ∧ k = 43 * a + r := ⟨k / 43, k % 43, by omega, by omega, by omega⟩
  have e1 : (43 * a + r) % 43 = r := by omega
  have e2 : (43 * a + r) / 43 = a := by omega
  rw [e1, e2]
  constructor
  · intro h
    have e : (44 * i + 43 * j) % 1118 % 43 = (44 * i + 43 * j) % 43 := Nat.mod_mod_of_dvd _ ⟨26, rfl⟩
    rw [h] at e
    have hir : i = r := by omega
    subst hir
    refine ⟨rfl, ?_⟩
    obtain ⟨q, hq⟩ : ∃ q, 44 * i + 43 * j = 1118 * q + (43 * a + i) := ⟨(44 * i + 43 * j) / 1118, by omega⟩
    have h3 : i + j = a + 26 * q := by omega
    have hq2 : q < 4 := by omega
    omega
  · rintro ⟨rfl, hj2⟩
    obtain ⟨t, ht⟩ : ∃ t, a + 26 * 43 - i = 26 * t + j := ⟨(a + 26 * 43 - i) / 26, by omega⟩
    have h4 : 44 * i + 43 * j + 1118 * t = 43 * a + i + 1118 * 43 := by omega
    have ht2 : t ≤ 43 := by omega
    obtain ⟨u, hu⟩ : ∃ u, 43 = t + u := ⟨43 - t, by omega⟩
    have h5 : 44 * i + 43 * j = 43 * a + i + 1118 * u := by omega
    rw [h5, Nat.add_mul_mod_self_left]
    exact Nat.mod_eq_of_lt hk
end Go.Proofs.YtflmjdjkfognjaaGreat.W8
namespace Go.Proofs.YtflmjdjkfognjaaGreat.W8
open Go.RowKit
set_option linter.unusedVariables false
/-- the codeword of a word's data -/
def cwd (raw : List UInt8) (ws : List Int) (f : Int) : List UInt8 := G.enc (takeL raw (ws.take (ws.length - 2)) f) 2
/-- the parity of one word is written -/
def stepW (raw : List UInt8) (ws : List Int) (f : Int) : List UInt8 :=
  (raw.set (ixI ws (ws.length - 2)).toNat (G.ix (cwd raw ws f) (ws.length - 2))).set (ixI ws (ws.length - 1)).toNat (G.ix (cwd raw ws f) (ws.length - 1))
theorem stepW_length (raw : List UInt8) (ws : List Int) (f : Int) : (stepW raw ws f).length = raw.length := by simp [stepW]
theorem cwd_length (raw : List UInt8) (ws : List Int) (f : Int) (h : 2 ≤ ws.length) : (cwd raw ws f).length = ws.length := by
  unfold cwd
  rw [G.enc_length, takeL_length, List.length_take]
  omega
theorem ix_append_left {l m : List UInt8} {i : Nat} (h : i < l.length) : G.ix (l ++ m) i = G.ix l i := by
  unfold G.ix
  rw [List.getD_eq_getElem?_getD, List.getD_eq_getElem?_getD, List.getElem?_append_left h]
theorem ixI_take {l : List Int} {k i : Nat} (h : i < k) : ixI (l.take k) i = ixI l i := by simp [ixI, h]
theorem ix_cwd (raw : List UInt8) (ws : List Int) (f : Int) (i : Nat) (h : i < ws.length - 2) : G.ix (cwd raw ws f) i = sym raw f (ixI ws i) := by
  have hl : i < (takeL raw (ws.take (ws.length - 2)) f).length := by rw [takeL_length, List.length_take]; omega
  unfold cwd G.enc
  rw [ix_append_left hl, ix_takeL _ _ _ _ (by rw [takeL_length] at hl; exact hl), ixI_take h]
theorem set_self (l : List UInt8) (i : Nat) : l.set i (G.ix l i) = l := by
  apply G.ext_ix
  · simp
  · intro j hj
    by_cases h : i < l.length
    · rw [ix_set _ _ _ _ h]; split
      · next e => rw [e]
      · rfl
    · rw [List.set_eq_of_length_le (by omega)]
theorem pk_same (raw : List UInt8) (ws : List Int) (f : Int) (s : List UInt8) : ∀ k, (∀ i, i < k → G.ix s i = sym raw f (ixI ws i)) → pkL raw ws f s k = raw
  | 0, _ => rfl
  | k + 1, h => by
    have ih := pk_same raw ws f s k (fun i hi => h i (by omega))
    unfold pkL
    rw [ih]
    split
    · rfl
    · next hf =>
      rw [h k (by omega)]
      unfold sym
      rw [if_neg hf]
      exact set_self _ _
theorem put_enc (raw : List UInt8) (ws : List Int) (f : Int) (hL : 2 ≤ ws.length) (h1 : f ≤ ixI ws (ws.length - 2)) (h2 : f ≤ ixI ws (ws.length - 1)) : putL raw ws f (cwd raw ws f) = stepW raw ws f := by
  have hs := pk_same raw ws f (cwd raw ws f) (ws.length - 2) (fun i hi => ix_cwd raw ws f i hi)
  obtain ⟨n, hn⟩ : ∃ n, ws.length = n + 2 := ⟨ws.length - 2, by omega⟩
  have e1 : ws.length - 2 = n := by omega
  have e2 : ws.length - 1 = n + 1 := by omega
  rw [e1] at hs h1
  rw [e2] at h2
  unfold putL stepW
  rw [e1, e2, hn]
  show (if ixI ws (n + 1) < f then pkL raw ws f (cwd raw ws f) (n + 1) else (pkL raw ws f (cwd raw ws f) (n + 1)).set (ixI ws (n + 1)).toNat (G.ix (cwd raw ws f) (n + 1))) = _
  rw [if_neg (by omega)]
  congr 1
  show (if ixI ws n < f then pkL raw ws f (cwd raw ws f) n else (pkL raw ws f (cwd raw ws f) n).set (ixI ws n).toNat (G.ix (cwd raw ws f) n)) = _
  rw [if_neg (by omega), hs]
/-- the parity of a word lies behind the header -/
theorem wd_last {k : Nat} (hk : k < 138) : 16 ≤ ixI (wd k) ((wd k).length - 2) ∧ 16 ≤ ixI (wd k) ((wd k).length - 1) := by
  rw [wd_length]
  unfold wd
  by_cases h : k < 86
  · rw [if_pos h, if_pos h]
    show 16 ≤ ixI (pw k) 24 ∧ 16 ≤ ixI (pw k) 25
    rw [ixI_pw _ _ (by omega), ixI_pw _ _ (by omega)]
    unfold pf; omega
  · rw [if_neg h, if_neg h]
    show 16 ≤ ixI (qw (k - 86)) 43 ∧ 16 ≤ ixI (qw (k - 86)) 44
    rw [ixI_qw43, ixI_qw44]
    omega
def encN (raw : List UInt8) (f : Int) : Nat → List UInt8
  | 0 => raw
  | k + 1 => stepW (encN raw f k) (wd k) f
theorem encN_length (raw : List UInt8) (f : Int) : ∀ k, (encN raw f k).length = raw.length
  | 0 => rfl
  | k + 1 => by rw [encN, stepW_length, encN_length raw f k]
theorem encN_put (raw : List UInt8) (f : Int) (k : Nat) (hk : k < 138) (hf : f ≤ 16) : putL (encN raw f k) (wd k) f (cwd (encN raw f k) (wd k) f) = encN raw f (k + 1) := by
  have h := wd_last hk
  have hl := wd_length k
  exact put_enc _ _ _ (by rw [hl]; split <;> omega) (by omega) (by omega)
/-- 'v[:hi]' of ints -/
theorem run_cutI {P : Program} {t e : TypeId} (ht : P.underlying t = some (.slice e)) (hs : (P.info? e).map (·.size) = some 1) {v : Value} {l : List Int} {w : World} (h : RdI w v l) (hi : Nat) (h2 : hi ≤ l.length) :
    ∃ v', (∀ W, RdI W v l → RdI W v' (l.take hi)) ∧ ∀ (y : Int) (w' : World), y = hi → (Instr.slice t v none (some (.int .i64 y)) none).run P w' = .ok v' w' := by
  obtain ⟨h0, ⟨a, c, b, off, rfl, hc, hcell⟩, hr⟩ := h
  cases hq : P.info? e with
  | none => simp [hq] at hs
  | some i =>
    have hs1 : i.size = 1 := by simpa [hq] using hs
    refine ⟨.slice (if c = 0 then a else a.map (·.add (0 * 1))) hi c, fun W hW => ?_, ?_⟩
    · obtain ⟨_, ⟨a', c', b', off', e1, hc', hcell'⟩, hr'⟩ := hW
      injection e1 with e1 e2 e3
      subst e1 e3
      have hL : (l.take hi).length = hi := by rw [List.length_take]; omega
      refine ⟨by rw [hL]; omega, ⟨_, c, b', off', by rw [hL], by rw [hL]; omega, fun j hj => ?_⟩, fun j hj => ?_⟩
      · rw [hL] at hj
        obtain ⟨g1, g2⟩ := hcell' j (by omega)
        exact ⟨by rw [g1]; split <;> simp [Addr.add], by rw [ixI_take hj]; exact g2⟩
      · rw [hL] at hj
        rw [ixI_take hj]
        exact hr' j (by omega)
    · rintro y w' rfl
      simp [Instr.slice, run_underlying ht, Instr.sliceBounds, run_sliceBound, sizeOf, typeInfo, hq, (by omega : hi ≤ c)]
end Go.Proofs.YtflmjdjkfognjaaGreat.W8
namespace Go.Proofs.YtflmjdjkfognjaaGreat.W8
open Go.RowKit Go.Shelf
set_option linter.unusedVariables false
attribute [local go_sem] Oper.semAt_some
/-- the first 'k' words are codewords -/
def soundN (raw : List UInt8) (f : Int) : Nat → Bool
  | 0 => true
  | k + 1 => soundN raw f k && G.validB (takeL raw (wd k) f) 2
def soundB (raw : List UInt8) (f : Int) : Bool := soundN raw f 138
theorem soundN_false {raw : List UInt8} {f : Int} {k : Nat} (h : G.validB (takeL raw (wd k) f) 2 = false) : ∀ n, k < n → soundN raw f n = false
  | 0, hk => by omega
  | n + 1, hk => by
    unfold soundN
    by_cases e : k = n
    · subst e; rw [h, Bool.and_false]
    · rw [soundN_false h n (by omega), Bool.false_and]
theorem words_in (n : Nat) (w : World) : CallsIn Fence.wide n Tryz.prog 61 #[] w fun e w' => e = .returned (.func (.func 122) #[] #[]) ∧ w = w' := by
  refine callsIn_of_wp Tryz.func61 rfl trivial ?_ rfl
  simp only [Tryz.ntmps61, List.size_toArray, List.length_nil, Nat.reduceSub, Array.replicate_succ, Array.replicate_zero, List.push_toArray, List.append_toArray, List.nil_append]
  gi_wp2
  go_ret
  exact ⟨rfl, rfl⟩
set_option maxRecDepth 100000 in
set_option maxHeartbeats 2000000 in
theorem sound_any (rv : Value) (raw : List UInt8) (f : Int) (w : World) (hr : Rd w rv raw) (hl : raw.length = 2352) :
    Calls Tryz.prog 98 #[rv, .int .i64 f] w fun e w' => e = .returned (.bool (soundB raw f)) ∧ Below w.heap.size w w' := by
  have HL := Lib.hid hl
  obtain ⟨ra, rc, rfl⟩ := hr.form
  rw [hl] at hr ⊢
  have HR := Lib.hid hr
  clear hl hr
  refine (callsIn_wide (n := 5)).1 ?_
  refine callsIn_of_wp_marks Tryz.func98 rfl trivial ?_ rfl
  simp only [Tryz.ntmps98, List.size_toArray, List.length_cons, List.length_nil, Nat.reduceAdd, Nat.reduceSub, Array.replicate_succ, Array.replicate_zero, List.push_toArray, List.append_toArray, List.nil_append, List.cons_append]
  gi_wp2_with (refine ⟨trivial, ?_⟩; gi_at_call 61; refine (words_in 4 _).mono ?_; rintro e w' ⟨rfl, rfl⟩)
  have X0 := ((Bx.new w 123 [.slice ra 2352 rc]).alloc (.cells #[.int .i64 f] 3)).alloc (.cells #[.bool false] 4)
  have X1 := (Bx.new (w.alloc (.cells #[.slice ra 2352 rc] 123)) 3 [.int .i64 f]).alloc (.cells #[.bool false] 4)
  have X2 := Bx.new ((w.alloc (.cells #[.slice ra 2352 rc] 123)).alloc (.cells #[.int .i64 f] 3)) 4 [.bool false]
  have hB : Below w.heap.size w (((w.alloc (.cells #[.slice ra 2352 rc] 123)).alloc (.cells #[.int .i64 f] 3)).alloc (.cells #[.bool false] 4)) := (((Below.refl _ w).alloc (Nat.le_refl _) _).alloc (by simp) _).alloc (by simp; omega) _
  simp only [World.size_alloc] at X1 X2
  obtain ⟨B, hBs⟩ : ∃ B, B = (((w.alloc (.cells #[.slice ra 2352 rc] 123)).alloc (.cells #[.int .i64 f] 3)).alloc (.cells #[.bool false] 4)).heap.size := ⟨_, rfl⟩
  have hB3 : B = w.heap.size + 1 + 1 + 1 := by rw [hBs]; simp
  have hseq := words_gives 4 (by omega) (((w.alloc (.cells #[.slice ra 2352 rc] 123)).alloc (.cells #[.int .i64 f] 3)).alloc (.cells #[.bool false] 4))
  rw [← hBs] at hseq
  refine wpIn_range_gives1 (n := 5) rfl (by omega) (gf := 122) (lb := #[]) rfl trivial (enters_of Tryz.func122 (by kernel_rfl) rfl) hseq rfl
    (fun k W => ((soundN raw f k = true) ∧ Bx W w.heap.size 123 [.slice ra 2352 rc] ∧ Bx W (w.heap.size + 1) 3 [.int .i64 f] ∧ Bx W (w.heap.size + 1 + 1) 4 [.bool false]) ∧ Below w.heap.size w W)
    (fun c W => ((c = .ret ∧ soundB raw f = false) ∧ Bx W (w.heap.size + 1 + 1) 4 [.bool false]) ∧ Below w.heap.size w W)
    (fun v => { tmps := #[.slice ra 2352 rc, .int .i64 f, .pointer (some ⟨w.heap.size, 0, none⟩), .pointer (some ⟨w.heap.size + 1, 0, none⟩), .pointer (some ⟨w.heap.size + 1 + 1, 0, none⟩), v, .func (.func 122) #[] #[], v, undef, undef, undef, undef, undef, undef], defers := [] })
    (fun k => ((Stays.const _ _).and ((stays_bx _ _ _ _).and ((stays_bx _ _ _ _).and (stays_bx _ _ _ _)))).and (stays_below (Nat.le_refl _) (by simp; omega)))
    (fun c => ((Stays.const _ _).and (stays_bx _ _ _ _)).and (stays_below (Nat.le_refl _) (by simp; omega)))
    (fun k v => GW.stays _ _ _ _) ⟨⟨rfl, X0, X1, X2⟩, hB⟩ ?assign ?body ?done ?stop
  case assign =>
    intro l v W K _ hK
    gi_wp2
    exact hK
  case body =>
    rw [← hBs]
    rintro l k v W hk ⟨⟨hsn, x0, x1, x2⟩, hb⟩ hg
    clear X0 X1 X2 hB hseq hBs
    have hwb := wd_bd hk
    have hwl := wd_length k
    have hlen : (wd k).length ≤ 45 := by rw [hwl]; split <;> omega
    have hlen2 : 26 ≤ (wd k).length := by rw [hwl]; split <;> omega
    have hri := rdI_own (w := W) hg rfl (by omega) (fun x hx => by have := hwb x hx; omega)
    have hra := HR.out.keep hb
    have HT := Lib.hid (take_any _ raw v (wd k) f W hra hri (by omega) (fun x hx => by have := hwb x hx; have := HL.out; omega))
    have HV := Lib.hid (fun W => valid_any (takeL raw (wd k) f) 2 W (by rw [takeL_length]; omega))
    have hS : soundN raw f (k + 1) = (soundN raw f k && G.validB (takeL raw (wd k) f) 2) := rfl
    rw [hsn, Bool.true_and] at hS
    have hF : G.validB (takeL raw (wd k) f) 2 = false → soundB raw f = false := fun h => soundN_false h 138 hk
    generalize G.validB (takeL raw (wd k) f) 2 = bb at *
    have HS := Lib.hid hS
    have c0 := x0.cell (i := 0) rfl
    have c1 := x1.cell (i := 0) rfl
    clear hS hsn hwl hwb hri hra hg
    have HB := Lib.hid hb
    have HX := Lib.hid (And.intro x0 (And.intro x1 x2))
    have h32 : 1 ≤ 5 - 1 - 1 := by omega
    clear hb x0 x1 x2
    cases bb with
    | false =>
      have HF := Lib.hid (hF rfl)
      clear hF
      gi_wp2_with (first | (refine ⟨trivial, ?_⟩; gi_at_call 147; refine (CallsIn.inRound l (callsIn_wide.2 HT.out)).mono ?_; rintro e W2 ⟨rfl, hb2⟩) | (refine ⟨trivial, ?_⟩; gi_at_call 164; refine (CallsIn.inRound l (callsIn_wide.2 (HV.out _))).mono ?_; rintro e W3 ⟨rfl, hb3⟩; have hb4 := hb2.trans (hb3.mono hb2.size); have x2' := HX.out.2.2.call hb4; have c3 := x2'.cell (i := 0) rfl; have f3 := x2'.free 0; clear x2'))
      exact ⟨(kf_below hb4).trans (kf_set _ _ _ _), ⟨⟨rfl, HF.out⟩, (HX.out.2.2.call hb4).set 0 (.bool false)⟩, (HB.out.trans (hb4.mono HB.out.size)).setCell (p := ⟨w.heap.size + 1 + 1, 0, none⟩) (by simp; omega) _⟩
    | true =>
      clear hF
      gi_wp2_with (first | (refine ⟨trivial, ?_⟩; gi_at_call 147; refine (CallsIn.inRound l (callsIn_wide.2 HT.out)).mono ?_; rintro e W2 ⟨rfl, hb2⟩) | (refine ⟨trivial, ?_⟩; gi_at_call 164; refine (CallsIn.inRound l (callsIn_wide.2 (HV.out _))).mono ?_; rintro e W3 ⟨rfl, hb3⟩; have hb4 := hb2.trans (hb3.mono hb2.size); have x2' := HX.out.2.2.call hb4; have c3 := x2'.cell (i := 0) rfl; have f3 := x2'.free 0; clear x2'))
      exact ⟨kf_below hb4, ⟨HS.out, HX.out.1.call hb4, HX.out.2.1.call hb4, HX.out.2.2.call hb4⟩, HB.out.trans (hb4.mono HB.out.size)⟩
  case done =>
    rintro D W hD ⟨⟨hsn, _, _, hx⟩, hb⟩ hK
    rw [← hBs] at hD
    have HSN : Hid (soundB raw f = true) := Lib.hid hsn
    clear X0 X1 X2 hB hseq hBs hsn
    have c3 := hx.cell (i := 0) rfl
    have f3 := hx.free 0
    have hK' := (KeepsOthers.setCell W ⟨w.heap.size + 1 + 1, 0, none⟩ (.bool true)).same D _ hK rfl
    have hx' := hx.set 0 (.bool true)
    have hb' := hb.setCell (p := ⟨w.heap.size + 1 + 1, 0, none⟩) (by simp; omega) (.bool true)
    gi_wp2
    refine ⟨by simp, .inl ⟨_, _, rfl, run_takeDeferred hK', ?_⟩⟩
    have hc := ((stays_bx (w.heap.size + 1 + 1) _ _ _).putObj (.deferred none) hx' (by omega) hK' rfl).cell (i := 0) rfl
    rw [HSN.out]
    exact ⟨.bool true, by simp [results, Tryz.results98, go_sem, hc], rfl, hb'.trans (belowK_b (w := w) (Nat.le_refl _) _ D _ _ (by omega) hK' rfl rfl)⟩
  case stop =>
    rintro D c W hD ⟨⟨⟨rfl, hsn⟩, hx⟩, hb⟩ hK
    rw [← hBs] at hD
    have HSN : Hid (soundB raw f = false) := Lib.hid hsn
    clear X0 X1 X2 hB hseq hBs hsn
    gi_wp2
    refine ⟨by simp, .inl ⟨_, _, rfl, run_takeDeferred hK, ?_⟩⟩
    have hc := ((stays_bx (w.heap.size + 1 + 1) _ _ _).putObj (.deferred none) hx (by omega) hK rfl).cell (i := 0) rfl
    rw [HSN.out]
    exact ⟨.bool false, by simp [results, Tryz.results98, go_sem, hc], rfl, hb.trans (belowK_b (w := w) (Nat.le_refl _) _ D _ _ (by omega) hK rfl rfl)⟩
def fstI (m : Int) : Int := if m = 0 then 12 else if m = 1 then 16 else 0
def fstB (m : Int) : Bool := decide (m = 0) || decide (m = 1)
theorem first_any (m : Int) (w : World) : Calls Tryz.prog 59 #[.int .i64 m] w fun e w' => e = .returned (.tuple #[.int .i64 (fstI m), .bool (fstB m)]) ∧ w = w' := by
  by_cases h0 : m = 0
  · subst h0
    go_enter Tryz.func59, Tryz.ntmps59
    go_wp2_with fail
    go_ret2
    exact ⟨rfl, rfl⟩
  · by_cases h1 : m = 1
    · subst h1
      go_enter Tryz.func59, Tryz.ntmps59
      go_wp2_with fail
      go_ret2
      exact ⟨rfl, rfl⟩
    · have e1 : fstI m = 0 := by simp [fstI, h0, h1]
      have e2 : fstB m = false := by simp [fstB, h0, h1]
      rw [e1, e2]
      have hb0 : (m == 0) = false := by simpa using h0
      have hb1 : (m == 1) = false := by simpa using h1
      have H0 := Lib.hid h0; have H1 := Lib.hid h1
      clear e1 e2 h0 h1
      go_enter Tryz.func59, Tryz.ntmps59
      go_wp2_with fail
      go_ret2
      exact ⟨rfl, rfl⟩
/-- whether the bytes are a codeword of a sector of the mode -/
def vldB (raw : List UInt8) (m : Int) : Bool := fstB m && (decide (raw.length = 2352) && soundB raw (fstI m))
/-- '[]byte(s)' as an equation -/
theorem run_bytes {P : Program} (w : World) {src dst e : TypeId} (hs : P.underlying src = some .string) (hd : P.underlying dst = some (.slice e)) (he : P.underlying e = some (.int .u8)) (l : List UInt8) (n : Nat) (hn : l.length = n) :
    ∃ w' cap, (convert src dst (.string (str l))).run P w = .ok (.slice (some ⟨w.heap.size, 0, none⟩) n cap) w' ∧ Row w' e w.heap.size cap l ∧ Below w.heap.size w w' ∧ n ≤ cap := by
  subst hn
  have hsz := str_size l
  refine ⟨_, _, by rw [Lib.run_convert_string_bytes (P := P) w src dst e (str l) hs hd he, hsz], ?_, ?_, ?_⟩
  · refine ⟨Lib.bytesCells w e (str l), _, Lib.bytesWorld_at_new w e (str l), .inr (Nat.le_refl _), ?_, by rw [size_bytesCells w e (str l), hsz], ?_⟩
    · have := grownCap_ge w l.length 0 e
      simpa using this
    · have hl : (str l).data.toList.length = l.length := rfl
      unfold Lib.bytesCells
      rw [Array.toList_append, List.take_append_of_le_length (by simp [← hl]), List.take_of_length_le (by simp [← hl])]
      simp [bs, str]
  · exact ⟨rfl, rfl, rfl, by rw [Lib.bytesWorld_size]; omega, fun k hk => Lib.bytesWorld_at_old w e (str l) k hk⟩
  · have := grownCap_ge w l.length 0 e
    simpa using this
set_option maxRecDepth 100000 in
set_option maxHeartbeats 1000000 in
theorem valid8_any (raw : List UInt8) (m : Int) (w : World) (hl : raw.length ≤ 9223372036854775807) :
    Calls Tryz.prog 35 #[.string (str raw), .int .i64 m] w fun e w' => e = .returned (.bool (vldB raw m)) ∧ Below w.heap.size w w' := by
  have hs := str_size raw
  have HF := Lib.hid (fun W => first_any m W)
  cases hb : fstB m with
  | false =>
    have e1 : vldB raw m = false := by simp [vldB, hb]
    rw [e1]
    rw [hb] at HF
    clear e1 hb hs hl
    go_enter Tryz.func35, Tryz.ntmps35
    go_wp2_with (refine (HF.out _).mono ?_; rintro e w' ⟨rfl, rfl⟩)
    go_ret
    exact ⟨rfl, Below.refl _ _⟩
  | true =>
    rw [hb] at HF
    by_cases hn : raw.length = 2352
    · have e1 : vldB raw m = soundB raw (fstI m) := by simp [vldB, hb, hn]
      rw [e1]
      rw [hn] at hs
      have HN := Lib.hid hn
      generalize fstI m = f at *
      clear e1 hb hl
      obtain ⟨w2, cap, hrun, hr2, hb2, hcap⟩ := run_bytes (P := Tryz.prog) w Tryz.underlying9 Tryz.underlying123 Tryz.underlying5 raw 2352 hn
      have hrd := hr2.rd (by omega)
      rw [hn] at hrd
      clear hn hr2
      go_enter Tryz.func35, Tryz.ntmps35
      go_wp2_with (refine (HF.out _).mono ?_; rintro e w' ⟨rfl, rfl⟩)
      refine (sound_any _ raw f _ hrd HN.out).mono ?_
      rintro e w3 ⟨rfl, hb3⟩
      have hB3 := hb2.trans (hb3.mono hb2.size)
      clear hrd hb2 hb3 hrun
      go_wp2_with fail
      go_ret
      exact ⟨rfl, hB3⟩
    · have e1 : vldB raw m = false := by simp [vldB, hn]
      rw [e1]
      have hn1 : ((raw.length : Int) == 2352) = false := by simp; omega
      have HN := Lib.hid hn
      clear e1 hb hn
      go_enter Tryz.func35, Tryz.ntmps35
      go_wp2_with (refine (HF.out _).mono ?_; rintro e w' ⟨rfl, rfl⟩)
      go_ret
      exact ⟨rfl, Below.refl _ _⟩
end Go.Proofs.YtflmjdjkfognjaaGreat.W8
namespace Go.Proofs.YtflmjdjkfognjaaGreat.W8
open Go.RowKit Go.Shelf
set_option linter.unusedVariables false
theorem sym_zero (n : Nat) (f x : Int) : sym (List.replicate n 0) f x = 0 := by
  unfold sym G.ix
  split
  · rfl
  · rw [List.getD_eq_getElem?_getD, List.getElem?_replicate]; split <;> rfl
theorem take_zero (n : Nat) (f : Int) (ws : List Int) : takeL (List.replicate n 0) ws f = List.replicate ws.length 0 := by
  unfold takeL
  rw [List.eq_replicate_iff]
  refine ⟨by simp, fun b hb => ?_⟩
  obtain ⟨x, _, rfl⟩ := List.mem_map.1 hb
  exact sym_zero _ _ _
/-- the element of an owned row of ints -/
theorem own_int {w : World} {base e n : Nat} {v : Value} {l : List Int} (h : w.ownsRow base e 1 v n (is l)) (hn : 0 < n) : ∃ g c, v = .slice (some ⟨g, 0, none⟩) n c ∧ ∀ i, i < n → w.cell? ⟨g, i, none⟩ = some (.int .i64 (ixI l i)) := by
  have hl := h.1
  rw [is_length, Nat.mul_one] at hl
  rcases h.2 with ⟨_, h0⟩ | ⟨g, cap, cur, rfl, hg, hh, hnn, hm, hcs, ht⟩
  · omega
  · exact ⟨g, cap, rfl, fun i hi => by rw [h.cellAt i (by omega), is_get (by omega)]⟩
def pe (n : Int) : Int := if 0 ≤ n ∧ n < 86 then 0 else 2
end Go.Proofs.YtflmjdjkfognjaaGreat.W8
