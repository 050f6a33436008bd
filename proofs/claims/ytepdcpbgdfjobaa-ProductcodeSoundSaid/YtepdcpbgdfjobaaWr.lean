/- Chapter 8: fits, First, Words and symbols of the reference walked. -/
import Derived.Outline
import Derived.Test.YtepdcpbgdfjobaaWa
import Derived.Test.YtepdcpbgdfjobaaWe
namespace Go.Proofs.Ytepdcpbgdfjobaa.W8
open Go.RowKit Go.Shelf
set_option linter.unusedVariables false

theorem own_apart {w : World} {b b' e e' sz sz' n n' : Nat} {v v' : Value} {xs xs' : List Value} (h : w.ownsRow b e sz v n xs) (h' : w.ownsRow b' e' sz' v' n' xs') (hne : e ≠ e') : ∀ k, v.ownBlock = some k → some k ≠ v'.ownBlock := by
  intro k hk hk'
  rcases h.2 with ⟨rfl, _⟩ | ⟨g, cap, cur, rfl, _, hg, _⟩
  · simp [Value.ownBlock] at hk
  rcases h'.2 with ⟨rfl, _⟩ | ⟨g', cap', cur', rfl, _, hg', _⟩
  · simp [Value.ownBlock] at hk'
  have e1 : g = k := by simpa [Value.ownBlock] using hk
  have e2 : k = g' := by simpa [Value.ownBlock] using hk'
  subst e1 e2
  rw [hg] at hg'
  simp only [Option.some.injEq, Obj.cells.injEq] at hg'
  exact hne hg'.2.1
theorem own_other {w w' : World} {b e sz n : Nat} {v : Value} {xs : List Value} {r : Option Nat} (h : w.ownsRow b e sz v n xs) (hg : w.grownBy w' r) (hr : ∀ k, v.ownBlock = some k → some k ≠ r) : w'.ownsRow b e sz v n xs := by
  refine ⟨h.1, ?_⟩
  rcases h.2 with h | ⟨g, cap, cur, rfl, hb, hh, rest⟩
  · exact .inl h
  · exact .inr ⟨g, cap, cur, rfl, hb, (hg.block g (Array.getElem?_eq_some_iff.1 hh).1 (hr g rfl)).trans hh, rest⟩

def fitB (raw : List UInt8) (m : Int) : Bool := decide (raw.length = 2352) && fstB m
set_option maxHeartbeats 1000000 in
theorem rfits_any (raw : List UInt8) (m : Int) (w : World) (hl : raw.length ≤ 9223372036854775807) : Calls Try.prog 38 #[.string (str raw), .int .i64 m] w fun e w' => e = .returned (.bool (fitB raw m)) ∧ w = w' := by
  have hs := str_size raw
  by_cases hn : raw.length = 2352
  · have e1 : fitB raw m = fstB m := by simp [fitB, hn]
    rw [e1]
    have hd : ((raw.length : Int) == 2352) = true := by simp; omega
    have HN := Lib.hid hn
    clear hn e1
    by_cases h0 : m = 0
    · subst h0
      go_enter Try.func38, Try.ntmps38
      go_wp2_with fail
      go_ret
      exact ⟨rfl, rfl⟩
    · by_cases h1 : m = 1
      · subst h1
        go_enter Try.func38, Try.ntmps38
        go_wp2_with fail
        go_ret
        exact ⟨rfl, rfl⟩
      · have e2 : fstB m = false := by simp [fstB, h0, h1]
        rw [e2]
        have hb0 : (m == 0) = false := by simpa using h0
        have hb1 : (m == 1) = false := by simpa using h1
        have H0 := Lib.hid h0; have H1 := Lib.hid h1
        clear e2 h0 h1
        go_enter Try.func38, Try.ntmps38
        go_wp2_with fail
        go_ret
        exact ⟨rfl, rfl⟩
  · have e1 : fitB raw m = false := by simp [fitB, hn]
    rw [e1]
    have hd : ((raw.length : Int) == 2352) = false := by simp; omega
    have HN := Lib.hid hn
    clear hn e1
    go_enter Try.func38, Try.ntmps38
    go_wp2_with fail
    go_ret
    exact ⟨rfl, rfl⟩
def rfst (m : Int) : Int := if m = 0 then 12 else 16
theorem rfst_eq {m : Int} (h : fstB m = true) : rfst m = fstI m := by
  unfold rfst fstI
  unfold fstB at h
  simp only [Bool.or_eq_true, decide_eq_true_eq] at h
  rcases h with h | h
  · rw [if_pos h, if_pos h]
  · subst h; rfl
theorem rfirst_any (m : Int) (w : World) : Calls Try.prog 22 #[.int .i64 m] w fun e w' => e = .returned (.int .i64 (rfst m)) ∧ w = w' := by
  by_cases h0 : m = 0
  · subst h0
    go_enter Try.func22, Try.ntmps22
    go_wp2_with fail
    go_ret
    exact ⟨rfl, rfl⟩
  · have e : rfst m = 16 := if_neg h0
    rw [e]
    have hb0 : (m == 0) = false := by simpa using h0
    have H0 := Lib.hid h0
    clear e h0
    go_enter Try.func22, Try.ntmps22
    go_wp2_with fail
    go_ret
    exact ⟨rfl, rfl⟩

theorem Try.infoLI : (Try.prog.info? 24).map (fun i => (i.zero, i.size, i.bytes)) = some (some (.slice none 0 0), 1, 24) := by kernel_rfl
theorem Try.neLI : 3 ≠ 24 := by decide
/-- the first 'k' words lie in rows of the call's own -/
def Lst (B : Nat) (W : World) (vs : List Value) (k : Nat) : Prop := vs.length = k ∧ ∀ j v, vs[j]? = some v → W.ownsRow B 3 1 v (wd j).length (is (wd j))
theorem Lst.keep {B : Nat} {W W' : World} {vs : List Value} {k : Nat} (h : Lst B W vs k) (hb : Below W.heap.size W W') : Lst B W' vs k := ⟨h.1, fun j v hv => own_keep' (h.2 j v hv) hb⟩
theorem Lst.snoc {B : Nat} {W : World} {vs : List Value} {k : Nat} (h : Lst B W vs k) {v : Value} (hv : W.ownsRow B 3 1 v (wd k).length (is (wd k))) : Lst B W (vs ++ [v]) (k + 1) := by
  refine ⟨by simp [h.1], fun j u hu => ?_⟩
  by_cases hj : j < vs.length
  · rw [List.getElem?_append_left hj] at hu
    exact h.2 j u hu
  · rw [List.getElem?_append_right (by omega)] at hu
    have : j = k := by
      have := (List.getElem?_eq_some_iff.1 hu).1
      simp at this
      have := h.1
      omega
    subst this
    rw [h.1, Nat.sub_self] at hu
    simp at hu
    subst hu
    exact hv
theorem Lst.grown {B b n : Nat} {W W' : World} {vs xs : List Value} {k : Nat} {v : Value} (h : Lst B W vs k) (ho : W.ownsRow b 24 1 v n xs) (hg : W.grownBy W' v.ownBlock) : Lst B W' vs k :=
  ⟨h.1, fun j u hu => own_other (h.2 j u hu) hg (own_apart (h.2 j u hu) ho Try.neLI)⟩
theorem Lst.one {B : Nat} {W : World} {vs : List Value} {k : Nat} (h : Lst B W vs k) : ∀ u ∈ vs, u.oneCell' = true := fun u hu => by
  obtain ⟨j, hj, rfl⟩ := List.getElem_of_mem hu
  obtain ⟨a, c, _, e, _⟩ := own_form (h.2 j _ (List.getElem?_eq_getElem hj))
  rw [e]; rfl
theorem reads_val (W : World) (v : Value) (e : TypeId) : Reads (W.alloc (.cells #[v] e)) 1 (.slice (some ⟨W.heap.size, 0, none⟩) 1 1) 1 [v] := by
  refine ⟨rfl, _, _, W.heap.size, 0, rfl, Nat.le_refl _, fun i u hu => ⟨rfl, ?_⟩⟩
  rw [cell_of_row _ _ _ _ _ _ (heap_alloc_new W _), Nat.zero_add]
  simpa using hu
/-- what Words hands back -/
def WordsP (w : World) (e : Ending) (w' : World) : Prop := ∃ v vs, e = .returned v ∧ w'.ownsRow w.heap.size 24 1 v 138 vs ∧ Lst w.heap.size w' vs 138 ∧ Below w.heap.size w w'
set_option maxRecDepth 100000 in
set_option maxHeartbeats 4000000 in
theorem rwords_any (w : World) : Calls Try.prog 39 #[] w (WordsP w) := by
  go_enter Try.func39, Try.ntmps39
  go_wp2_with fail
  have ho0 : (w.alloc (.cells #[] 24)).ownsRow w.heap.size 24 1 (.slice (some ⟨w.heap.size, 0, none⟩) 0 0) 0 [] := World.ownsRow_lit w #[] 0 (Nat.le_refl _) (by simp) (by simp)
  have hb0 : Below w.heap.size w (w.alloc (.cells #[] 24)) := (Below.refl _ _).alloc (Nat.le_refl _) _
  have hl0 : Lst w.heap.size (w.alloc (.cells #[] 24)) [] 0 := ⟨rfl, fun j v hv => by simp at hv⟩
  go_loopw [1, 2] (fun vo vk wr => ∃ (k : Nat) (vs : List Value), k ≤ 86 ∧ vk = .int .i64 k ∧ wr.ownsRow w.heap.size 24 1 vo k vs ∧ Lst w.heap.size wr vs k ∧ Below w.heap.size w wr) (fun _ vk _ => 86 - (intOf vk).toNat)
  case atStart => exact ⟨0, [], by omega, rfl, ho0, hl0, hb0⟩
  case round =>
    clear ho0 hb0 hl0
    obtain ⟨k, vs, hk, rfl, ho, hl, hb⟩ := hrel
    by_cases hlt : k < 86
    · have hbs := hb.size
      have hlt' : (k : Int) < 86 := by omega
      have hwd : wd (k) = pw k := by unfold wd; first | (rw [if_pos (by omega)]) | (rw [if_neg (by omega)]; congr 1; omega)
      have HW := Lib.hid hwd
      clear hwd
      go_wp2_with fail
      refine (rpword_ok k _ _ rfl hlt).mono ?_
      rintro e w1 ⟨v1, rfl, ho1, hb1⟩
      obtain ⟨g1, c1, rfl, _⟩ := own_int ho1 (by omega)
      have ho2 := own_keep' ho hb1
      have hl2 := hl.keep hb1
      have hB1 := hb.trans (hb1.mono hbs)
      have hB1s := hB1.size
      have hv : w1.ownsRow w.heap.size 3 1 (.slice (some ⟨g1, 0, none⟩) 26 c1) (wd (k)).length (is (wd (k))) := by rw [HW.out, pw_length]; exact own_mono ho1 hbs
      have hl3 := hl2.snoc hv
      have ho3 := own_keep' ho2 ((Below.refl w1.heap.size w1).alloc (Nat.le_refl _) (.cells #[.slice (some ⟨g1, 0, none⟩) 26 c1] 24))
      have hl4 := hl3.keep ((Below.refl w1.heap.size w1).alloc (Nat.le_refl _) (.cells #[.slice (some ⟨g1, 0, none⟩) 26 c1] 24))
      have hr3 := reads_val w1 (.slice (some ⟨g1, 0, none⟩) 26 c1) 24
      have hB3 := hB1.alloc hB1s (.cells #[.slice (some ⟨g1, 0, none⟩) 26 c1] 24)
      have hB3s := hB3.size
      have HL4 := Lib.hid hl4
      obtain ⟨i0, hi, hz0, hz1, hz2⟩ := info_parts Try.infoLI
      have HI := Lib.hid hi; have HZ0 := Lib.hid hz0; have HZ1 := Lib.hid hz1; have HZ2 := Lib.hid hz2
      clear ho hl hb hb1 ho1 ho2 hl2 hv hl3 hl4 hi hz0 hz1 hz2
      go_wp2_with (refine wpList_app (base := w.heap.size) rfl _ _ rfl Try.underlying63 HI.out HZ0.out HZ1.out HZ2.out rfl (by omega) ho3 rfl hr3 rfl (fun u hu => by simp at hu; subst hu; rfl) (by unfold maxLen; omega) (by omega) hB3s ?_; intro v7 w7 hown7 hgr7 _)
      have hb7 := hB3.grown hgr7 hB3s (ownBlock_ge' ho3)
      have hl7 := HL4.out.grown ho3 hgr7
      clear hB3 ho3 hr3 hgr7 HL4
      go_roundw
      case rel => exact ⟨k + 1, vs ++ [.slice (some ⟨g1, 0, none⟩) 26 c1], by omega, by go_num, hown7, hl7, hb7⟩
      case measure => simp [intOf]; omega
    · obtain rfl : k = 86 := by omega
      rw [show ((86 : Nat) : Int) = 86 from rfl]
      have ho0 := ho; have hl0 := hl; have hb0 := hb
      clear ho hl hb
      go_wp2_with fail
      go_loopw [1, 5] (fun vo vk wr => ∃ (k : Nat) (vs : List Value), k ≤ 52 ∧ vk = .int .i64 k ∧ wr.ownsRow w.heap.size 24 1 vo (86 + k) vs ∧ Lst w.heap.size wr vs (86 + k) ∧ Below w.heap.size w wr) (fun _ vk _ => 52 - (intOf vk).toNat)
      case atStart => exact ⟨0, _, by omega, rfl, ho0, hl0, hb0⟩
      case round =>
        clear ho0 hb0 hl0
        obtain ⟨k, vs, hk, rfl, ho, hl, hb⟩ := hrel
        by_cases hlt : k < 52
        · have hbs := hb.size
          have hlt' : (k : Int) < 52 := by omega
          have hwd : wd (86 + k) = qw k := by unfold wd; first | (rw [if_pos (by omega)]) | (rw [if_neg (by omega)]; congr 1; omega)
          have HW := Lib.hid hwd
          clear hwd
          go_wp2_with fail
          refine (rqword_ok k _ _ rfl hlt).mono ?_
          rintro e w1 ⟨v1, rfl, ho1, hb1⟩
          obtain ⟨g1, c1, rfl, _⟩ := own_int ho1 (by omega)
          have ho2 := own_keep' ho hb1
          have hl2 := hl.keep hb1
          have hB1 := hb.trans (hb1.mono hbs)
          have hB1s := hB1.size
          have hv : w1.ownsRow w.heap.size 3 1 (.slice (some ⟨g1, 0, none⟩) 45 c1) (wd (86 + k)).length (is (wd (86 + k))) := by rw [HW.out, qw_length]; exact own_mono ho1 hbs
          have hl3 := hl2.snoc hv
          have ho3 := own_keep' ho2 ((Below.refl w1.heap.size w1).alloc (Nat.le_refl _) (.cells #[.slice (some ⟨g1, 0, none⟩) 45 c1] 24))
          have hl4 := hl3.keep ((Below.refl w1.heap.size w1).alloc (Nat.le_refl _) (.cells #[.slice (some ⟨g1, 0, none⟩) 45 c1] 24))
          have hr3 := reads_val w1 (.slice (some ⟨g1, 0, none⟩) 45 c1) 24
          have hB3 := hB1.alloc hB1s (.cells #[.slice (some ⟨g1, 0, none⟩) 45 c1] 24)
          have hB3s := hB3.size
          have HL4 := Lib.hid hl4
          obtain ⟨i0, hi, hz0, hz1, hz2⟩ := info_parts Try.infoLI
          have HI := Lib.hid hi; have HZ0 := Lib.hid hz0; have HZ1 := Lib.hid hz1; have HZ2 := Lib.hid hz2
          clear ho hl hb hb1 ho1 ho2 hl2 hv hl3 hl4 hi hz0 hz1 hz2
          go_wp2_with (refine wpList_app (base := w.heap.size) rfl _ _ rfl Try.underlying63 HI.out HZ0.out HZ1.out HZ2.out rfl (by omega) ho3 rfl hr3 rfl (fun u hu => by simp at hu; subst hu; rfl) (by unfold maxLen; omega) (by omega) hB3s ?_; intro v7 w7 hown7 hgr7 _)
          have hb7 := hB3.grown hgr7 hB3s (ownBlock_ge' ho3)
          have hl7 := HL4.out.grown ho3 hgr7
          clear hB3 ho3 hr3 hgr7 HL4
          go_roundw
          case rel => exact ⟨k + 1, vs ++ [.slice (some ⟨g1, 0, none⟩) 45 c1], by omega, by go_num, hown7, hl7, hb7⟩
          case measure => simp [intOf]; omega
        · obtain rfl : k = 52 := by omega
          go_wp2_with fail
          go_ret
          exact ⟨_, _, rfl, ho, hl, hb⟩

/-- the symbols one by one -/
theorem takeL_snoc (raw : List UInt8) (ws : List Int) (f : Int) (k : Nat) (hk : k < ws.length) : takeL raw (ws.take (k + 1)) f = takeL raw (ws.take k) f ++ [sym raw f (ixI ws k)] := by
  have e : ws.take (k + 1) = ws.take k ++ [ixI ws k] := by
    rw [List.take_succ_eq_append_getElem hk, ixI_get hk]
  unfold takeL
  rw [e, List.map_append]
  rfl
set_option maxRecDepth 100000 in
set_option maxHeartbeats 4000000 in
theorem rsymbols_any (rv : Value) (raw : List UInt8) (wv : Value) (ws : List Int) (f : Int) (w : World) (hr : Rd w rv raw) (hw : RdI w wv ws) (hl : ws.length ≤ 1000) (hb : ∀ x ∈ ws, 0 ≤ x ∧ x < raw.length) :
    Calls Try.prog 41 #[rv, wv, .int .i64 f] w fun e w' => e = .returned (.string (str (takeL raw ws f))) ∧ Below w.heap.size w w' := by
  obtain ⟨hr0, ra, rc, rb, ro, rfl, hrc, hrcell⟩ := hr
  obtain ⟨hw0, ⟨wa, wc, wb, wo, rfl, hwc, hwcell⟩, hwr⟩ := hw
  have HR := Lib.hid hrcell
  have HW := Lib.hid hwcell
  have HB : Hid (∀ k, k < ws.length → 0 ≤ ixI ws k ∧ ixI ws k < raw.length) := Lib.hid fun k hk => hb _ (ixI_mem hk)
  clear hrcell hwcell hwr hb
  go_enter Try.func41, Try.ntmps41
  go_wp2_with fail
  have ho0 : (w.alloc (.cells #[] 5)).ownsRow w.heap.size 5 1 (.slice (some ⟨w.heap.size, 0, none⟩) 0 0) 0 (bs []) := World.ownsRow_lit w #[] 0 (Nat.le_refl _) (by simp) (by simp)
  have hb0 : Below w.heap.size w (w.alloc (.cells #[] 5)) := (Below.refl _ _).alloc (Nat.le_refl _) _
  go_loopw [7, 8] (fun vo vk wr => ∃ k : Nat, k ≤ ws.length ∧ vk = .int .i64 k ∧ wr.ownsRow w.heap.size 5 1 vo k (bs (takeL raw (ws.take k) f)) ∧ Below w.heap.size w wr) (fun _ vk _ => ws.length - (intOf vk).toNat)
  case atStart => exact ⟨0, by omega, rfl, ho0, hb0⟩
  case round =>
    clear ho0 hb0
    obtain ⟨k, hk, rfl, ho, hb⟩ := hrel
    by_cases hlt : k < ws.length
    · obtain ⟨ha, hcw⟩ := HW.out k hlt
      obtain ⟨hx1, hx2⟩ := HB.out k hlt
      have hK := takeL_snoc raw ws f k hlt
      obtain ⟨j, hj⟩ : ∃ j : Nat, ixI ws k = j := ⟨(ixI ws k).toNat, by omega⟩
      rw [hj] at hcw hx1 hx2 hK
      clear hj
      have hj2 : j < raw.length := by omega
      obtain ⟨ha2, hcr⟩ := HR.out j hj2
      have hcw' : wr.cell? ⟨wb, wo + k, none⟩ = some (.int .i64 j) := (hb.cell (p := ⟨wb, wo + k, none⟩) (World.block_lt_of_cell? w _ hcw)).trans hcw
      have hcr' : wr.cell? ⟨rb, ro + j, none⟩ = some (B (G.ix raw j)) := (hb.cell (p := ⟨rb, ro + j, none⟩) (World.block_lt_of_cell? w _ hcr)).trans hcr
      have hix := run_idx (P := Try.prog) Try.underlying24 Try.sizeInt (cap := wc) ha hlt _ rfl wr
      have hiy := run_idx (P := Try.prog) Try.underlying43 Try.sizeU8 (cap := rc) ha2 hj2 _ rfl wr
      have hbs := hb.size
      clear ha ha2 hcw hcr
      have fin : ∀ c : UInt8, sym raw f j = c → Hid (takeL raw (ws.take (k + 1)) f = takeL raw (ws.take k) f ++ [c]) := fun c hc => Lib.hid (by rw [hK, hc])
      have arm : ∀ c : UInt8, (wr.alloc (.cells #[B c] 5)).ownsRow w.heap.size 5 1 u7 k (bs (takeL raw (ws.take k) f)) ∧ Rd (wr.alloc (.cells #[B c] 5)) (.slice (some ⟨wr.heap.size, 0, none⟩) 1 1) [c] ∧ Below w.heap.size w (wr.alloc (.cells #[B c] 5)) := fun c =>
        ⟨own_keep' ho ((Below.refl wr.heap.size wr).alloc (Nat.le_refl _) _), Rd.ofOwn' (World.ownsRow_lit wr #[B c] 1 (Nat.le_refl _) (by simp [maxLen]) (by simp)) (by simp), hb.alloc hbs _⟩
      clear hK ho hb
      by_cases hge : (j : Int) < f
      · have hd : decide ((j : Int) < f) = true := by simpa using hge
        have HK := fin 0 (by unfold sym; rw [if_pos hge])
        obtain ⟨ho6, hr6, hb6⟩ := arm 0
        have hb6s := hb6.size
        clear fin arm
        go_wp2_with (refine wpList_appB rfl _ _ rfl Try.underlying43 Try.infoU8 ho6 rfl hr6 rfl (by simp; omega) hb6s ?_; intro v7 w7 hown7 hgr7 _)
        have hb7 := hb6.grown hgr7 hb6s (ownBlock_ge' ho6)
        rw [List.length_singleton, ← HK.out] at hown7
        clear hb6 ho6 hr6 hgr7
        go_roundw
        case rel => exact ⟨k + 1, by omega, by go_num, hown7, hb7⟩
        case measure => simp [intOf]; omega
      · have hd : decide ((j : Int) < f) = false := by simpa using hge
        have HK := fin (G.ix raw j) (by unfold sym; rw [if_neg hge, Int.toNat_natCast])
        obtain ⟨ho6, hr6, hb6⟩ := arm (G.ix raw j)
        have hb6s := hb6.size
        clear fin arm hge
        go_wp2_with (refine wpList_appB rfl _ _ rfl Try.underlying43 Try.infoU8 ho6 rfl hr6 rfl (by simp; omega) hb6s ?_; intro v7 w7 hown7 hgr7 _)
        have hb7 := hb6.grown hgr7 hb6s (ownBlock_ge' ho6)
        rw [List.length_singleton, ← HK.out] at hown7
        clear hb6 ho6 hr6 hgr7
        go_roundw
        case rel => exact ⟨k + 1, by omega, by go_num, hown7, hb7⟩
        case measure => simp [intOf]; omega
    · obtain rfl : k = ws.length := by omega
      rw [List.take_length] at ho
      have hrd : Rd wr u7 (takeL raw ws f) := Rd.ofOwn' ho (by omega)
      obtain ⟨a3, c3, rfl⟩ := hrd.form
      have hcx := run_str (P := Try.prog) Try.underlying43 Try.underlying5 Try.underlying9 hrd
      clear ho hrd
      go_wp2_with fail
      go_ret
      exact ⟨rfl, hb⟩
end Go.Proofs.Ytepdcpbgdfjobaa.W8
