/- Parts: XGc -/
import Derived.Test.YtflmjdjkfognjaaGreatTe37
import Derived.Test.YtflmjdjkfognjaaGreatTe07
import Derived.Maps.RangeWalk
import Derived.Laws.IdiomRangeMap
namespace Go.Proofs.YtflmjdjkfognjaaGreat.D12
open Go.RowKit Go.Maps C9
open W8 (is)
set_option linter.unusedVariables false
def xorK (raw : List UInt8) (ch : Nat → UInt8) (left : Lit → Bool) : List UInt8 := (List.range 2352).map fun k => if left (.int .i64 (k : Nat)) = true then byteA raw k else byteA raw k ^^^ ch k
def xorA (raw : List UInt8) (ch : Nat → UInt8) : List UInt8 := (List.range 2352).map fun k => byteA raw k ^^^ ch k
def zerK (b : List UInt8) (G : List Int) : List UInt8 := (List.range 2352).map fun k => if ((k : Nat) : Int) ∈ G then 0 else byteA b k
theorem xorK_len (raw : List UInt8) (ch : Nat → UInt8) (left : Lit → Bool) : (xorK raw ch left).length = 2352 := by simp [xorK]
theorem xorA_len (raw : List UInt8) (ch : Nat → UInt8) : (xorA raw ch).length = 2352 := by simp [xorA]
theorem zerK_len (b : List UInt8) (G : List Int) : (zerK b G).length = 2352 := by simp [zerK]
theorem map_ix {f : Nat → UInt8} {k : Nat} (h : k < 2352) : G.ix ((List.range 2352).map f) k = f k := by
  unfold G.ix
  rw [List.getD_eq_getElem?_getD, List.getElem?_map, List.getElem?_range h]
  rfl
theorem map_set {f g : Nat → UInt8} {k : Nat} {c : UInt8} (hk : g k = c) (ho : ∀ j, j ≠ k → g j = f j) : ((List.range 2352).map f).set k c = (List.range 2352).map g := by
  apply List.ext_getElem?
  intro j
  rw [List.getElem?_set]
  by_cases e : k = j
  · subst e
    rw [if_pos rfl]
    by_cases hj : k < 2352
    · simp [hj, hk]
    · simp [hj]
  · rw [if_neg e, List.getElem?_map, List.getElem?_map]
    by_cases hj : j < 2352
    · rw [List.getElem?_range hj, Option.map_some, Option.map_some, ho j (fun h => e h.symm)]
    · rw [List.getElem?_eq_none (by simpa using hj)]; rfl
theorem xorK_ix {raw : List UInt8} {ch : Nat → UInt8} {left : Lit → Bool} {k : Nat} (hk : k < 2352) (h : left (.int .i64 (k : Nat)) = true) : G.ix (xorK raw ch left) k = byteA raw k := by
  unfold xorK
  rw [map_ix hk, if_pos h]
theorem xorK_step {raw : List UInt8} {ch : Nat → UInt8} {left : Lit → Bool} {k : Nat} (h : left (.int .i64 (k : Nat)) = true) : (xorK raw ch left).set k (byteA raw k ^^^ ch k) = xorK raw ch (fun z => left z && !z.sameKey (.int .i64 (k : Nat))) := by
  unfold xorK
  refine map_set ?_ fun j hj => ?_
  · simp [Lit.sameKey]
  · have : ¬ ((j : Nat) : Int) = (k : Nat) := by omega
    simp [Lit.sameKey, this]
theorem xorK_end {raw : List UInt8} {ch : Nat → UInt8} {left : Lit → Bool} (h : ∀ kl, left kl = false) : xorK raw ch left = xorA raw ch := by
  unfold xorK xorA
  exact List.map_congr_left fun k _ => by rw [h, if_neg (by decide)]
theorem xorK_start {raw : List UInt8} {ch : Nat → UInt8} {D : DataW Unit} (hr : raw.length = 2352) (hf : ∀ k : Nat, k < 2352 → D.atKey (.int .i64 k) (.lit (.int .u8 0)) = .lit (.int .u8 (ch k).toNat)) : raw = xorK raw ch (Maps.has D) := by
  unfold xorK
  apply List.ext_getElem?
  intro k
  by_cases hk : k < 2352
  · rw [List.getElem?_map, List.getElem?_range hk, Option.map_some, List.getElem?_eq_getElem (by omega)]
    have e : byteA raw k = raw[k]'(by omega) := by unfold byteA atD; rw [List.getElem?_eq_getElem (by omega)]; rfl
    cases hh : Maps.has D (.int .i64 (k : Nat)) with
    | true => rw [if_pos rfl, e]
    | false =>
      have h1 := hf k hk
      rw [Maps.atKey_of_not_has hh] at h1
      have h2 : (ch k).toNat = 0 := by simp at h1; omega
      have h3 : ch k = 0 := UInt8.toNat_inj.1 h2
      rw [if_neg (by decide), h3, e]
      simp
  · rw [List.getElem?_eq_none (by omega), List.getElem?_eq_none (by simpa using hk)]
theorem zerK_step {b : List UInt8} {G : List Int} {x : Nat} : (zerK b G).set x 0 = zerK b (G ++ [(x : Int)]) := by
  unfold zerK
  refine map_set ?_ fun j hj => ?_
  · simp
  · have : ¬ ((j : Nat) : Int) = (x : Nat) := by omega
    simp [this]
theorem zerK_nil {b : List UInt8} (h : b.length = 2352) : b = zerK b [] := by
  unfold zerK
  apply List.ext_getElem?
  intro k
  by_cases hk : k < 2352
  · rw [List.getElem?_map, List.getElem?_range hk, Option.map_some, List.getElem?_eq_getElem (by omega)]
    simp [byteA, atD, show k < b.length by omega]
  · rw [List.getElem?_eq_none (by omega), List.getElem?_eq_none (by simpa using hk)]
theorem zerK_all (M : Med) (i : Nat) : zerK (xorA (M.sec i).raw (M.sec i).ch) (M.gone i) = M.out i := by
  unfold zerK Med.out
  refine List.map_congr_left fun k hk => ?_
  have hk' := List.mem_range.1 hk
  have e : byteA (xorA (M.sec i).raw (M.sec i).ch) k = byteA (M.sec i).raw k ^^^ (M.sec i).ch k := by
    have := map_ix (f := fun k => byteA (M.sec i).raw k ^^^ (M.sec i).ch k) hk'
    exact this
  rw [e]
  by_cases h : M.goneP i k = true
  · rw [if_pos h, if_pos ((mem_gone M i _).2 ⟨k, hk', h, rfl⟩)]
  · rw [if_neg h, if_neg fun h2 => by
      obtain ⟨j, _, h3, h4⟩ := (mem_gone M i _).1 h2
      have : k = j := by omega
      exact h (this ▸ h3)]
def ReadP (R : List UInt8 × List Int × Int) (w : World) (e : Ending) (w' : World) : Prop := ∃ v, e = .returned (.tuple #[.string (str R.1), v, .int .i64 R.2.2]) ∧ w'.ownsRow w.heap.size 3 1 v R.2.1.length (is R.2.1) ∧ Below w.heap.size w w'
theorem ReadP.bad (c : Int) {w w' : World} {e : Ending} (he : e = .returned (.tuple #[.string (str []), .slice none 0 0, .int .i64 c])) (hb : Below w.heap.size w w') : ReadP ([], [], c) w e w' := ⟨_, he, ⟨rfl, .inl ⟨rfl, rfl⟩⟩, hb⟩
set_option maxRecDepth 100000 in
set_option maxHeartbeats 1000000 in
theorem read12_range {w : World} {g : Nat} {M : Med} {X R : Nat → Prop} {N : Nat} (h : MedW w g M X R) (ho : M.Ok N) (a : Int) (hr : ¬ (0 ≤ a ∧ a < (M.n : Int))) :
    Calls Tryz.prog 129 #[.pointer (some ⟨g, 0, none⟩), .int .i64 a] w (ReadP ([], [], 2) w) := by
  obtain ⟨L, hc⟩ := h
  have HH := Lib.hid (has12 hc ho.n.2 a)
  rw [decide_eq_false hr] at HH
  clear hc ho hr
  go_enter Tryz.func129, Tryz.ntmps129
  go_wp2_with fail
  refine HH.out.mono ?_
  rintro e w' ⟨rfl, rfl⟩
  go_wp2_with fail
  go_ret3
  exact .bad 2 rfl (Below.refl _ _)
set_option maxRecDepth 100000 in
set_option maxHeartbeats 2000000 in
theorem read12_bad {w : World} {g : Nat} {M : Med} {X R : Nat → Prop} {N : Nat} (h : MedW w g M X R) (ho : M.Ok N) {k : Nat} (hk : k < M.n) (h1 : (M.sec k).st ≠ 1) :
    Calls Tryz.prog 129 #[.pointer (some ⟨g, 0, none⟩), .int .i64 (k : Nat)] w (ReadP ([], [], if (M.sec k).st = 0 then 8 else 9) w) := by
  obtain ⟨L, hc⟩ := h
  have HH := Lib.hid (has12 hc ho.n.2 (k : Int))
  rw [decide_eq_true (show 0 ≤ (k : Int) ∧ (k : Int) < (M.n : Int) by omega)] at HH
  obtain ⟨c0, c1, c2, c3, c4⟩ := hc.cells
  rw [hc.n] at c2
  have hkL : k < L.S.length := by rw [hc.n]; exact hk
  have hst3 := (ho.sec k hk).st
  have s0 := hc.surf hkL (j := 0) (by decide)
  have s1 := hc.surf hkL (j := 1) (by decide)
  have s2 := hc.surf hkL (j := 2) (by decide)
  have s3 := hc.surf hkL (j := 3) (by decide)
  have s4 := hc.surf hkL (j := 4) (by decide)
  simp only [smD, List.getElem?_cons_zero, List.getElem?_cons_succ, hc.at_, Nat.add_zero] at s0 s1 s2 s3 s4
  generalize (atD sm0 L.S k).e = mE at *
  generalize (atD sm0 L.S k).c = mC at *
  generalize str (M.sec k).raw = sraw at *
  clear hc ho c0 c1 c3 c4
  generalize M.n = n at *
  by_cases h0 : (M.sec k).st = 0
  · rw [if_pos h0]
    have q0 : (((M.sec k).st : Int) == 0) = true := by rw [h0]; rfl
    clear h0
    go_enter Tryz.func129, Tryz.ntmps129
    go_wp2_with fail
    refine HH.out.mono ?_
    rintro e w' ⟨rfl, rfl⟩
    go_wp2_with fail
    go_ret3
    exact .bad 8 rfl ((Below.refl _ _).alloc (Nat.le_refl _) _)
  · rw [if_neg h0]
    have q0 : (((M.sec k).st : Int) == 0) = false := by rw [beq_eq_false_iff_ne]; omega
    by_cases h2 : (M.sec k).st = 2
    · have q2 : (((M.sec k).st : Int) == 2) = true := by rw [h2]; rfl
      clear h0 h2
      go_enter Tryz.func129, Tryz.ntmps129
      go_wp2_with fail
      refine HH.out.mono ?_
      rintro e w' ⟨rfl, rfl⟩
      go_wp2_with fail
      go_ret3
      exact .bad 9 rfl ((Below.refl _ _).alloc (Nat.le_refl _) _)
    · have q2 : (((M.sec k).st : Int) == 2) = false := by rw [beq_eq_false_iff_ne]; omega
      have q3 : (((M.sec k).st : Int) == 3) = true := by rw [beq_iff_eq]; omega
      clear h0 h2
      go_enter Tryz.func129, Tryz.ntmps129
      go_wp2_with fail
      refine HH.out.mono ?_
      rintro e w' ⟨rfl, rfl⟩
      go_wp2_with fail
      go_ret3
      exact .bad 9 rfl ((Below.refl _ _).alloc (Nat.le_refl _) _)
theorem xorA_zero {raw : List UInt8} {ch : Nat → UInt8} (hr : raw.length = 2352) (h : ∀ k, ch k = 0) : xorA raw ch = raw := by
  have e := zerK_nil hr
  conv => rhs; rw [e]
  unfold xorA zerK
  exact List.map_congr_left fun k _ => by rw [h]; simp
theorem Tryz.sizeU8 : (Tryz.prog.info? 5).map (·.size) = some 1 := by kernel_rfl
set_option maxRecDepth 100000 in
set_option maxHeartbeats 4000000 in
theorem read12_nil {w : World} {g : Nat} {L : Lay} {M : Med} {X R : Nat → Prop} {N : Nat} (h : MedC w g L M X R) (ho : M.Ok N) {k : Nat} (hk : k < M.n) (h1 : (M.sec k).st = 1) (hch : (atD sm0 L.S k).c = none) :
    Calls Tryz.prog 129 #[.pointer (some ⟨g, 0, none⟩), .int .i64 (k : Nat)] w (ReadP (M.out k, M.gone k, 0) w) := by
  have hc := h
  have HM : Hid (MedW w g M X R) := Lib.hid ⟨L, h⟩
  clear h
  have HH := Lib.hid (has12 hc ho.n.2 (k : Int))
  rw [decide_eq_true (show 0 ≤ (k : Int) ∧ (k : Int) < (M.n : Int) by omega)] at HH
  obtain ⟨c0, c1, c2, c3, c4⟩ := hc.cells
  rw [hc.n] at c2
  have hkL : k < L.S.length := by rw [hc.n]; exact hk
  have hst3 := (ho.sec k hk).st
  have s0 := hc.surf hkL (j := 0) (by decide)
  have s1 := hc.surf hkL (j := 1) (by decide)
  have s2 := hc.surf hkL (j := 2) (by decide)
  have s3 := hc.surf hkL (j := 3) (by decide)
  have s4 := hc.surf hkL (j := 4) (by decide)
  simp only [smD, List.getElem?_cons_zero, List.getElem?_cons_succ, hc.at_, Nat.add_zero] at s0 s1 s2 s3 s4
  have hcm : ChM w (atD sm0 L.S k).c (M.sec k).ch := by
    have := hc.maps k false hkL
    unfold SM.W at this
    rwa [if_neg (by decide), hc.at_] at this
  have hrl := (ho.sec k hk).one h1
  rw [hch] at s4 hcm
  have HO := Lib.hid ho
  have q0 : (((M.sec k).st : Int) == 0) = false := by rw [h1]; rfl
  have q2 : (((M.sec k).st : Int) == 2) = false := by rw [h1]; rfl
  have q3 : (((M.sec k).st : Int) == 3) = false := by rw [h1]; rfl
  generalize (atD sm0 L.S k).e = mE at *
  obtain ⟨sraw, hsr⟩ : ∃ s, s = str (M.sec k).raw := ⟨_, rfl⟩
  have hsz : sraw.size = 2352 := by rw [hsr, str_size, hrl]
  have hsd : sraw.data.toList = (M.sec k).raw := by rw [hsr]; rfl
  rw [← hsr] at s2
  have HSZ := Lib.hid hsz
  have HSD := Lib.hid hsd
  have HRL := Lib.hid hrl
  have HCM := Lib.hid hcm
  clear hc ho c0 c1 c3 c4 h1 hsr hsz hsd hrl hcm hch hst3
  obtain ⟨n, hMn⟩ : ∃ n, n = M.n := ⟨_, rfl⟩
  rw [← hMn] at c2
  have hkn : k < n := by omega
  have HNN := Lib.hid hMn
  clear hMn
  go_enter Tryz.func129, Tryz.ntmps129
  go_wp2_with fail
  refine HH.out.mono ?_
  rintro e w' ⟨rfl, rfl⟩
  go_upto_region 11 with (refine wpList_bytes rfl _ rfl Tryz.underlying9 Tryz.underlying123 Tryz.underlying5 rfl ?_; intro w1 cap hr1 hb1 hcap1)
  rw [HSZ.out]
  rw [HSD.out] at hr1
  have hA := (Below.refl w.heap.size w).alloc (Nat.le_refl _) (.cells #[.int .i64 (M.sec k).st, .int .i64 (M.sec k).cnt, .string sraw, .map mE, .map none] 216)
  have hsb := (Bx.new w 216 [.int .i64 (M.sec k).st, .int .i64 (M.sec k).cnt, .string sraw, .map mE, .map none]).call hb1
  have d4 := hsb.cell (i := 4) rfl
  have hbw := hA.trans (hb1.mono hA.size)
  have hg1e : (w.alloc (.cells #[.int .i64 (M.sec k).st, .int .i64 (M.sec k).cnt, .string sraw, .map mE, .map none] 216)).heap.size = w.heap.size + 1 := by simp
  rw [hg1e] at hr1
  obtain ⟨g1, hg1⟩ : ∃ g1, g1 = w.heap.size + 1 := ⟨_, rfl⟩
  rw [← hg1] at hr1 ⊢
  have HG1 : Hid (w.heap.size ≤ g1) := Lib.hid (by omega)
  have HR1 := Lib.hid hr1
  have HB1 := Lib.hid hbw
  have HCAP := Lib.hid hcap1
  clear hA hb1 hsb hbw hg1e hr1 hg1 hcap1 c2 s0 s1 s2 s3 s4 HH
  have hrg := run_range_nilMap (P := Tryz.prog) w1 201 3 5 Tryz.underlying201
  have hnx : ∀ ty, (Instr.next (.pointer (some ⟨w1.heap.size, 0, none⟩)) false ty).run Tryz.prog (w1.alloc (.mapIter none 0 #[] 0)) = _ := fun ty => run_next_nilMap _ ty 0 0 #[]
  go_wp2_with fail
  refine wp_loop_rounds 1 ?_
  rw [rounds_succ]
  have hA := (Below.refl w1.heap.size w1).alloc (Nat.le_refl _) (.mapIter none 0 #[] 0)
  have hxa : xorA (M.sec k).raw (M.sec k).ch = (M.sec k).raw := xorA_zero HRL.out HCM.out
  have HB2 := Lib.hid (HB1.out.trans (hA.mono HB1.out.size))
  have hr2 := HR1.out.below hA
  rw [← hxa] at hr2
  have HR2 := Lib.hid hr2
  clear hr2 hxa hA
  go_upto_region 15 with (fail)
  clear hrg hnx
  generalize w1.alloc (.mapIter none 0 #[] 0) = w2 at *
  go_wp2_with fail
  refine ((erased12 (HM.out.below HB2.out) HO.out hk).mono ?_)
  rintro e w3 ⟨v3, rfl, ho3, hb3⟩
  have HB3 := Lib.hid (HB2.out.trans (hb3.mono HB2.out.size))
  have HR3 := Lib.hid (HR2.out.below hb3)
  obtain ⟨a3, c3, hv3⟩ := ownD_form ho3
  subst hv3
  have HO3 := Lib.hid ho3
  have HGb := Lib.hid (gone_bd M k)
  have hgl : (M.gone k).length ≤ 2352 := by
    unfold Med.gone
    rw [List.length_map]
    exact Nat.le_trans (List.length_filter_le _ _) (by simp)
  have HG2 : Hid (g1 < w2.heap.size) := Lib.hid HR2.out.lt
  clear ho3 hb3
  go_wp2_with fail
  have hst := HR3.out
  rw [zerK_nil (xorA_len (M.sec k).raw (M.sec k).ch)] at hst
  go_loopw [55] (fun vk wr => ∃ j : Nat, j ≤ (M.gone k).length ∧ vk = .int .i64 j ∧ Row wr 5 g1 cap (zerK (xorA (M.sec k).raw (M.sec k).ch) ((M.gone k).take j)) ∧ wr.ownsRow w2.heap.size 3 1 (.slice a3 (M.gone k).length c3) (M.gone k).length (is (M.gone k)) ∧ Below w.heap.size w wr) (fun vk _ => (M.gone k).length - (RowKit.intOf vk).toNat)
  case atStart => exact ⟨0, by omega, rfl, hst, HO3.out, HB3.out⟩
  case round =>
    clear hst
    obtain ⟨j, hj, rfl, hrw, hro, hbb⟩ := hrel
    by_cases hlt : j < (M.gone k).length
    · obtain ⟨ga, ca, hva, hga1, hga2⟩ := ownD_addr hro (by omega)
      simp only [Value.slice.injEq] at hva
      obtain ⟨hva, hva2, hva3⟩ := hva
      clear hva2 hva3
      have hcl : wr.cell? ⟨ga, j, none⟩ = some (.int .i64 (ixI (M.gone k) j)) := by
        have h1 := hro
        rw [hva] at h1
        have := h1.cells (g := ga) rfl j _ (W8.is_get hlt)
        rwa [Addr.add_lit, Nat.zero_add] at this
      have hix := fun w' => run_idxS Tryz.underlying53 Tryz.sizeInt9 (cap := c3) (n := (M.gone k).length) (k := j) (b := ga) (off := 0) hva hlt _ rfl w'
      simp only [Nat.mul_one, Nat.zero_add] at hix
      have hxb := HGb.out _ (W8.ixI_mem hlt)
      have HTK : Hid ((M.gone k).take (j + 1) = (M.gone k).take j ++ [ixI (M.gone k) j]) := Lib.hid (by rw [List.take_succ_eq_append_getElem hlt, ← W8.ixI_get hlt])
      generalize hxe : ixI (M.gone k) j = x at *
      clear hxe
      obtain ⟨y, rfl⟩ : ∃ y : Nat, x = y := ⟨x.toNat, by omega⟩
      have hy : y < 2352 := by omega
      have hix2 := fun w' => run_idxS Tryz.underlying123 Tryz.sizeU8 (cap := cap) (n := 2352) (k := y) (b := g1) (off := 0) rfl hy _ rfl w'
      simp only [Nat.mul_one, Nat.zero_add] at hix2
      have hcy := hrw.cell y (by rw [zerK_len]; exact hy)
      have hfy := hrw.frozen y (by have := hrw.le; rw [zerK_len] at this; omega)
      have hset := hrw.store y 0 (by rw [zerK_len]; exact hy)
      rw [zerK_step, ← HTK.out] at hset
      have HSET := Lib.hid (show Row (wr.setCell ⟨g1, y, none⟩ (.int .u8 0)) _ _ _ _ from hset)
      have HRO := Lib.hid (ownD_far hro (p := ⟨g1, y, none⟩) HG2.out (.int .u8 0))
      have HBB := Lib.hid (hbb.setCell (p := ⟨g1, y, none⟩) HG1.out (.int .u8 0))
      clear hset hrw hro hbb hxb HTK hga1 hga2 hva
      generalize hold : B (G.ix _ y) = old at hcy
      clear hold
      go_wp2_with fail
      go_roundw
      case rel => exact ⟨j + 1, by omega, by go_num, HSET.out, HRO.out, HBB.out⟩
      case measure => simp [RowKit.intOf]; omega
    · obtain rfl : j = (M.gone k).length := by omega
      rw [List.take_length, zerK_all] at hrw
      have hl : (M.out k).length = 2352 := out_length M k
      have hrd := hrw.rd (by omega)
      rw [hl] at hrd
      have hcx := run_str (P := Tryz.prog) Tryz.underlying123 Tryz.underlying5 Tryz.underlying9 hrd
      have HFIN : Hid (ReadP (M.out k, M.gone k, 0) w (.returned (.tuple #[.string (str (M.out k)), .slice a3 (M.gone k).length c3, .int .i64 0])) wr) := Lib.hid ⟨_, rfl, own_mono hro HB2.out.size, hbb⟩
      clear hrw hro hrd hbb
      go_wp2_with fail
      go_ret3
      exact HFIN.out
set_option maxRecDepth 100000 in
set_option maxHeartbeats 4000000 in
theorem read12_map {w : World} {g : Nat} {L : Lay} {M : Med} {X R : Nat → Prop} {N : Nat} (h : MedC w g L M X R) (ho : M.Ok N) {k : Nat} (hk : k < M.n) (h1 : (M.sec k).st = 1) {b : Nat} (hch : (atD sm0 L.S k).c = some b) :
    Calls Tryz.prog 129 #[.pointer (some ⟨g, 0, none⟩), .int .i64 (k : Nat)] w (ReadP (M.out k, M.gone k, 0) w) := by
  have hc := h
  have HM : Hid (MedW w g M X R) := Lib.hid ⟨L, h⟩
  clear h
  have HH := Lib.hid (has12 hc ho.n.2 (k : Int))
  rw [decide_eq_true (show 0 ≤ (k : Int) ∧ (k : Int) < (M.n : Int) by omega)] at HH
  obtain ⟨c0, c1, c2, c3, c4⟩ := hc.cells
  rw [hc.n] at c2
  have hkL : k < L.S.length := by rw [hc.n]; exact hk
  have hst3 := (ho.sec k hk).st
  have s0 := hc.surf hkL (j := 0) (by decide)
  have s1 := hc.surf hkL (j := 1) (by decide)
  have s2 := hc.surf hkL (j := 2) (by decide)
  have s3 := hc.surf hkL (j := 3) (by decide)
  have s4 := hc.surf hkL (j := 4) (by decide)
  simp only [smD, List.getElem?_cons_zero, List.getElem?_cons_succ, hc.at_, Nat.add_zero] at s0 s1 s2 s3 s4
  have hcm : ChM w (atD sm0 L.S k).c (M.sec k).ch := by
    have := hc.maps k false hkL
    unfold SM.W at this
    rwa [if_neg (by decide), hc.at_] at this
  have hrl := (ho.sec k hk).one h1
  rw [hch] at s4 hcm
  have HO := Lib.hid ho
  have q0 : (((M.sec k).st : Int) == 0) = false := by rw [h1]; rfl
  have q2 : (((M.sec k).st : Int) == 2) = false := by rw [h1]; rfl
  have q3 : (((M.sec k).st : Int) == 3) = false := by rw [h1]; rfl
  generalize (atD sm0 L.S k).e = mE at *
  obtain ⟨sraw, hsr⟩ : ∃ s, s = str (M.sec k).raw := ⟨_, rfl⟩
  have hsz : sraw.size = 2352 := by rw [hsr, str_size, hrl]
  have hsd : sraw.data.toList = (M.sec k).raw := by rw [hsr]; rfl
  rw [← hsr] at s2
  have HSZ := Lib.hid hsz
  have HSD := Lib.hid hsd
  have HRL := Lib.hid hrl
  have HCM := Lib.hid hcm
  clear hc ho c0 c1 c3 c4 h1 hsr hsz hsd hrl hcm hch hst3
  obtain ⟨n, hMn⟩ : ∃ n, n = M.n := ⟨_, rfl⟩
  rw [← hMn] at c2
  have hkn : k < n := by omega
  have HNN := Lib.hid hMn
  clear hMn
  go_enter Tryz.func129, Tryz.ntmps129
  go_wp2_with fail
  refine HH.out.mono ?_
  rintro e w' ⟨rfl, rfl⟩
  go_upto_region 11 with (refine wpList_bytes rfl _ rfl Tryz.underlying9 Tryz.underlying123 Tryz.underlying5 rfl ?_; intro w1 cap hr1 hb1 hcap1)
  rw [HSZ.out]
  rw [HSD.out] at hr1
  have hA := (Below.refl w.heap.size w).alloc (Nat.le_refl _) (.cells #[.int .i64 (M.sec k).st, .int .i64 (M.sec k).cnt, .string sraw, .map mE, .map (some b)] 216)
  have hsb := (Bx.new w 216 [.int .i64 (M.sec k).st, .int .i64 (M.sec k).cnt, .string sraw, .map mE, .map (some b)]).call hb1
  have d4 := hsb.cell (i := 4) rfl
  have hbw := hA.trans (hb1.mono hA.size)
  have hg1e : (w.alloc (.cells #[.int .i64 (M.sec k).st, .int .i64 (M.sec k).cnt, .string sraw, .map mE, .map (some b)] 216)).heap.size = w.heap.size + 1 := by simp
  rw [hg1e] at hr1
  obtain ⟨g1, hg1⟩ : ∃ g1, g1 = w.heap.size + 1 := ⟨_, rfl⟩
  rw [← hg1] at hr1 ⊢
  have HG1 : Hid (w.heap.size ≤ g1) := Lib.hid (by omega)
  have HR1 := Lib.hid hr1
  have HB1 := Lib.hid hbw
  have HCAP := Lib.hid hcap1
  clear hA hb1 hsb hbw hg1e hr1 hg1 hcap1 c2 s0 s1 s2 s3 s4 HH
  obtain ⟨D, hown, hbd, hat⟩ := HCM.out.kept (w' := w1) fun c hc => HB1.out.block c (by
    obtain rfl := Option.some.inj hc
    obtain ⟨es, clock, hb⟩ := HCM.out.map
    exact (Array.getElem?_eq_some_iff.1 hb).1)
  have HBD := Lib.hid hbd
  have HAT := Lib.hid hat
  clear hbd hat
  go_wp2_with (first
    | (at_range; refine wpList_range_own _ rfl _ 201 rfl 3 5 lawI12 Tryz.underlying201 _ b 2352 D rfl hown ?_; intro w0 hrg0 hg0 hs0)
    | fail)
  go_frame
  have hb0 : Below w1.heap.size w1 w0 := (Below.refl _ _).grown hg0 (Nat.le_refl _) (fun k hk => by cases hk)
  have HB0 := Lib.hid (HB1.out.trans (hb0.mono HB1.out.size))
  have hr0 := HR1.out.below hb0
  rw [xorK_start HRL.out HAT.out] at hr0
  have HR0 := Lib.hid hr0
  have HRG := Lib.hid hrg0
  have HG1L : Hid (g1 < w1.heap.size) := Lib.hid HR1.out.lt
  have HBG : Hid (b < w.heap.size) := Lib.hid (by
    obtain ⟨es, clock, hb⟩ := HCM.out.map
    exact (Array.getElem?_eq_some_iff.1 hb).1)
  clear hb0 hown hg0 hrg0 hs0 hr0 d4
  obtain ⟨r, hr⟩ : ∃ r, r = w1.heap.size := ⟨_, rfl⟩
  have HRE := Lib.hid hr
  rw [← hr] at HRG ⊢
  clear hr
  go_loopw [9] (fun _ wr => ∃ (left : Lit → Bool) (cnt : Nat), wr.ranges Tryz.prog 3 (plainElem Tryz.prog 5) b r 2352 D left cnt ∧ Row wr 5 g1 cap (xorK (M.sec k).raw (M.sec k).ch left) ∧ Below w.heap.size w wr) (fun _ wr => wr.rangeLeft b r)
  case atStart => exact ⟨_, _, HRG.out, HR0.out, HB0.out⟩
  case round =>
    obtain ⟨left, cnt, hrg, hrw, hb⟩ := hrel
    have HRW := Lib.hid hrw
    have HB := Lib.hid hb
    clear hrw hb HRG HR0 HB0
    obtain ⟨w2, rfl⟩ : ∃ w2 : World, w2 = wr := ⟨_, rfl⟩
    go_wp2_with (first
      | (at_next; refine wpList_next_ranges_ii _ rfl _ rfl 3 5 .i64 .u8 lawI12 Tryz.underlying3 Tryz.underlying5 b r 2352 _ _ _ rfl hrg ?_ ?_)
      | fail)
    · intro _ hl0
      have HB2 := HB
      have hr2 := HRW.out
      rw [xorK_end hl0] at hr2
      have HR2 := Lib.hid hr2
      clear hr2 hrg hl0
      go_wp2_with fail
      refine ((erased12 (HM.out.below HB2.out) HO.out hk).mono ?_)
      rintro e w3 ⟨v3, rfl, ho3, hb3⟩
      have HB3 := Lib.hid (HB2.out.trans (hb3.mono HB2.out.size))
      have HR3 := Lib.hid (HR2.out.below hb3)
      obtain ⟨a3, c3, hv3⟩ := ownD_form ho3
      subst hv3
      have HO3 := Lib.hid ho3
      have HGb := Lib.hid (gone_bd M k)
      have hgl : (M.gone k).length ≤ 2352 := by
        unfold Med.gone
        rw [List.length_map]
        exact Nat.le_trans (List.length_filter_le _ _) (by simp)
      have HG2 : Hid (g1 < w2.heap.size) := Lib.hid HR2.out.lt
      clear ho3 hb3
      go_wp2_with fail
      have hst := HR3.out
      rw [zerK_nil (xorA_len (M.sec k).raw (M.sec k).ch)] at hst
      go_loopw [55] (fun vk wr => ∃ j : Nat, j ≤ (M.gone k).length ∧ vk = .int .i64 j ∧ Row wr 5 g1 cap (zerK (xorA (M.sec k).raw (M.sec k).ch) ((M.gone k).take j)) ∧ wr.ownsRow w2.heap.size 3 1 (.slice a3 (M.gone k).length c3) (M.gone k).length (is (M.gone k)) ∧ Below w.heap.size w wr) (fun vk _ => (M.gone k).length - (RowKit.intOf vk).toNat)
      case atStart => exact ⟨0, by omega, rfl, hst, HO3.out, HB3.out⟩
      case round =>
        clear hst
        obtain ⟨j, hj, rfl, hrw, hro, hbb⟩ := hrel
        by_cases hlt : j < (M.gone k).length
        · obtain ⟨ga, ca, hva, hga1, hga2⟩ := ownD_addr hro (by omega)
          simp only [Value.slice.injEq] at hva
          obtain ⟨hva, hva2, hva3⟩ := hva
          clear hva2 hva3
          have hcl : wr.cell? ⟨ga, j, none⟩ = some (.int .i64 (ixI (M.gone k) j)) := by
            have h1 := hro
            rw [hva] at h1
            have := h1.cells (g := ga) rfl j _ (W8.is_get hlt)
            rwa [Addr.add_lit, Nat.zero_add] at this
          have hix := fun w' => run_idxS Tryz.underlying53 Tryz.sizeInt9 (cap := c3) (n := (M.gone k).length) (k := j) (b := ga) (off := 0) hva hlt _ rfl w'
          simp only [Nat.mul_one, Nat.zero_add] at hix
          have hxb := HGb.out _ (W8.ixI_mem hlt)
          have HTK : Hid ((M.gone k).take (j + 1) = (M.gone k).take j ++ [ixI (M.gone k) j]) := Lib.hid (by rw [List.take_succ_eq_append_getElem hlt, ← W8.ixI_get hlt])
          generalize hxe : ixI (M.gone k) j = x at *
          clear hxe
          obtain ⟨y, rfl⟩ : ∃ y : Nat, x = y := ⟨x.toNat, by omega⟩
          have hy : y < 2352 := by omega
          have hix2 := fun w' => run_idxS Tryz.underlying123 Tryz.sizeU8 (cap := cap) (n := 2352) (k := y) (b := g1) (off := 0) rfl hy _ rfl w'
          simp only [Nat.mul_one, Nat.zero_add] at hix2
          have hcy := hrw.cell y (by rw [zerK_len]; exact hy)
          have hfy := hrw.frozen y (by have := hrw.le; rw [zerK_len] at this; omega)
          have hset := hrw.store y 0 (by rw [zerK_len]; exact hy)
          rw [zerK_step, ← HTK.out] at hset
          have HSET := Lib.hid (show Row (wr.setCell ⟨g1, y, none⟩ (.int .u8 0)) _ _ _ _ from hset)
          have HRO := Lib.hid (ownD_far hro (p := ⟨g1, y, none⟩) HG2.out (.int .u8 0))
          have HBB := Lib.hid (hbb.setCell (p := ⟨g1, y, none⟩) HG1.out (.int .u8 0))
          clear hset hrw hro hbb hxb HTK hga1 hga2 hva
          generalize hold : B (G.ix _ y) = old at hcy
          clear hold
          go_wp2_with fail
          go_roundw
          case rel => exact ⟨j + 1, by omega, by go_num, HSET.out, HRO.out, HBB.out⟩
          case measure => simp [RowKit.intOf]; omega
        · obtain rfl : j = (M.gone k).length := by omega
          rw [List.take_length, zerK_all] at hrw
          have hl : (M.out k).length = 2352 := out_length M k
          have hrd := hrw.rd (by omega)
          rw [hl] at hrd
          have hcx := run_str (P := Tryz.prog) Tryz.underlying123 Tryz.underlying5 Tryz.underlying9 hrd
          have HFIN : Hid (ReadP (M.out k, M.gone k, 0) w (.returned (.tuple #[.string (str (M.out k)), .slice a3 (M.gone k).length c3, .int .i64 0])) wr) := Lib.hid ⟨_, rfl, own_mono hro HB2.out.size, hbb⟩
          clear hrw hro hrd hbb
          go_wp2_with fail
          go_ret3
          exact HFIN.out
    · intro x c w3 cnt3 hwx hwc hlx hat3 hrg3 hlt3 hg3 hs3 hen3
      have hx := HBD.out x (Maps.has_true_of_atKey hat3)
      obtain ⟨y, rfl⟩ : ∃ y : Nat, x = y := ⟨x.toNat, by omega⟩
      have hy : y < 2352 := by omega
      obtain ⟨cy, hcy⟩ : ∃ cy, cy = (M.sec k).ch y := ⟨_, rfl⟩
      have hc : c = (cy.toNat : Int) := by
        have h1 := HAT.out y hy
        rw [hat3] at h1
        rw [hcy]
        simpa using h1
      subst hc
      obtain ⟨by_, hby⟩ : ∃ c, c = byteA (M.sec k).raw y := ⟨_, rfl⟩
      have hgr : g1 < r := by rw [HRE.out]; exact HG1L.out
      have hbg : b < g1 := Nat.lt_of_lt_of_le HBG.out HG1.out
      have hrw3 := HRW.out.keep (hg3.block g1 HRW.out.lt (fun e => by have := Option.some.inj e; omega))
      have hcl := hrw3.cell y (by rw [xorK_len]; exact hy)
      have hfz := hrw3.frozen y (by have := hrw3.le; rw [xorK_len] at this; omega)
      rw [xorK_ix hy hlx, ← hby] at hcl
      change w3.cell? ⟨g1, y, none⟩ = some (.int .u8 by_.toNat) at hcl
      have hset := hrw3.store y (by_ ^^^ cy) (by rw [xorK_len]; exact hy)
      rw [hby, hcy, xorK_step hlx, ← hcy, ← hby] at hset
      have HSET := Lib.hid (show Row (w3.setCell ⟨g1, y, none⟩ (.int .u8 (by_ ^^^ cy).toNat)) _ _ _ _ from hset)
      have hgs : w3.grownBy (w3.setCell ⟨g1, y, none⟩ (.int .u8 (by_ ^^^ cy).toNat)) (some g1) := ⟨rfl, rfl, rfl, by simp, fun k h1 h2 => Below.heap_setCell _ _ _ k (fun e => h2 (by rw [e]))⟩
      have HRN := Lib.hid (hrg3.kept hgs (fun e => by have := Option.some.inj e; omega) (fun e => by have := Option.some.inj e; omega))
      have hb3 := HB.out.grown hg3 HB.out.size (fun k hk => by obtain rfl := Option.some.inj hk; have := HG1.out; omega)
      have HBN := Lib.hid (hb3.setCell (p := ⟨g1, y, none⟩) HG1.out (.int .u8 (by_ ^^^ cy).toNat))
      have hix := fun w' => run_idxS Tryz.underlying123 Tryz.sizeU8 (cap := cap) (n := 2352) (k := y) (b := g1) (off := 0) rfl hy _ rfl w'
      simp only [Nat.mul_one, Nat.zero_add] at hix
      have hxr := xorB by_ cy
      have HLE := Lib.hid (show cnt3 < cnt from hlt3)
      have HRGE := Lib.hid hrg
      clear hset hgs hrg3 hrw3 hb3 hgr hbg hat3 hg3 hlx hcy hby hwx hwc hlt3 hrg
      go_wp2_with fail
      go_roundw
      case rel => exact ⟨_, cnt3, HRN.out, HSET.out, HBN.out⟩
      case measure => rw [← UInt8.toNat_xor, HRN.out.left_eq, HRGE.out.left_eq]; exact HLE.out
theorem read12 {w : World} {g : Nat} {M : Med} {X R : Nat → Prop} {N : Nat} (h : MedW w g M X R) (ho : M.Ok N) (a : Int) :
    Calls Tryz.prog 129 #[.pointer (some ⟨g, 0, none⟩), .int .i64 a] w (ReadP (M.readR a) w) := by
  unfold Med.readR
  by_cases hr : 0 ≤ a ∧ a < (M.n : Int)
  · rw [if_pos hr]
    obtain ⟨k, rfl⟩ : ∃ k : Nat, a = k := ⟨a.toNat, by omega⟩
    rw [Int.toNat_natCast]
    have hk : k < M.n := by omega
    by_cases h1 : (M.sec k).st = 1
    · rw [if_neg (by omega), if_pos h1]
      obtain ⟨L, h⟩ := h
      cases hch : (atD sm0 L.S k).c with
      | none => exact read12_nil h ho hk h1 hch
      | some b => exact read12_map h ho hk h1 hch
    · have hb := read12_bad h ho hk h1
      by_cases h0 : (M.sec k).st = 0
      · rw [if_pos h0]
        rw [if_pos h0] at hb
        exact hb
      · rw [if_neg h0, if_neg h1]
        rw [if_neg h0] at hb
        exact hb
  · rw [if_neg hr]
    exact read12_range h ho a hr
end Go.Proofs.YtflmjdjkfognjaaGreat.D12
