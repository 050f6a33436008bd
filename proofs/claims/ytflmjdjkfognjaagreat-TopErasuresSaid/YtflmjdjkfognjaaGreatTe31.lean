/- Parts: XDd -/
import Derived.Test.YtflmjdjkfognjaaGreatTe30
import Derived.Test.YtflmjdjkfognjaaGreatTe14
import Derived.Test.YtflmjdjkfognjaaGreatTe07
import Derived.Deep.CutBlock
namespace Go.Proofs.YtflmjdjkfognjaaGreat.C9
open Go.RowKit W8
set_option linter.unusedVariables false
theorem rwK_zero (F : List (List UInt8)) (N : Nat) : rwK F N 0 = List.replicate N [] := by
  apply List.ext_getElem <;> simp [rwK]
theorem rwK_length (F : List (List UInt8)) (N g : Nat) : (rwK F N g).length = N := by simp [rwK]
theorem rwK_all (F : List (List UInt8)) (N : Nat) : rwK F N N = rwA F N := List.map_congr_left fun h hh => by rw [if_pos (List.mem_range.1 hh)]
theorem rwK_set (F : List (List UInt8)) {N g : Nat} (hg : g < N) : (rwK F N g).set g ((got F g).take 28) = rwK F N (g + 1) := by
  apply List.ext_getElem
  · simp [rwK]
  · intro i h1 h2
    simp only [rwK, List.length_set, List.length_map, List.length_range] at h1
    simp only [rwK, List.getElem_set, List.getElem_map, List.getElem_range]
    by_cases h : g = i
    · subst h; rw [if_pos rfl, if_pos (by omega)]
    · rw [if_neg h]
      by_cases h3 : i < g
      · rw [if_pos h3, if_pos (by omega)]
      · rw [if_neg h3, if_neg (by omega)]
theorem rwK_same (F : List (List UInt8)) {N g : Nat} (hg : g < N) (h : got F g = []) : rwK F N (g + 1) = rwK F N g := by
  rw [← rwK_set F hg, h]
  apply List.ext_getElem
  · simp
  · intro i h1 h2
    simp only [rwK, List.getElem_set, List.getElem_map, List.getElem_range]
    by_cases h3 : g = i
    · subst h3; rw [if_pos rfl, if_neg (by omega)]; rfl
    · rw [if_neg h3]
theorem okK_true {F : List (List UInt8)} (h : okK F F.length) : okF F = true := by
  unfold okF
  rw [List.all_eq_true]
  intro x hx
  obtain ⟨i, hi, rfl⟩ := List.getElem_of_mem hx
  have e : frA F i = F[i] := by unfold frA; rw [List.getElem?_eq_getElem hi]; rfl
  have := h i hi
  rw [e] at this
  simpa using this
theorem okK_false {F : List (List UInt8)} {k : Nat} (hk : k < F.length) (h : ¬ ((frA F k).length = 0 ∨ (frA F k).length = 32)) : okF F = false := by
  rw [Bool.eq_false_iff]
  intro h2
  unfold okF at h2
  rw [List.all_eq_true] at h2
  have := h2 _ (List.getElem_mem hk)
  have e : frA F k = F[k] := by unfold frA; rw [List.getElem?_eq_getElem hk]; rfl
  rw [← e] at this
  exact h (by simpa using this)
def DecP (R : List UInt8 × List Int × Int) (w : World) (e : Ending) (w' : World) : Prop := ∃ v, e = .returned (.tuple #[.string (str R.1), v, .int .i64 R.2.2]) ∧ w'.ownsRow w.heap.size 3 1 v R.2.1.length (is R.2.1) ∧ Below w.heap.size w w'
theorem DecP.bad {w : World} {e : Ending} {w' : World} (he : e = .returned (.tuple #[.string ⟨#[]⟩, .slice none 0 0, .int .i64 1])) (hb : Below w.heap.size w w') : DecP ([], [], 1) w e w' := ⟨_, he, ownsRow_nil _ _ _, hb⟩
theorem ss_rep : ∀ n, flD ssD (List.replicate n []) = List.replicate n (Value.string ⟨#[]⟩)
  | 0 => rfl
  | n + 1 => by
    have := ss_rep n
    rw [List.replicate_succ, List.replicate_succ, ← this]
    rfl
theorem own_below {w w' : World} {b e sz n B : Nat} {v : Value} {xs : List Value} (h : w.ownsRow b e sz v n xs) (hk : ∀ k, v.ownBlock = some k → k < B) (hb : Below B w w') : w'.ownsRow b e sz v n xs := by
  refine ⟨h.1, ?_⟩
  rcases h.2 with h | ⟨g, cap, cur, rfl, hg, hh, r⟩
  · exact .inl h
  · exact .inr ⟨g, cap, cur, rfl, hg, (hb.block g (hk g rfl)).trans hh, r⟩
theorem wpList_mkStrs {P : Program} {w : World} {ops : Array Oper} {rest : List Oper} {o : Oper} {a : Act} {Q : Exit → Act → World → Prop}
    (hg : o.guard = none) (l c : Operand) {t : TypeId} (hop : o.op = Op.makeSlice t l c)
    {e : TypeId} (h1 : P.underlying t = some (.slice e)) (h2 : (P.info? e).map (fun i => (i.zero, i.size, i.bytes)) = some (some (.string ⟨#[]⟩), 1, 16))
    {L C : Int} (n : Nat) (hl : a.eval l = .int .i64 L) (hc : a.eval c = .int .i64 C) (hL : L = (n : Int)) (hC : C = (n : Int)) (b3 : n ≤ 1000000000)
    (hK : ∀ w', Bx w' w.heap.size e (flD ssD (List.replicate n [])) → Below w.heap.size w w' → wpList P ops Q rest (a.put o.dst (.slice (some ⟨w.heap.size, 0, none⟩) n n)) w') :
    wpList P ops Q (o :: rest) a w := by
  obtain ⟨i0, hi, hz0, hz1, hz2⟩ := info_parts h2
  refine wpList_make_full w hg l c t hop w.heap.size e i0 _ 1 h1 hi hz0 hz1 .i64 .i64 L C n hl hc hL hC (by rw [hz2]; omega) (by unfold maxLen; omega) (Nat.le_refl _) fun w' h3 h4 => hK w' ?_ ((Below.refl _ _).grown h4 (Nat.le_refl _) (fun k hk => by cases hk))
  have e1 : (madeCells (Value.string ⟨#[]⟩).cells (n * 1)).toList = flD ssD (List.replicate n []) := by
    simp only [Value.cells, toList_madeCells_one, Nat.mul_one]
    exact (ss_rep n).symm
  rw [e1] at h3
  exact Bx.ofOwn h3
structure DeW (w0 : World) (N gr gb : Nat) (R : List (List UInt8)) (W : World) : Prop where
  r : Bx W gr 9 (flD ssD R)
  b : Bx W gb 47 [.slice (some ⟨gr, 0, none⟩) N N]
  le : Below w0.heap.size w0 W
  g1 : w0.heap.size ≤ gr
  g2 : gr < gb
theorem DeW.keep {w0 W W' : World} {N gr gb : Nat} {R : List (List UInt8)} (h : DeW w0 N gr gb R W) (hb : Below (gb + 1) W W') : DeW w0 N gr gb R W' :=
  have h1 := h.g1
  have h2 := h.g2
  ⟨h.r.keepB hb (by omega), h.b.keepB hb (by omega), h.le.trans (hb.mono (by omega)), h1, h2⟩
theorem DeW.size {w0 W : World} {N gr gb : Nat} {R : List (List UInt8)} (h : DeW w0 N gr gb R W) : gb + 1 ≤ W.heap.size := h.b.lt
theorem DeW.call {w0 W W' : World} {N gr gb : Nat} {R : List (List UInt8)} (h : DeW w0 N gr gb R W) (hb : Below W.heap.size W W') : DeW w0 N gr gb R W' := h.keep (hb.mono h.size)
theorem DeW.put {w0 W : World} {N gr gb g : Nat} {R : List (List UInt8)} (h : DeW w0 N gr gb R W) (hg : g < R.length) (y : List UInt8) : DeW w0 N gr gb (R.set g y) (W.setCell ⟨gr, g, none⟩ (.string (str y))) := by
  have h1 := h.g1
  have h2 := h.g2
  have e := flD_set (d := ([] : List UInt8)) (D := ssD) ssD_len R g 0 hg (by omega) (.string (str y)) y rfl
  rw [Nat.mul_one, Nat.add_zero] at e
  exact ⟨by rw [← e]; exact h.r.set g _, h.b.far (by simp only; omega) _, h.le.setCell h1 _, h1, h2⟩
theorem apart9 {w : World} {b b' e e' sz sz' n n' : Nat} {v v' : Value} {xs xs' : List Value} (h : w.ownsRow b e sz v n xs) (h' : w.ownsRow b' e' sz' v' n' xs') (hne : e ≠ e') : ∀ k, v.ownBlock = some k → v'.ownBlock ≠ some k := by
  intro k hk hk'
  rcases h.2 with ⟨rfl, _⟩ | ⟨g, cap, cur, rfl, _, hg, _⟩
  · simp [Value.ownBlock] at hk
  rcases h'.2 with ⟨rfl, _⟩ | ⟨g', cap', cur', rfl, _, hg', _⟩
  · simp [Value.ownBlock] at hk'
  have e1 : g = k := by simpa [Value.ownBlock] using hk
  have e2 : g' = k := by simpa [Value.ownBlock] using hk'
  subst e1 e2
  rw [hg] at hg'
  simp only [Option.some.injEq, Obj.cells.injEq] at hg'
  exact hne hg'.2.1
theorem block9 {w : World} {b e sz n g t : Nat} {v : Value} {xs cs : List Value} (h : w.ownsRow b e sz v n xs) (hb : Bx w g t cs) (hne : t ≠ e) : v.ownBlock ≠ some g := by
  intro hk
  rcases h.2 with ⟨rfl, _⟩ | ⟨g', cap, cur, rfl, _, hg, _⟩
  · simp [Value.ownBlock] at hk
  have e1 : g' = g := by simpa [Value.ownBlock] using hk
  subst e1
  unfold Bx at hb
  rw [hg] at hb
  simp only [Option.some.injEq, Obj.cells.injEq] at hb
  exact hne hb.2.1.symm
theorem row9 {w : World} {b e sz n g t cap : Nat} {v : Value} {xs : List Value} {l : List UInt8} (h : w.ownsRow b e sz v n xs) (hb : Row w t g cap l) (hne : t ≠ e) : v.ownBlock ≠ some g := by
  intro hk
  rcases h.2 with ⟨rfl, _⟩ | ⟨g', cap', cur, rfl, _, hg, _⟩
  · simp [Value.ownBlock] at hk
  have e1 : g' = g := by simpa [Value.ownBlock] using hk
  subst e1
  obtain ⟨cur', fz, hg', _⟩ := hb
  rw [hg] at hg'
  simp only [Option.some.injEq, Obj.cells.injEq] at hg'
  exact hne hg'.2.1.symm
theorem row_off {w w' : World} {g t cap : Nat} {u : Value} {l : List UInt8} (h : Row w t g cap l) (hg : w.grownBy w' u.ownBlock) (ho : u.ownBlock ≠ some g) : Row w' t g cap l := h.keep (hg.block g h.lt fun e => ho e.symm)
theorem row_bx {w : World} {g n : Nat} {t : TypeId} {l : List UInt8} (h : Bx w g t (bs l)) (hl : l.length = n) : Row w t g n l := ⟨_, _, h, .inl rfl, by omega, by simp [bs_length, hl], by rw [List.take_of_length_le (by simp [bs_length])]⟩
theorem lo24_take (E : List Int) (k : Nat) (x : Int) (hx : E[k]? = some x) : lo24 (E.take (k + 1)) = if x < 24 then lo24 (E.take k) ++ [x] else lo24 (E.take k) := by
  obtain ⟨hk, rfl⟩ := List.getElem?_eq_some_iff.1 hx
  unfold lo24
  rw [List.take_succ_eq_append_getElem hk, List.filter_append]
  by_cases h : E[k] < 24
  · rw [if_pos h]; simp [h]
  · rw [if_neg h]; simp [h]
theorem lo24_len (E : List Int) (k : Nat) (h : E.length ≤ 28) : (lo24 (E.take k)).length ≤ 28 := by
  unfold lo24
  have h1 := List.length_filter_le (fun i => decide (i < 24)) (E.take k)
  have h2 : (E.take k).length ≤ E.length := List.length_take_le' _ _
  omega
theorem at24_app (f : Nat) (E : List Int) (x : Int) : at24 f (E ++ [x]) = at24 f E ++ [24 * (f : Int) + x] := by simp [at24]
theorem at24_len (f : Nat) (E : List Int) : (at24 f E).length = E.length := by simp [at24]
theorem run_bytes9 {P : Program} (w : World) {src dst e : TypeId} (hs : P.underlying src = some .string) (hd : P.underlying dst = some (.slice e)) (he : P.underlying e = some (.int .u8)) (l : List UInt8) (n : Nat) (hn : l.length = n) :
    ∃ w' cap, (convert src dst (.string (str l))).run P w = .ok (.slice (some ⟨w.heap.size, 0, none⟩) n cap) w' ∧ Row w' e w.heap.size cap l ∧ Below w.heap.size w w' ∧ n ≤ cap := by
  subst hn
  have hsz := str_size l
  refine ⟨_, _, by rw [Lib.run_convert_string_bytes (P := P) w src dst e (str l) hs hd he, hsz], ?_, ?_, ?_⟩
  · refine ⟨Lib.bytesCells w e (str l), _, Lib.bytesWorld_at_new w e (str l), .inr (Nat.le_refl _), ?_, by rw [size_bytesCells w e (str l), hsz], ?_⟩
    · have := grownCap_ge w l.length 0 e
      simpa using this
    · have hl : (str l).data.toList.length = l.length := rfl
      unfold Lib.bytesCells
      rw [Array.toList_append, List.take_append_of_le_length (by simp [← hl]), List.take_of_length_le (by simp [← hl])]
      simp [bs, str]
  · exact ⟨rfl, rfl, rfl, by rw [Lib.bytesWorld_size]; omega, fun k hk => Lib.bytesWorld_at_old w e (str l) k hk⟩
  · have := grownCap_ge w l.length 0 e
    simpa using this
theorem run_pre9 {P : Program} {t : TypeId} (ht : P.underlying t = some .string) (l : List UInt8) (k : Nat) (hk : k ≤ l.length) (x : Int) (hx : x = k) (w : World) : (Instr.slice t (.string (str l)) none (some (.int .i64 x)) none).run P w = .ok (.string (str (l.take k))) w := by
  subst hx
  have hs := str_size l
  have he : (str l).extract 0 k = str (l.take k) := by
    apply ByteArray.ext
    rw [ByteArray.data_extract]
    simp [str]
  simp [Instr.slice, run_underlying ht, Instr.sliceBounds, run_sliceBound, hs, hk, he]
set_option maxRecDepth 100000 in
set_option maxHeartbeats 1000000 in
theorem pdecode_len (va : Value) (F : List (List UInt8)) (w : World) (hF : RdStr w va F) (hl : F.length ≤ 9223372036854775807) (h : F.length < 109 ∨ 892 < F.length) :
    Calls Tryz.prog 32 #[va] w (DecP ([], [], 1) w) := by
  obtain ⟨a, c, rfl, _⟩ := RdD.form hF
  clear hF
  generalize F.length = n at *
  rcases h with h | h
  · have h1 : (n : Int) - 108 < 1 := by omega
    go_enter Tryz.func32, Tryz.ntmps32
    go_wp2_with fail
    go_ret3
    exact DecP.bad rfl (Below.refl _ _)
  · have h1 : ¬ (n : Int) - 108 < 1 := by omega
    have h2 : (784 : Int) < (n : Int) - 108 := by omega
    go_enter Tryz.func32, Tryz.ntmps32
    go_wp2_with fail
    go_ret3
    exact DecP.bad rfl (Below.refl _ _)
set_option maxRecDepth 100000 in
set_option maxHeartbeats 16000000 in
theorem pdecode_ok (va : Value) (F : List (List UInt8)) (n : Nat) (w : World) (hF : RdStr w va F) (hn : F.length = n + 108) (h1 : 1 ≤ n) (h2 : n ≤ 784) :
    Calls Tryz.prog 32 #[va] w (DecP (if okF F = false then ([], [], 1) else (datD F n, lstD F n, 0)) w) := by
  obtain ⟨a, c, rfl, _⟩ := RdD.form hF
  obtain ⟨b0, off, hcell⟩ := RdD.at hF
  have HC := Lib.hid hcell
  have HNO : Hid (∀ k, k < F.length → ¬ ((frA F k).length = 0 ∨ (frA F k).length = 32) → (if okF F = false then (([] : List UInt8), ([] : List Int), (1 : Int)) else (datD F n, lstD F n, 0)) = ([], [], 1)) := Lib.hid fun k hk h => by rw [okK_false hk h, if_pos rfl]
  have HYES : Hid (okK F F.length → (if okF F = false then (([] : List UInt8), ([] : List Int), (1 : Int)) else (datD F n, lstD F n, 0)) = (datD F n, lstD F n, 0)) := Lib.hid fun h => by rw [okK_true h, if_neg (by decide)]
  generalize (if okF F = false then (([] : List UInt8), ([] : List Int), (1 : Int)) else (datD F n, lstD F n, 0)) = RES at *
  obtain ⟨N, hN⟩ : ∃ N, N = F.length := ⟨_, rfl⟩
  rw [← hN] at HNO HYES HC hn ⊢
  have HN := Lib.hid hn
  have hN1 : n + 108 ≤ N := by omega
  have hN2 : N ≤ n + 108 := by omega
  have q1 : ¬ (N : Int) - 108 < 1 := by omega
  have q2 : ¬ (784 : Int) < (N : Int) - 108 := by omega
  have HQ : Hid ((N : Int) - 108 = (n : Int)) := Lib.hid (by omega)
  clear hF hcell hn hN
  go_enter Tryz.func32, Tryz.ntmps32
  go_wp2_with (refine wpList_mkStrs rfl _ _ rfl Tryz.underlying47 Tryz.infoStr9 N rfl rfl rfl rfl (by omega) ?_; intro w2 hbx2 hb2; have hsz2 := hbx2.lt)
  rw [HQ.out]
  have hen : DeW w N w.heap.size w2.heap.size (rwK F N 0) (w2.alloc (.cells #[.slice (some ⟨w.heap.size, 0, none⟩) N N] 47)) := by
    rw [rwK_zero]
    exact ⟨hbx2.alloc _, Bx.new _ _ _, hb2.alloc hb2.size _, Nat.le_refl _, hsz2⟩
  obtain ⟨gb, hgb⟩ : ∃ gb, gb = w2.heap.size := ⟨_, rfl⟩
  obtain ⟨gr, hgr⟩ : ∃ gr, gr = w.heap.size := ⟨_, rfl⟩
  generalize hw3 : w2.alloc (.cells #[.slice (some ⟨w.heap.size, 0, none⟩) N N] 47) = w3 at hen ⊢
  simp only [← hgb] at hen ⊢
  simp only [← hgr] at hen ⊢
  have hgb1 : gr < gb := hen.g2
  have hgr1 := hen.g1
  clear hbx2 hb2 hsz2 hgb hgr hw3 q1 q2
  go_loopw [36] (fun vg wr => ∃ g : Nat, g ≤ N ∧ vg = .int .i64 g ∧ Hid (okK F g) ∧ DeW w N gr gb (rwK F N g) wr) (fun vg _ => N - (intOf vg).toNat)
  case atStart => exact ⟨0, by omega, rfl, Lib.hid fun m hm => by omega, hen⟩
  case round =>
    clear hen
    obtain ⟨g, hg, rfl, HO, hen⟩ := hrel
    obtain ⟨wo, rfl⟩ : ∃ wo : World, wo = wr := ⟨_, rfl⟩
    have hsz := hen.size
    by_cases hlt : g < N
    · have hlt' : (g : Int) < (N : Int) := by omega
      obtain ⟨ha, hrange⟩ := HC.out g hlt
      change w.rangeAt b0 (off + g * 1) (ssD (frA F g)) at hrange
      have hcl : wo.cell? ⟨b0, off + g * 1, none⟩ = some (.string (str (frA F g))) := (hen.le.cell (p := ⟨b0, off + g * 1, none⟩) (World.block_lt_of_cell? w _ (hrange 0 _ rfl))).trans (hrange 0 _ rfl)
      have hix := fun w' => run_idxS Tryz.underlying47 (by kernel_rfl : (Tryz.prog.info? 9).map (·.size) = some 1) (cap := c) ha hlt (g : Int) rfl w'
      simp only [Nat.mul_one] at hix hcl
      have HS : Hid ((frA F g).length = 0 ∨ (frA F g).length = 32 → okK F (g + 1)) := Lib.hid fun h m hm => by
        by_cases e : m < g
        · exact HO.out m e
        · have : m = g := by omega
          rw [this]; exact h
      have HNOk := Lib.hid (HNO.out g hlt)
      have HD := Lib.hid (fun W => decode_any (frA F g) 4 (.slice none 0 0) [] W)
      have HG0 : Hid (frA F g = [] → got F g = []) := Lib.hid fun h => by unfold got; rw [h]; exact decode_nil _ _
      have HGE : Hid ((G.decode (frA F g) 4 []).1 = got F g) := Lib.hid rfl
      have HGB : Hid ((G.decode (frA F g) 4 []).2.2 ≠ 0 → got F g = []) := Lib.hid fun h => (G.decode_bad2 _ _ _ h).1
      have HGL : Hid ((G.decode (frA F g) 4 []).2.2 = 0 → (got F g).length = (frA F g).length) := Lib.hid fun h => (G.decode_sound _ _ _ h).choose_spec.2.1
      have HST := Lib.hid (rwK_set F hlt)
      have HSM := Lib.hid (rwK_same F hlt)
      have hrl := rwK_length F N g
      have hsy := str_size (frA F g)
      generalize frA F g = x at *
      have Ha := Lib.hid ha
      have HEN := Lib.hid hen
      have HR0 : Hid (∀ W, RdI W (.slice none 0 0) []) := Lib.hid fun W => ⟨by simp, ⟨none, 0, 0, 0, rfl, by simp, fun i hi => by simp at hi⟩, fun i hi => by simp at hi⟩
      clear ha hrange hen
      obtain ⟨nx, hnx⟩ : ∃ nx, nx = x.length := ⟨_, rfl⟩
      rw [← hnx] at hsy HS HNOk HD HGL
      have HNX := Lib.hid hnx
      clear hnx
      by_cases hx0 : nx = 0
      · subst hx0
        have hg0 := HG0.out (List.eq_nil_of_length_eq_zero HNX.out.symm)
        have HS2 := Lib.hid (HS.out (.inl rfl))
        have HSM2 := Lib.hid (HSM.out hg0)
        clear hg0 HD HGL
        go_wp2_with fail
        go_roundw
        case rel => exact ⟨g + 1, by omega, by go_num, HS2, by rw [HSM2.out]; exact HEN.out⟩
        case measure => simp [intOf]; omega
      · by_cases hx32 : nx = 32
        · subst hx32
          have HS2 := Lib.hid (HS.out (.inr rfl))
          have HD2 := Lib.hid (fun W => HD.out W (by omega) (HR0.out W) (by simp))
          have HGL2 := Lib.hid HGL.out
          clear HD HGL
          have hcb := HEN.out.b.cell (i := 0) rfl
          by_cases hcode : (G.decode x 4 []).2.2 = 0
          · have hgl : (got F g).length = 32 := HGL2.out hcode
            generalize G.decode x 4 [] = D at *
            obtain ⟨D1, D2, D3⟩ := D
            try simp only at hcode HGE
            subst hcode
            have hD1 := HGE.out
            try simp only at hD1
            subst hD1
            have hcut := fun W => run_pre9 (P := Tryz.prog) Tryz.underlying9 (got F g) 28 (by omega) 28 rfl W
            have hgix := fun w' => run_idxS Tryz.underlying47 (by kernel_rfl : (Tryz.prog.info? 9).map (·.size) = some 1) (a := some ⟨gr, 0, none⟩) (cap := N) rfl hlt (g : Int) rfl w'
            simp only [Nat.mul_one, Nat.zero_add] at hgix
            have HPUT := Lib.hid (fun (W : World) (hW : DeW w N gr gb (rwK F N g) W) => (show DeW w N gr gb (rwK F N (g + 1)) (W.setCell ⟨gr, g, none⟩ (.string (str ((got F g).take 28)))) from by rw [← HST.out]; exact hW.put (by rw [hrl]; exact hlt) _))
            have HLT : Hid (g < (rwK F N g).length) := Lib.hid (by rw [hrl]; exact hlt)
            clear hgl hrl hcb
            generalize (got F g).take 28 = Y at *
            go_wp2_with fail
            refine (HD2.out _).mono ?_
            rintro e w4 ⟨rfl, hb4⟩
            have hen4 := HEN.out.call hb4
            have hcb := hen4.b.cell (i := 0) rfl
            have hcr : w4.cell? ⟨gr, g, none⟩ = some (.string (str (atD [] (rwK F N g) g))) := hen4.r.cell (by
              have e := flD_get (d := ([] : List UInt8)) (D := ssD) ssD_len (rwK F N g) g 0 HLT.out (by omega)
              rw [Nat.mul_one, Nat.add_zero] at e
              exact e)
            have hfr := hen4.r.free g
            have HEN4 := Lib.hid (HPUT.out w4.drew (hen4.keep ((Below.refl _ _).drew)))
            clear hb4 hen4
            generalize str (atD [] (rwK F N g) g) = old at hcr
            go_wp2_with fail
            go_still_tail 5, (by kernel_rfl)
            repeat still_step
            change wpList _ _ _ _ _ w4.drew
            go_wp2_with fail
            go_roundw
            case rel => exact ⟨g + 1, by omega, by go_num, HS2, HEN4.out⟩
            case measure => simp [intOf]; omega
          · have HSM2 := Lib.hid (HSM.out (HGB.out hcode))
            generalize G.decode x 4 [] = D at *
            obtain ⟨D1, D2, D3⟩ := D
            have hcode' : (D3 == 0) = false := by rw [beq_eq_false_iff_ne]; exact hcode
            clear hcode HGL2 HGB HGE hcb
            go_wp2_with fail
            refine (HD2.out _).mono ?_
            rintro e w4 ⟨rfl, hb4⟩
            have hen4 := HEN.out.call hb4
            clear hb4
            go_wp2_with fail
            go_roundw
            case rel => exact ⟨g + 1, by omega, by go_num, HS2, by rw [HSM2.out]; exact hen4⟩
            case measure => simp [intOf]; omega
        · have hR := HNOk.out (by omega)
          subst hR
          have e1 : ((nx : Int) == 0) = false := by rw [beq_eq_false_iff_ne]; omega
          have e2 : ((nx : Int) == 32) = false := by rw [beq_eq_false_iff_ne]; omega
          have HLE := Lib.hid HEN.out.le
          clear HNOk hx0 hx32
          go_wp2_with fail
          go_ret3
          exact DecP.bad rfl HLE.out
    · obtain rfl : g = N := by omega
      rw [rwK_all] at hen
      have hR := HYES.out HO.out
      subst hR
      have HOK := HO
      clear hlt hg HC HNO HYES HO hsz
      go_wp2_with fail
      go_loopw [12, 13, 62] (fun vd vo vf wr => ∃ f : Nat, f ≤ n ∧ vf = .int .i64 f ∧ wr.ownsRow (gb + 1) 5 1 vd (24 * f) (bs (datD F f)) ∧ wr.ownsRow (gb + 1) 3 1 vo (lstD F f).length (is (lstD F f)) ∧ DeW w g gr gb (rwA F g) wr) (fun _ _ vf _ => n - (intOf vf).toNat)
      case atStart => exact ⟨0, by omega, rfl, ⟨rfl, .inl ⟨rfl, rfl⟩⟩, ownsRow_nil _ _ _, hen⟩
      case round =>
        clear hen
        obtain ⟨f, hf, rfl, hd, ho, hen⟩ := hrel
        obtain ⟨wq, rfl⟩ : ∃ wq : World, wq = wr := ⟨_, rfl⟩
        have hsz := hen.size
        have hLl := lstD_length F f
        by_cases hlt : f < n
        · have hlt' : (f : Int) < (n : Int) := by omega
          have HDS : Hid (datD F (f + 1) = datD F f ++ (outD F f).1) := Lib.hid rfl
          have HLS : Hid (lstD F (f + 1) = lstD F f ++ at24 f (outD F f).2) := Lib.hid rfl
          obtain ⟨L, hL⟩ : ∃ L, L = lstD F f := ⟨_, rfl⟩
          obtain ⟨Dt, hDt⟩ : ∃ Dt, Dt = datD F f := ⟨_, rfl⟩
          rw [← hL] at ho HLS hLl
          rw [← hDt] at hd HDS
          clear hL hDt
          obtain ⟨ad, cd, rfl⟩ := ownD_form hd
          obtain ⟨ao, co, rfl⟩ := ownD_form ho
          have HD := Lib.hid hd
          have HO := Lib.hid ho
          have HEN := Lib.hid hen
          clear hd ho hen
          go_wp2_with (refine wpList_mkB rfl _ _ rfl (base := wq.heap.size) Tryz.underlying123 Tryz.infoU9 28 rfl rfl rfl rfl (by omega) (Nat.le_refl _) ?_; intro wA hoA hgA; have hbxA : Bx wA wq.heap.size 5 (bs (List.replicate 28 0)) := Bx.ofOwn hoA; have hszA := hbxA.lt)
          have hbA := (Below.refl wq.heap.size wq).grown hgA (Nat.le_refl _) (fun k hk => by cases hk)
          have hbB := hbA.alloc hbA.size (.cells #[.slice (some ⟨wq.heap.size, 0, none⟩) 28 28] 123)
          have hbC := hbB.alloc hbB.size (.cells #[.slice none 0 0] 53)
          have hgwb := (Bx.new wA 123 [.slice (some ⟨wq.heap.size, 0, none⟩) 28 28]).alloc (.cells #[.slice none 0 0] 53)
          have heb := Bx.new (wA.alloc (.cells #[.slice (some ⟨wq.heap.size, 0, none⟩) 28 28] 123)) 53 [.slice none 0 0]
          rw [World.size_alloc] at heb
          have hgw := (hbxA.alloc (.cells #[.slice (some ⟨wq.heap.size, 0, none⟩) 28 28] 123)).alloc (.cells #[.slice none 0 0] 53)
          have hen5 := HEN.out.call hbC
          have hd5 := ownD_keep HD.out hbC
          have ho5 := ownD_keep HO.out hbC
          clear hoA hgA hbxA hbA hbB hbC
          generalize (wA.alloc (.cells #[.slice (some ⟨wq.heap.size, 0, none⟩) 28 28] 123)).alloc (.cells #[.slice none 0 0] 53) = wC at *
          obtain ⟨eb, hE⟩ : ∃ eb, eb = wA.heap.size + 1 := ⟨_, rfl⟩
          obtain ⟨gwb, hG⟩ : ∃ gwb, gwb = wA.heap.size := ⟨_, rfl⟩
          obtain ⟨gw, hW⟩ : ∃ gw, gw = wq.heap.size := ⟨_, rfl⟩
          rw [← hE] at heb
          rw [← hG] at hgwb
          rw [← hW] at hgwb hgw
          simp only [← hE]
          simp only [← hG]
          simp only [← hW]
          have hne1 : gw < gwb := by omega
          have hne2 : gwb < eb := by omega
          have hne3 : gb < gw := by omega
          have hLb : ∀ q, (Value.slice ao L.length co).ownBlock = some q → q < gw := fun q hq => by have := (HO.out.lt q hq).2; omega
          have HLB := Lib.hid hLb
          have HDB := Lib.hid (show ∀ q, (Value.slice ad (24 * f) cd).ownBlock = some q → q < gw from fun q hq => by have := (HD.out.lt q hq).2; omega)
          have HCO := Lib.hid (collect_dec F f n g gr gb gw gwb eb wC hlt HN.out h2 HOK.out (by omega) hne3 hne1 hne2 hen5.r (hen5.b.cell (i := 0) rfl) hgw hgwb ⟨_, heb, ownsRow_nil _ _ _⟩)
          have HD5 := Lib.hid hd5
          have HO5 := Lib.hid ho5
          have HEN5 := Lib.hid hen5
          clear hE hG hW hgw hgwb heb hen5 hd5 ho5 HEN HD HO hLb
          go_wp2_with fail
          refine HCO.out.mono ?_
          rintro e w6 ⟨rfl, ⟨ve, heb, hve⟩, hgw, hgwb, hb6⟩
          have hel := erD_length F f 28
          have hwl := wdD_length F f 28
          have hd6 := own_below HD5.out HDB.out hb6
          have ho6 := own_below HO5.out HLB.out hb6
          have hen6 := HEN5.out.keep (hb6.mono (by omega))
          have HD6 := Lib.hid hd6
          have HO6 := Lib.hid ho6
          have HEN6 := Lib.hid hen6
          obtain ⟨ae, ce, rfl⟩ := ownD_form hve
          have hc1 := heb.cell (i := 0) rfl
          have hc2 := hgwb.cell (i := 0) rfl
          have HPO := Lib.hid (erD_pos F f)
          have HOB := Lib.hid (show (erD F f 28).length ≤ 4 → (G.decode (wdD F f 28) 4 (erD F f 28)).2.2 = 0 → outD F f = ((G.decode (wdD F f 28) 4 (erD F f 28)).1.take 24, []) from fun h1 h2 => by unfold outD; rw [if_pos h1, if_pos h2])
          have HOC := Lib.hid (show (erD F f 28).length ≤ 4 → ¬ (G.decode (wdD F f 28) 4 (erD F f 28)).2.2 = 0 → outD F f = (List.replicate 24 0, upI 24) from fun h1 h2 => by unfold outD; rw [if_pos h1, if_neg h2])
          have HOD := Lib.hid (show ¬ (erD F f 28).length ≤ 4 → outD F f = ((wdD F f 28).take 24, lo24 (erD F f 28)) from fun h1 => by unfold outD; rw [if_neg h1])
          have HDL := Lib.hid (show (G.decode (wdD F f 28) 4 (erD F f 28)).2.2 = 0 → (G.decode (wdD F f 28) 4 (erD F f 28)).1.length = 28 from fun h => by rw [(G.decode_sound _ _ _ h).choose_spec.2.1, wdD_length])
          have HEB0 := Lib.hid (fun (x : Int) (hx : x ∈ erD F f 28) => (show 0 ≤ x ∧ x < 28 from by
            obtain ⟨i, h1, _, rfl⟩ := (mem_erD F f 28 x).1 hx
            omega))
          have HDE := Lib.hid (fun W => decode_any (wdD F f 28) 4 (.slice ae (erD F f 28).length ce) (erD F f 28) W)
          clear hd6 ho6 hen6 HD5 HO5 HEN5 HCO
          generalize outD F f = OUT at *
          obtain ⟨out1, out2⟩ := OUT
          generalize G.decode (wdD F f 28) 4 (erD F f 28) = DD at *
          obtain ⟨D1, D2, D3⟩ := DD
          generalize erD F f 28 = E at *
          generalize wdD F f 28 = Wd at *
          simp only at HDS HLS HOB HOC HOD HDL HDE
          by_cases h4 : E.length ≤ 4
          · have h4' : (E.length : Int) ≤ 4 := by omega
            have hrdI := rdI_own hve rfl (by omega) (fun x hx => by have := HEB0.out x hx; omega)
            have hrow := row_bx hgw hwl
            have hrd := hrow.rd (by omega)
            rw [hwl] at hrd
            have hconv := run_str (P := Tryz.prog) Tryz.underlying123 Tryz.underlying5 Tryz.underlying9 hrd
            have HDE2 := Lib.hid (HDE.out w6 (by omega) hrdI (by omega))
            have HEBX := Lib.hid heb
            have HGWB := Lib.hid hgwb
            clear hrdI hrow hrd hve hgw HDE hb6 heb hgwb
            go_wp2_with fail
            refine HDE2.out.mono ?_
            rintro e w7 ⟨rfl, hb7⟩
            have hd7 := ownD_keep HD6.out hb7
            have ho7 := ownD_keep HO6.out hb7
            have hen7 := HEN6.out.call hb7
            have heb7 := HEBX.out.call hb7
            have hgwb7 := HGWB.out.call hb7
            have hbx8 := heb7.set 0 (.slice none 0 0)
            have hgwb8 := hgwb7.far (p := ⟨eb, 0, none⟩) (by simp only; omega) (.slice none 0 0)
            have hd8 := own_below hd7 HDB.out ((Below.refl gw w7).setCell (p := ⟨eb, 0, none⟩) (by simp only; omega) (.slice none 0 0))
            have ho8 := own_below ho7 HLB.out ((Below.refl gw w7).setCell (p := ⟨eb, 0, none⟩) (by simp only; omega) (.slice none 0 0))
            have hen8 := hen7.keep ((Below.refl (gb + 1) w7).setCell (p := ⟨eb, 0, none⟩) (by simp only; omega) (.slice none 0 0))
            have hq1 := heb7.cell (i := 0) rfl
            have hq2 := heb7.free 0
            have hszD := str_size D1
            clear hconv hb7 hd7 ho7 hen7 hgwb7 HD6 HO6 HEN6 HEBX HGWB hc1 hc2 heb7 HDE2
            go_upto_region 27 with (fail)
            clear hq1 hq2
            have HD8 := Lib.hid hd8
            have HO8 := Lib.hid ho8
            have HEN8 := Lib.hid hen8
            have HBX8 := Lib.hid hbx8
            have HG8 := Lib.hid hgwb8
            have hc8 := hgwb8.cell (i := 0) rfl
            have hf8 := hgwb8.free 0
            clear hd8 ho8 hen8 hbx8 hgwb8
            generalize w7.setCell ⟨eb, 0, none⟩ (.slice none 0 0) = w8 at *
            obtain ⟨wN, capN, hrunN, hrowN, hbN, hleN⟩ := run_bytes9 (P := Tryz.prog) w8 Tryz.underlying9 Tryz.underlying123 Tryz.underlying5 D1 D1.length rfl
            have hgwbN := HG8.out.call hbN
            have hcN := hgwbN.cell (i := 0) rfl
            have hfN := hgwbN.free 0
            have hdN := own_below (ownD_keep HD8.out hbN) HDB.out ((Below.refl gw wN).setCell (p := ⟨gwb, 0, none⟩) (by simp only; omega) (.slice (some ⟨w8.heap.size, 0, none⟩) D1.length capN))
            have hoN := own_below (ownD_keep HO8.out hbN) HLB.out ((Below.refl gw wN).setCell (p := ⟨gwb, 0, none⟩) (by simp only; omega) (.slice (some ⟨w8.heap.size, 0, none⟩) D1.length capN))
            have henN := (HEN8.out.call hbN).keep ((Below.refl (gb + 1) wN).setCell (p := ⟨gwb, 0, none⟩) (by simp only; omega) (.slice (some ⟨w8.heap.size, 0, none⟩) D1.length capN))
            have hbxN := (HBX8.out.call hbN).far (p := ⟨gwb, 0, none⟩) (by simp only; omega) (.slice (some ⟨w8.heap.size, 0, none⟩) D1.length capN)
            have hgN := hgwbN.set 0 (.slice (some ⟨w8.heap.size, 0, none⟩) D1.length capN)
            have hg8l := HG8.out.lt
            have hrN : Row (wN.setCell ⟨gwb, 0, none⟩ (.slice (some ⟨w8.heap.size, 0, none⟩) D1.length capN)) 5 w8.heap.size capN D1 := hrowN.keep (Below.heap_setCell wN ⟨gwb, 0, none⟩ _ _ (by simp only; omega))
            clear hbN hgwbN hrowN
            go_upto_region 28 with (fail)
            clear hrunN hcN hfN hc8 hf8
            generalize wN.setCell ⟨gwb, 0, none⟩ (.slice (some ⟨w8.heap.size, 0, none⟩) D1.length capN) = wM at *
            obtain ⟨gs, hgs⟩ : ∃ gs, gs = w8.heap.size := ⟨_, rfl⟩
            rw [← hgs] at hgN hrN
            clear hgs HD8 HO8 HEN8 HBX8 HG8 hg8l hleN
            by_cases hcode : D3 = 0
            · have hout := HOB.out h4 hcode
              have hDl := HDL.out hcode
              subst hcode
              simp only [Prod.mk.injEq] at hout
              obtain ⟨ho1, ho2⟩ := hout
              subst ho1 ho2
              have hown : wM.ownsRow (eb + 1) 3 1 (.slice none 0 0) 0 (is []) := ownsRow_nil _ _ _
              have HEB := Lib.hid (show ∀ x ∈ ([] : List Int), 0 ≤ x ∧ x < 28 from by simp)
              have hEl : 0 ≤ 28 := by omega
              have HLS2 : Hid (lstD F (f + 1) = L ++ at24 f (lo24 [])) := HLS
              have HDS2 : Hid (datD F (f + 1) = Dt ++ D1.take 24) := HDS
              rw [hDl] at hgN
              have hoff : Off (.slice ao L.length co) (fun k => (none : Option Addr) = some ⟨k, 0, none⟩) := fun q hq h => by cases h
              have HWL := Lib.hid hDl
              have hq1 := hbxN.cell (i := 0) rfl
              clear hDl HOC HOB HOD HDL HLS HDS
              go_wp2_with fail
              go_loopw [13, 90] (fun vo vk wr => ∃ k : Nat, k ≤ 0 ∧ vk = .int .i64 k ∧ wr.ownsRow (gb + 1) 3 1 vo (L ++ at24 f (lo24 ((([] : List Int)).take k))).length (is (L ++ at24 f (lo24 ((([] : List Int)).take k)))) ∧ Off vo (fun k => (none : Option Addr) = some ⟨k, 0, none⟩) ∧ wr.ownsRow (eb + 1) 3 1 (.slice none 0 0) 0 (is ([] : List Int)) ∧ Bx wr gwb 123 [.slice (some ⟨gs, 0, none⟩) 28 capN] ∧ Row wr 5 gs capN D1 ∧ wr.ownsRow (gb + 1) 5 1 (.slice ad (24 * f) cd) (24 * f) (bs Dt) ∧ DeW w g gr gb (rwA F g) wr) (fun _ vk _ => 0 - (intOf vk).toNat)
              case atStart => exact ⟨0, by omega, rfl, by rw [List.take_zero, show at24 f (lo24 []) = [] from rfl, List.append_nil]; exact hoN, hoff, hown, hgN, hrN, hdN, henN⟩
              case round =>
                clear hoN hown hgN hrN hdN henN hbxN hoff hq1
                obtain ⟨k, hk, rfl, hoo, hoff, hoe, hgx, hrx, hdx, hlo⟩ := hrel
                have hwsz := hlo.size
                by_cases hkt : k < 0
                · exact absurd hkt (by omega)
                · obtain rfl : k = 0 := by omega
                  rw [show (([] : List Int)).take 0 = ([] : List Int) from by simp] at hoo
                  rw [← HLS2.out] at hoo
                  obtain ⟨a9, c9, rfl⟩ := ownD_form hoo
                  have hgc := hgx.cell (i := 0) rfl
                  have hwl9 := HWL.out
                  have hrd := hrx.rd (by omega)
                  obtain ⟨vs, hrs, _, _, hcut⟩ := run_cut (P := Tryz.prog) Tryz.underlying123 (by kernel_rfl : (Tryz.prog.info? 5).map (·.size) = some 1) hrd 0 24 (by omega) (by omega)
                  have hcut2 := fun W => hcut rfl 24 W rfl
                  rw [hwl9] at hcut2
                  rw [List.drop_zero] at hrs
                  have hl24 : ((D1).take 24).length = 24 := by rw [List.length_take, hwl9]; rfl
                  have HL24 := Lib.hid hl24
                  have HDX := Lib.hid hdx
                  have HOO := Lib.hid hoo
                  have HLO := Lib.hid hlo
                  clear hrd hrx hgx hoe hoff hoo hlo hcut hwl9 hl24
                  go_wp2_with (at_builtin; refine wpList_appB rfl _ _ rfl Tryz.underlying123 Tryz.infoU9 HDX.out rfl hrs rfl (by have := HL24.out; omega) hwsz ?_; intro v8 w8 hown8 hgr8 hno8)
                  have hb8 := (Below.refl (gb + 1) wr).grown hgr8 hwsz (fun q hq => by have := ownD_block HDX.out q hq; omega)
                  have hen8 := HLO.out.keep hb8
                  have ho8 := own_off HOO.out hgr8 (fun q hq h => apart9 HOO.out HDX.out (by decide) q hq h)
                  rw [HL24.out, ← HDS2.out] at hown8
                  clear hgr8 hno8 hb8 HLO HOO HDX hgc hrs hcut2
                  go_roundw
                  case rel => exact ⟨f + 1, by omega, by go_num, by rw [show 24 * (f + 1) = 24 * f + 24 from by omega]; exact hown8, ho8, hen8⟩
                  case measure => simp [intOf]; omega
            · have hout := HOC.out h4 hcode
              have hcode' : (D3 != 0) = true := by rw [bne_iff_ne]; exact hcode
              simp only [Prod.mk.injEq] at hout
              obtain ⟨ho1, ho2⟩ := hout
              subst ho1 ho2
              have hq3 := hgN.cell (i := 0) rfl
              clear hcode
              go_upto_region 30 with (refine wpList_mkB rfl _ _ rfl (base := wM.heap.size) Tryz.underlying123 Tryz.infoU9 28 rfl rfl rfl rfl (by omega) (Nat.le_refl _) ?_; intro wP hoP hgP; have hbP := (Below.refl wM.heap.size wM).grown hgP (Nat.le_refl _) (fun k hk => by cases hk); have hgP1 := hgN.call hbP; have hgP2 := hgP1.cell (i := 0) rfl; have hgP3 := hgP1.free 0)
              have hbxP : Bx wP wM.heap.size 5 (bs (List.replicate 28 0)) := Bx.ofOwn hoP
              have hgMl := hgN.lt
              have hbl := hbxN.lt
              have hrowP : Row (wP.setCell ⟨gwb, 0, none⟩ (.slice (some ⟨wM.heap.size, 0, none⟩) 28 28)) 5 wM.heap.size 28 (List.replicate 28 0) := (row_bx hbxP (by simp)).keep (Below.heap_setCell wP ⟨gwb, 0, none⟩ _ _ (by simp only; omega))
              have hgQ := hgP1.set 0 (.slice (some ⟨wM.heap.size, 0, none⟩) 28 28)
              have hbxQ := (hbxN.call hbP).far (p := ⟨gwb, 0, none⟩) (by simp only; omega) (.slice (some ⟨wM.heap.size, 0, none⟩) 28 28)
              have hdQ := own_below (ownD_keep hdN hbP) HDB.out ((Below.refl gw wP).setCell (p := ⟨gwb, 0, none⟩) (by simp only; omega) (.slice (some ⟨wM.heap.size, 0, none⟩) 28 28))
              have hoQ := own_below (ownD_keep hoN hbP) HLB.out ((Below.refl gw wP).setCell (p := ⟨gwb, 0, none⟩) (by simp only; omega) (.slice (some ⟨wM.heap.size, 0, none⟩) 28 28))
              have henQ := (henN.call hbP).keep ((Below.refl (gb + 1) wP).setCell (p := ⟨gwb, 0, none⟩) (by simp only; omega) (.slice (some ⟨wM.heap.size, 0, none⟩) 28 28))
              clear hgP2 hgP3 hgP1 hbxP hbP hgP hoP hbxN hgN hrN hdN hoN henN hq3
              generalize wP.setCell ⟨gwb, 0, none⟩ (.slice (some ⟨wM.heap.size, 0, none⟩) 28 28) = wQ at *
              obtain ⟨gt, hgt⟩ : ∃ gt, gt = wM.heap.size := ⟨_, rfl⟩
              rw [← hgt] at hrowP hgQ
              have heg : gwb < eb := hne2
              have hgtq := hrowP.lt
              have hebq : eb < gt := by omega
              clear hgt hgMl hbl
              have HCA := Lib.hid (collect_all f eb (gt + 1) wQ (by omega) (by omega) (by omega) ⟨_, hbxQ, ownsRow_nil _ _ _⟩)
              have HRP := Lib.hid hrowP
              have HGQ := Lib.hid hgQ
              have HDQ := Lib.hid hdQ
              have HOQ := Lib.hid hoQ
              have HEQ := Lib.hid henQ
              clear hbxQ hrowP hgQ hdQ hoQ henQ
              go_wp2_with fail
              refine HCA.out.mono ?_
              rintro e wR ⟨rfl, ⟨vR, hbxR, hown0⟩, hbR, _, hkR⟩
              have hown := own_mono hown0 (show eb + 1 ≤ gt + 1 from by omega)
              clear hown0
              obtain ⟨aR, cR, rfl⟩ := ownD_form hown
              have hgR := HGQ.out.keepB hbR hne2
              have hdR := own_below HDQ.out (fun k hk => by have := HDB.out k hk; omega) hbR
              have hoR := own_below HOQ.out (fun k hk => by have := HLB.out k hk; omega) hbR
              have henR := HEQ.out.keep (hbR.mono (by omega))
              have hrR : Row wR 5 gt 28 (List.replicate 28 0) := HRP.out.keep (hkR gt (by omega) (by omega))
              have hul := upI_length 28
              have HEB := Lib.hid (show ∀ x ∈ upI 28, 0 ≤ x ∧ x < 28 from fun x hx => by
                simp only [upI, List.mem_map, List.mem_range] at hx
                obtain ⟨i, h1, rfl⟩ := hx
                show (0 : Int) ≤ (i : Int) ∧ (i : Int) < 28
                omega)
              have hEl : (upI 28).length ≤ 28 := by omega
              have HLS2 : Hid (lstD F (f + 1) = L ++ at24 f (lo24 (upI 28))) := HLS
              have HDS2 : Hid (datD F (f + 1) = Dt ++ (List.replicate 28 (0 : UInt8)).take 24) := HDS
              have hoff : Off (.slice ao L.length co) (fun k => aR = some ⟨k, 0, none⟩) := fun q hq h => by have h1 := HLB.out q hq; have h2 := (hown.lt q (by rw [h]; rfl)).1; omega
              have HWL := Lib.hid (show (List.replicate 28 (0 : UInt8)).length = 28 from by simp)
              have hq1 := hbxR.cell (i := 0) rfl
              clear HOC HOB HOD HDL HLS HDS hul hbR hkR
              generalize upI 28 = E2 at *
              generalize List.replicate 28 (0 : UInt8) = Z2 at *
              go_wp2_with fail
              go_loopw [13, 90] (fun vo vk wr => ∃ k : Nat, k ≤ E2.length ∧ vk = .int .i64 k ∧ wr.ownsRow (gb + 1) 3 1 vo (L ++ at24 f (lo24 ((E2).take k))).length (is (L ++ at24 f (lo24 ((E2).take k)))) ∧ Off vo (fun k => aR = some ⟨k, 0, none⟩) ∧ wr.ownsRow (eb + 1) 3 1 (.slice aR E2.length cR) E2.length (is E2) ∧ Bx wr gwb 123 [.slice (some ⟨gt, 0, none⟩) 28 28] ∧ Row wr 5 gt 28 Z2 ∧ wr.ownsRow (gb + 1) 5 1 (.slice ad (24 * f) cd) (24 * f) (bs Dt) ∧ DeW w g gr gb (rwA F g) wr) (fun _ vk _ => E2.length - (intOf vk).toNat)
              case atStart => exact ⟨0, by omega, rfl, by rw [List.take_zero, show at24 f (lo24 []) = [] from rfl, List.append_nil]; exact hoR, hoff, hown, hgR, hrR, hdR, henR⟩
              case round =>
                clear hoR hown hgR hrR hdR henR hbxR hoff hq1
                obtain ⟨k, hk, rfl, hoo, hoff, hoe, hgx, hrx, hdx, hlo⟩ := hrel
                have hwsz := hlo.size
                by_cases hkt : k < E2.length
                · have hkt' : (k : Int) < (E2.length : Int) := by omega
                  obtain ⟨ge, ce', he, hge, hge2⟩ := ownD_addr hoe (by omega)
                  simp only [Value.slice.injEq] at he
                  have ha := he.1
                  clear he
                  obtain ⟨hx1, hx2⟩ := HEB.out _ (ixI_mem hkt)
                  have HS := Lib.hid (lo24_take E2 k (ixI E2 k) (ixI_some hkt))
                  have hoe2 := hoe
                  rw [ha] at hoe2
                  have hcl : wr.cell? ⟨ge, k, none⟩ = some (.int .i64 (ixI E2 k)) := by rw [hoe2.cellAt k (by omega), is_get hkt]
                  have hix := fun w' => run_idxS Tryz.underlying53 Tryz.sizeInt9 (a := aR) (cap := cR) ha hkt (k : Int) rfl w'
                  simp only [Nat.mul_one, Nat.zero_add] at hix
                  have Ha := Lib.hid ha
                  generalize ixI E2 k = x at *
                  have hll := lo24_len E2 k hEl
                  have hal := at24_len f (lo24 ((E2).take k))
                  obtain ⟨M, hM⟩ : ∃ M, M = L ++ at24 f (lo24 ((E2).take k)) := ⟨_, rfl⟩
                  have hMl : M.length ≤ 28 * f + 28 := by rw [hM, List.length_append]; omega
                  rw [← hM] at hoo
                  have HOE := Lib.hid hoe
                  have HGX := Lib.hid hgx
                  have HRX := Lib.hid hrx
                  have HDX := Lib.hid hdx
                  have HLO := Lib.hid hlo
                  have HOO := Lib.hid hoo
                  have HOF := Lib.hid hoff
                  clear hoe hoe2 hgx hrx hdx hlo hoo hoff ha hll hal
                  by_cases hx : x < 24
                  · have HS2 : Hid (L ++ at24 f (lo24 ((E2).take (k + 1))) = M ++ [24 * (f : Int) + x]) := Lib.hid (by rw [HS.out, if_pos hx, at24_app, hM, List.append_assoc])
                    clear HS hM
                    have hoa := ownD_keep HOO.out ((Below.refl wr.heap.size wr).alloc (Nat.le_refl _) (.cells #[.int .i64 (24 * (f : Int) + x)] 3))
                    have HA := Lib.hid ((Below.refl wr.heap.size wr).alloc (Nat.le_refl _) (.cells #[.int .i64 (24 * (f : Int) + x)] 3))
                    have hbas : gb + 1 ≤ (wr.alloc (.cells #[.int .i64 (24 * (f : Int) + x)] 3)).heap.size := by simp; omega
                    go_wp2_with (at_builtin; refine wpList_ap1 rfl _ _ rfl Tryz.underlying53 Tryz.infoInt9 rfl hoa rfl (g := wr.heap.size) (y := .int .i64 (24 * (f : Int) + x)) rfl (by simp) rfl (by unfold maxLen; omega) (by omega) hbas ?_; intro v7 w7 hown7 hgr7 hno7)
                    have hb7 := (Below.refl (gb + 1) (wr.alloc (.cells #[.int .i64 (24 * (f : Int) + x)] 3))).grown hgr7 hbas (fun q hq => by have := ownD_block hoa q hq; omega)
                    have hlo7 := (HLO.out.call HA.out).keep hb7
                    have hoe7 := own_off (ownD_keep HOE.out HA.out) hgr7 (fun q hq h => HOF.out q h (by
                      have e2 := Ha.out
                      rw [e2] at hq ⊢
                      simpa [Value.ownBlock] using hq))
                    have hgx7 := bx_off (HGX.out.call HA.out) hgr7 (block9 hoa (HGX.out.call HA.out) (by decide))
                    have hrx7 := row_off (HRX.out.below HA.out) hgr7 (row9 hoa (HRX.out.below HA.out) (by decide))
                    have hdx7 := own_off (ownD_keep HDX.out HA.out) hgr7 (fun q hq h => apart9 (ownD_keep HDX.out HA.out) hoa (by decide) q hq h)
                    have hf7 := HOF.out.step hno7 (fun q hq h => by
                      simp only [World.size_alloc] at hq
                      rw [Ha.out] at h
                      simp only [Option.some.injEq, Addr.mk.injEq, and_true] at h
                      omega)
                    clear hoa hgr7 hno7 HA HOE HGX HLO HOO HOF HRX HDX hb7
                    go_roundw
                    case rel => exact ⟨k + 1, by omega, by go_num, by rw [HS2.out, is_append, List.length_append]; exact hown7, hf7, hoe7, hgx7, hrx7, hdx7, hlo7⟩
                    case measure => simp [intOf]; omega
                  · have HS2 : Hid (L ++ at24 f (lo24 ((E2).take (k + 1))) = M) := Lib.hid (by rw [HS.out, if_neg hx, hM])
                    clear HS hM
                    go_wp2_with fail
                    go_roundw
                    case rel => exact ⟨k + 1, by omega, by go_num, by rw [HS2.out]; exact HOO.out, HOF.out, HOE.out, HGX.out, HRX.out, HDX.out, HLO.out⟩
                    case measure => simp [intOf]; omega
                · obtain rfl : k = E2.length := by omega
                  rw [show (E2).take E2.length = E2 from by simp] at hoo
                  rw [← HLS2.out] at hoo
                  obtain ⟨a9, c9, rfl⟩ := ownD_form hoo
                  have hgc := hgx.cell (i := 0) rfl
                  have hwl9 := HWL.out
                  have hrd := hrx.rd (by omega)
                  obtain ⟨vs, hrs, _, _, hcut⟩ := run_cut (P := Tryz.prog) Tryz.underlying123 (by kernel_rfl : (Tryz.prog.info? 5).map (·.size) = some 1) hrd 0 24 (by omega) (by omega)
                  have hcut2 := fun W => hcut rfl 24 W rfl
                  rw [hwl9] at hcut2
                  rw [List.drop_zero] at hrs
                  have hl24 : ((Z2).take 24).length = 24 := by rw [List.length_take, hwl9]; rfl
                  have HL24 := Lib.hid hl24
                  have HDX := Lib.hid hdx
                  have HOO := Lib.hid hoo
                  have HLO := Lib.hid hlo
                  clear hrd hrx hgx hoe hoff hoo hlo hcut hwl9 hl24
                  go_wp2_with (at_builtin; refine wpList_appB rfl _ _ rfl Tryz.underlying123 Tryz.infoU9 HDX.out rfl hrs rfl (by have := HL24.out; omega) hwsz ?_; intro v8 w8 hown8 hgr8 hno8)
                  have hb8 := (Below.refl (gb + 1) wr).grown hgr8 hwsz (fun q hq => by have := ownD_block HDX.out q hq; omega)
                  have hen8 := HLO.out.keep hb8
                  have ho8 := own_off HOO.out hgr8 (fun q hq h => apart9 HOO.out HDX.out (by decide) q hq h)
                  rw [HL24.out, ← HDS2.out] at hown8
                  clear hgr8 hno8 hb8 HLO HOO HDX hgc hrs hcut2
                  go_roundw
                  case rel => exact ⟨f + 1, by omega, by go_num, by rw [show 24 * (f + 1) = 24 * f + 24 from by omega]; exact hown8, ho8, hen8⟩
                  case measure => simp [intOf]; omega
          · have h4' : ¬ (E.length : Int) ≤ 4 := by omega
            have hout := HOD.out h4
            simp only [Prod.mk.injEq] at hout
            obtain ⟨ho1, ho2⟩ := hout
            subst ho1 ho2
            have hrow := row_bx hgw hwl
            have HEB := HEB0
            have hEl := hel
            have hoff : Off (.slice ao L.length co) (fun k => ae = some ⟨k, 0, none⟩) := fun q hq h => by have h1 := HLB.out q hq; have h2 := (hve.lt q (by rw [h]; rfl)).1; omega
            have HWL := Lib.hid hwl
            have HLS2 : Hid (lstD F (f + 1) = L ++ at24 f (lo24 E)) := HLS
            have HDS2 : Hid (datD F (f + 1) = Dt ++ Wd.take 24) := HDS
            have hq1 := hc1
            have hdX := HD6.out
            have hoX := HO6.out
            have henX := HEN6.out
            clear HDE HOC HOB HOD HDL HLS HDS hgw hwl hb6 hc2 hc1 HD6 HO6 HEN6
            go_wp2_with fail
            go_loopw [13, 90] (fun vo vk wr => ∃ k : Nat, k ≤ E.length ∧ vk = .int .i64 k ∧ wr.ownsRow (gb + 1) 3 1 vo (L ++ at24 f (lo24 ((E).take k))).length (is (L ++ at24 f (lo24 ((E).take k)))) ∧ Off vo (fun k => ae = some ⟨k, 0, none⟩) ∧ wr.ownsRow (eb + 1) 3 1 (.slice ae E.length ce) E.length (is E) ∧ Bx wr gwb 123 [.slice (some ⟨gw, 0, none⟩) 28 28] ∧ Row wr 5 gw 28 Wd ∧ wr.ownsRow (gb + 1) 5 1 (.slice ad (24 * f) cd) (24 * f) (bs Dt) ∧ DeW w g gr gb (rwA F g) wr) (fun _ vk _ => E.length - (intOf vk).toNat)
            case atStart => exact ⟨0, by omega, rfl, by rw [List.take_zero, show at24 f (lo24 []) = [] from rfl, List.append_nil]; exact hoX, hoff, hve, hgwb, hrow, hdX, henX⟩
            case round =>
              clear hoX hve hgwb hrow hdX henX heb hoff hq1
              obtain ⟨k, hk, rfl, hoo, hoff, hoe, hgx, hrx, hdx, hlo⟩ := hrel
              have hwsz := hlo.size
              by_cases hkt : k < E.length
              · have hkt' : (k : Int) < (E.length : Int) := by omega
                obtain ⟨ge, ce', he, hge, hge2⟩ := ownD_addr hoe (by omega)
                simp only [Value.slice.injEq] at he
                have ha := he.1
                clear he
                obtain ⟨hx1, hx2⟩ := HEB.out _ (ixI_mem hkt)
                have HS := Lib.hid (lo24_take E k (ixI E k) (ixI_some hkt))
                have hoe2 := hoe
                rw [ha] at hoe2
                have hcl : wr.cell? ⟨ge, k, none⟩ = some (.int .i64 (ixI E k)) := by rw [hoe2.cellAt k (by omega), is_get hkt]
                have hix := fun w' => run_idxS Tryz.underlying53 Tryz.sizeInt9 (a := ae) (cap := ce) ha hkt (k : Int) rfl w'
                simp only [Nat.mul_one, Nat.zero_add] at hix
                have Ha := Lib.hid ha
                generalize ixI E k = x at *
                have hll := lo24_len E k hEl
                have hal := at24_len f (lo24 ((E).take k))
                obtain ⟨M, hM⟩ : ∃ M, M = L ++ at24 f (lo24 ((E).take k)) := ⟨_, rfl⟩
                have hMl : M.length ≤ 28 * f + 28 := by rw [hM, List.length_append]; omega
                rw [← hM] at hoo
                have HOE := Lib.hid hoe
                have HGX := Lib.hid hgx
                have HRX := Lib.hid hrx
                have HDX := Lib.hid hdx
                have HLO := Lib.hid hlo
                have HOO := Lib.hid hoo
                have HOF := Lib.hid hoff
                clear hoe hoe2 hgx hrx hdx hlo hoo hoff ha hll hal
                by_cases hx : x < 24
                · have HS2 : Hid (L ++ at24 f (lo24 ((E).take (k + 1))) = M ++ [24 * (f : Int) + x]) := Lib.hid (by rw [HS.out, if_pos hx, at24_app, hM, List.append_assoc])
                  clear HS hM
                  have hoa := ownD_keep HOO.out ((Below.refl wr.heap.size wr).alloc (Nat.le_refl _) (.cells #[.int .i64 (24 * (f : Int) + x)] 3))
                  have HA := Lib.hid ((Below.refl wr.heap.size wr).alloc (Nat.le_refl _) (.cells #[.int .i64 (24 * (f : Int) + x)] 3))
                  have hbas : gb + 1 ≤ (wr.alloc (.cells #[.int .i64 (24 * (f : Int) + x)] 3)).heap.size := by simp; omega
                  go_wp2_with (at_builtin; refine wpList_ap1 rfl _ _ rfl Tryz.underlying53 Tryz.infoInt9 rfl hoa rfl (g := wr.heap.size) (y := .int .i64 (24 * (f : Int) + x)) rfl (by simp) rfl (by unfold maxLen; omega) (by omega) hbas ?_; intro v7 w7 hown7 hgr7 hno7)
                  have hb7 := (Below.refl (gb + 1) (wr.alloc (.cells #[.int .i64 (24 * (f : Int) + x)] 3))).grown hgr7 hbas (fun q hq => by have := ownD_block hoa q hq; omega)
                  have hlo7 := (HLO.out.call HA.out).keep hb7
                  have hoe7 := own_off (ownD_keep HOE.out HA.out) hgr7 (fun q hq h => HOF.out q h (by
                    have e2 := Ha.out
                    rw [e2] at hq ⊢
                    simpa [Value.ownBlock] using hq))
                  have hgx7 := bx_off (HGX.out.call HA.out) hgr7 (block9 hoa (HGX.out.call HA.out) (by decide))
                  have hrx7 := row_off (HRX.out.below HA.out) hgr7 (row9 hoa (HRX.out.below HA.out) (by decide))
                  have hdx7 := own_off (ownD_keep HDX.out HA.out) hgr7 (fun q hq h => apart9 (ownD_keep HDX.out HA.out) hoa (by decide) q hq h)
                  have hf7 := HOF.out.step hno7 (fun q hq h => by
                    simp only [World.size_alloc] at hq
                    rw [Ha.out] at h
                    simp only [Option.some.injEq, Addr.mk.injEq, and_true] at h
                    omega)
                  clear hoa hgr7 hno7 HA HOE HGX HLO HOO HOF HRX HDX hb7
                  go_roundw
                  case rel => exact ⟨k + 1, by omega, by go_num, by rw [HS2.out, is_append, List.length_append]; exact hown7, hf7, hoe7, hgx7, hrx7, hdx7, hlo7⟩
                  case measure => simp [intOf]; omega
                · have HS2 : Hid (L ++ at24 f (lo24 ((E).take (k + 1))) = M) := Lib.hid (by rw [HS.out, if_neg hx, hM])
                  clear HS hM
                  go_wp2_with fail
                  go_roundw
                  case rel => exact ⟨k + 1, by omega, by go_num, by rw [HS2.out]; exact HOO.out, HOF.out, HOE.out, HGX.out, HRX.out, HDX.out, HLO.out⟩
                  case measure => simp [intOf]; omega
              · obtain rfl : k = E.length := by omega
                rw [show (E).take E.length = E from by simp] at hoo
                rw [← HLS2.out] at hoo
                obtain ⟨a9, c9, rfl⟩ := ownD_form hoo
                have hgc := hgx.cell (i := 0) rfl
                have hwl9 := HWL.out
                have hrd := hrx.rd (by omega)
                obtain ⟨vs, hrs, _, _, hcut⟩ := run_cut (P := Tryz.prog) Tryz.underlying123 (by kernel_rfl : (Tryz.prog.info? 5).map (·.size) = some 1) hrd 0 24 (by omega) (by omega)
                have hcut2 := fun W => hcut rfl 24 W rfl
                rw [hwl9] at hcut2
                rw [List.drop_zero] at hrs
                have hl24 : ((Wd).take 24).length = 24 := by rw [List.length_take, hwl9]; rfl
                have HL24 := Lib.hid hl24
                have HDX := Lib.hid hdx
                have HOO := Lib.hid hoo
                have HLO := Lib.hid hlo
                clear hrd hrx hgx hoe hoff hoo hlo hcut hwl9 hl24
                go_wp2_with (at_builtin; refine wpList_appB rfl _ _ rfl Tryz.underlying123 Tryz.infoU9 HDX.out rfl hrs rfl (by have := HL24.out; omega) hwsz ?_; intro v8 w8 hown8 hgr8 hno8)
                have hb8 := (Below.refl (gb + 1) wr).grown hgr8 hwsz (fun q hq => by have := ownD_block HDX.out q hq; omega)
                have hen8 := HLO.out.keep hb8
                have ho8 := own_off HOO.out hgr8 (fun q hq h => apart9 HOO.out HDX.out (by decide) q hq h)
                rw [HL24.out, ← HDS2.out] at hown8
                clear hgr8 hno8 hb8 HLO HOO HDX hgc hrs hcut2
                go_roundw
                case rel => exact ⟨f + 1, by omega, by go_num, by rw [show 24 * (f + 1) = 24 * f + 24 from by omega]; exact hown8, ho8, hen8⟩
                case measure => simp [intOf]; omega
        · obtain rfl : f = n := by omega
          obtain ⟨ad, cd, rfl⟩ := ownD_form hd
          obtain ⟨ao, co, rfl⟩ := ownD_form ho
          have hrd := Rd.ofOwn' hd (by omega)
          have hconv := run_str (P := Tryz.prog) Tryz.underlying123 Tryz.underlying5 Tryz.underlying9 hrd
          have HO := Lib.hid ho
          have HLE := Lib.hid hen.le
          clear hd ho hen hrd
          go_wp2_with fail
          go_ret3
          exact ⟨_, rfl, own_mono HO.out (by omega), HLE.out⟩
end Go.Proofs.YtflmjdjkfognjaaGreat.C9
