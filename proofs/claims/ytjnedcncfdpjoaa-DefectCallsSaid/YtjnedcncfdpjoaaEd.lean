/- Chapter 13: the law DefectPartition walked. -/
import Derived.Test.YtjnedcncfdpjoaaEe
import Derived.Test.YtjnedcncfdpjoaaEo
namespace Go.Proofs.Ytjnedcncfdpjoaa.D13
open Go.RowKit Go.Maps
set_option linter.unusedVariables false

/-- 'make([]int, n)' -/
theorem wpList_mkI {P : Program} {w : World} {ops : Array Oper} {rest : List Oper} {o : Oper} {a : Act} {Q : Exit → Act → World → Prop}
    (hg : o.guard = none) (l c : Operand) {t : TypeId} (hop : o.op = Op.makeSlice t l c)
    {e : TypeId} (h1 : P.underlying t = some (.slice e)) (h2 : (P.info? e).map (fun i => (i.zero, i.size, i.bytes)) = some (some (.int .i64 0), 1, 8))
    {L C : Int} (n : Nat) (hl : a.eval l = .int .i64 L) (hc : a.eval c = .int .i64 C) (hL : L = (n : Int)) (hC : C = (n : Int)) (b3 : n ≤ 1000000)
    (hK : ∀ w', Bx w' w.heap.size e (is (List.replicate n 0)) → Below w.heap.size w w' → wpList P ops Q rest (a.put o.dst (.slice (some ⟨w.heap.size, 0, none⟩) n n)) w') :
    wpList P ops Q (o :: rest) a w := by
  obtain ⟨i0, hi, hz0, hz1, hz2⟩ := info_parts h2
  refine wpList_make_full w hg l c t hop w.heap.size e i0 _ 1 h1 hi hz0 hz1 .i64 .i64 L C n hl hc hL hC (by rw [hz2]; omega) (by unfold maxLen; omega) (Nat.le_refl _) fun w' h3 h4 => hK w' ?_ ((Below.refl _ _).grown h4 (Nat.le_refl _) (fun k hk => by cases hk))
  have e1 : (madeCells (Value.int .i64 0).cells (n * 1)).toList = is (List.replicate n 0) := by
    simp only [Value.cells, toList_madeCells_one, is, List.map_replicate, Nat.mul_one]
  rw [e1] at h3
  exact Bx.ofOwn h3
set_option maxRecDepth 100000 in
set_option maxHeartbeats 4000000 in
theorem part_skip (w : World) (b s : Int) (hb : In64 b) (hs : In64 s) (v1 : Value) (l1 : List Int) (h1 : CameI w v1 l1) (v2 : Value) (l2 : List Int) (h2 : CameI w v2 l2) (hno : 40 < b ∨ 20 < l1.length ∨ 80 < l2.length) :
    Calls Try.prog 3 #[.int .i64 b, .int .i64 s, v1, v2] w fun e w' => e = .returned (.bool true) ∧ Below w.heap.size w w' := by
  obtain ⟨_, hl1, a1, c1, rfl⟩ := h1
  obtain ⟨_, hl2, a2, c2, rfl⟩ := h2
  obtain ⟨b1, b2⟩ := hb
  have hcase : 40 < b ∨ (¬ 40 < b ∧ 20 < l1.length) ∨ (¬ 40 < b ∧ ¬ 20 < l1.length ∧ 80 < l2.length) := by omega
  clear hno
  rcases hcase with g1 | ⟨g1, g2⟩ | ⟨g1, g2, g3⟩
  all_goals
    go_enter Try.func3, Try.ntmps3
    go_wp2_with fail
    refine (awake13_any _).mono ?_
    rintro e w1 ⟨rfl, hb1⟩
    go_wp2_with fail
    go_ret
    exact ⟨rfl, hb1⟩
set_option maxRecDepth 100000 in
set_option maxHeartbeats 4000000 in
theorem part_bad (w : World) (b s : Int) (hb : In64 b) (hs : In64 s) (v1 : Value) (l1 : List Int) (h1 : RdI w v1 l1) (v2 : Value) (l2 : List Int) (h2 : RdI w v2 l2) (g1 : b ≤ 40) (g2 : l1.length ≤ 20) (g3 : l2.length ≤ 80) (hno : ¬ shp b s l1) :
    Calls Try.prog 3 #[.int .i64 b, .int .i64 s, v1, v2] w fun e w' => e = .returned (.bool true) ∧ Below w.heap.size w w' := by
  have HNW := Lib.hid (fun W hv => new_any b s hb hs v1 l1 W hv)
  have H1 := Lib.hid h1
  obtain ⟨a1, c1, rfl⟩ := RdI.formD h1
  obtain ⟨a2, c2, rfl⟩ := RdI.formD h2
  have HS := Lib.hid hno
  clear h1 h2 hno
  go_enter Try.func3, Try.ntmps3
  go_wp2_with fail
  refine (awake13_any _).mono ?_
  rintro e w1 ⟨rfl, hb1⟩
  have HB1 := Lib.hid hb1
  have HN1 := Lib.hid (HNW.out w1 (H1.out.keep hb1))
  clear hb1
  go_wp2_with fail
  refine HN1.out.mono ?_
  rintro e w2 ⟨hb2, h2'⟩
  have HB2 := Lib.hid (HB1.out.trans (hb2.mono HB1.out.size))
  clear hb2
  rcases h2' with ⟨hn, _⟩ | ⟨hn, rfl⟩
  · exact absurd hn HS.out
  · clear hn
    go_wp2_with fail
    go_ret
    exact ⟨rfl, HB2.out⟩
set_option maxRecDepth 100000 in
set_option maxHeartbeats 8000000 in
theorem part_main (w : World) (b s : Int) (hb : In64 b) (hs : In64 s) (v1 : Value) (l1 : List Int) (h1 : RdI w v1 l1) (v2 : Value) (l2 : List Int) (h2 : RdI w v2 l2) (g1 : b ≤ 40) (g2 : l1.length ≤ 20) (g3 : l2.length ≤ 80) (hsh : shp b s l1) :
    Calls Try.prog 3 #[.int .i64 b, .int .i64 s, v1, v2] w fun e w' => e = .returned (.bool true) ∧ Below w.heap.size w w' := by
  have HNW := Lib.hid (fun W hv => new_any b s hb hs v1 l1 W hv)
  have H1 := Lib.hid h1
  have H2 := Lib.hid h2
  obtain ⟨a1, c1, rfl⟩ := RdI.formD h1
  obtain ⟨a2, c2, rfl⟩ := RdI.formD h2
  have HS := Lib.hid hsh
  have b1 := hsh.1.1
  have s1 := hsh.1.2.2.1
  have s2 := hsh.1.2.2.2.1
  clear h1 h2 hsh hb hs
  go_enter Try.func3, Try.ntmps3
  go_wp2_with fail
  refine (awake13_any _).mono ?_
  rintro e w1 ⟨rfl, hb1⟩
  have HB1 := Lib.hid hb1
  have HN1 := Lib.hid (HNW.out w1 (H1.out.keep hb1))
  clear hb1
  go_wp2_with fail
  refine HN1.out.mono ?_
  rintro e w2 ⟨hb2, h2'⟩
  have HB2 := Lib.hid (HB1.out.trans (hb2.mono HB1.out.size))
  have hb1s := HB1.out.size
  clear hb2
  rcases h2' with ⟨_, g, gm, vp, rfl, hT, hg, hgm⟩ | ⟨hn, _⟩
  · have HT := Lib.hid hT
    have HG : Hid (w.heap.size ≤ g ∧ w.heap.size ≤ gm) := Lib.hid ⟨by omega, by omega⟩
    clear hT hg hgm hb1s
    go_wp2_with fail
    go_loopw [55] (fun vk wr => ∃ k : Nat, k ≤ l2.length ∧ vk = .int .i64 k ∧ TabW wr g gm vp (reps (tab0 b s l1) (l2.take k)) ∧ Below w.heap.size w wr) (fun vk _ => l2.length - (intOf vk).toNat)
    case atStart => exact ⟨0, by omega, rfl, HT.out, HB2.out⟩
    case round =>
      obtain ⟨k, hk, rfl, hT, hb⟩ := hrel
      have HT2 := Lib.hid hT
      have HB3 := Lib.hid hb
      by_cases hlt : k < l2.length
      · obtain ⟨bl, off, hcell⟩ := RdI.at (H2.out.keep hb)
        obtain ⟨ha, hcl⟩ := hcell k hlt
        have hix := fun w' => run_idxS Try.underlying22 Try.sizeInt13 (cap := c2) ha hlt (k : Int) rfl w'
        simp only [Nat.mul_one] at hix
        have HR := Lib.hid (replace_any hT (ixI l2 k) ((H2.out.2.2 k hlt)))
        have HX := Lib.hid (reps_take (tab0 b s l1) l2 k hlt)
        generalize ixI l2 k = x at *
        have HA := Lib.hid ha
        clear ha hT hb hcell
        go_wp2_with fail
        refine HR.out.mono ?_
        rintro e w4 ⟨rfl, hT4, htu⟩
        go_wp2_with fail
        go_roundw
        case rel => exact ⟨k + 1, by omega, by go_num, by rw [HX.out]; exact hT4, HB3.out.trans (htu.below HG.out.1 HG.out.2 HB3.out.size)⟩
        case measure => simp [intOf]; omega
      · obtain rfl : k = l2.length := by omega
        have HLE := Lib.hid ((Left.zero HS.out).reps (l2.take l2.length))
        clear hT hb
        generalize reps (tab0 b s l1) (l2.take l2.length) = T at *
        obtain ⟨M, hM⟩ : ∃ M, M = T.first + T.used := ⟨_, rfl⟩
        obtain ⟨N, hN⟩ : ∃ N, N = T.first + T.spares := ⟨_, rfl⟩
        have hMN : M ≤ N := by have := HT2.out.ok.us; omega
        have hNe : (N : Int) = b + l1.length + s := by have := HLE.out.hb; have := HLE.out.hs; have := first_int T; rw [HLE.out.hp] at this; omega
        have HM := Lib.hid hM
        have HNN := Lib.hid hN
        have hN1 : N ≤ 200 := by omega
        clear hM hN
        obtain ⟨w3, rfl⟩ : ∃ w3 : World, w3 = wr := ⟨_, rfl⟩
        go_wp2_with (first
          | (refine wpList_mkI rfl _ _ rfl Try.underlying22 Try.infoInt13 N rfl rfl hNe.symm hNe.symm (by omega) ?_; intro w5 hx5 hb5)
          | fail)
        have HB5 := Lib.hid hb5
        have HX5 : Hid (Bx w5 w3.heap.size 3 (is (uN N (met T 0)))) := Lib.hid (by
          have e : uN N (met T 0) = List.replicate N 0 := by rw [← uN_zero]; exact uN_congr fun x _ => met_zero T x
          rw [e]; exact hx5)
        have HSE := Lib.hid (sectors_any (HT2.out.below hb5))
        have hTS : Hid ((T.first : Int) + T.spares = N) := Lib.hid (by have := HNN.out; omega)
        rw [hTS.out] at HSE
        have hGU : Hid (g < w3.heap.size ∧ gm < w3.heap.size) := Lib.hid ⟨HT2.out.box.lt, HT2.out.map.lt⟩
        clear hx5 hb5
        go_wp2_with fail
        refine HSE.out.mono ?_
        rintro e w6 ⟨rfl, q6, rfl⟩
        have HX6 := Lib.hid (HX5.out.drewN q6)
        have HB6 := Lib.hid (Below.drewN HB5.out q6)
        clear HX5 HB5 HSE
        generalize w5.drewN q6 = w6 at *
        obtain ⟨gu, hgu⟩ : ∃ gu, gu = w3.heap.size := ⟨_, rfl⟩
        have HGU := Lib.hid hgu
        rw [← hgu] at HX6 ⊢
        clear hgu
        have hBN : Hid (b = (T.blocks : Int)) := Lib.hid HLE.out.hb.symm
        have hbl : T.blocks ≤ 40 := by have := hBN.out; omega
        go_wp2_with fail
        go_loopw [86] (fun vk wq => ∃ k : Nat, k ≤ T.blocks ∧ vk = .int .i64 k ∧ Bx wq gu 3 (is (uN N (met T k))) ∧ Below w3.heap.size w3 wq) (fun vk _ => T.blocks - (intOf vk).toNat)
        case atStart => exact ⟨0, by omega, rfl, HX6.out, HB6.out⟩
        case round =>
          obtain ⟨k, hk, rfl, hX, hB⟩ := hrel
          have HXk := Lib.hid hX
          have HBk := Lib.hid hB
          clear hX hB
          by_cases hlt : k < T.blocks
          · have hlt' : (k : Int) < b := by have := hBN.out; omega
            have hpr := HT2.out.ok.phys_range (b := k) (by omega) (by omega)
            obtain ⟨p, hp⟩ : ∃ p : Nat, T.phys k = p := ⟨(T.phys k).toNat, by omega⟩
            rw [hp] at hpr
            have hpM : p < N := by have := HM.out; omega
            have HP := Lib.hid (physical_any (HT2.out.below HBk.out) k (by unfold In64; omega))
            have hPR : physR T k = ((p : Int), 0) := by unfold physR; rw [if_pos ⟨by omega, by omega⟩, hp]
            rw [hPR] at HP
            have HBLW := Lib.hid (fun W hW => block_any (HT2.out.below (w' := W) hW) p (by omega) (by omega))
            have hBR := blkR_phys HT2.out.ok hlt hp
            simp only [hBR] at HBLW
            have HST := Lib.hid (HT2.out.ok.met_step hlt hp)
            have hmr := met_range T k p
            clear hPR hBR hpr hp
            go_wp2_with fail
            refine HP.out.mono ?_
            rintro e w7 ⟨rfl, q7, rfl⟩
            have HX7 := Lib.hid (HXk.out.drewN q7)
            have HB7 := Lib.hid (Below.drewN HBk.out q7)
            generalize wr.drewN q7 = w7 at *
            go_wp2_with fail
            refine (HBLW.out _ HB7.out).mono ?_
            rintro e w8 ⟨rfl, hb8⟩
            have hx8 := HX7.out.call hb8
            have HB8 := Lib.hid (HB7.out.trans (hb8.mono HB7.out.size))
            have hc8 := hx8.cell (i := p) (is_get (l := uN N (met T k)) (by rw [uN_length]; exact hpM))
            rw [show ixI (uN N (met T k)) p = met T k p from by unfold ixI; rw [List.getD_eq_getElem?_getD, uN_get _ hpM]; rfl] at hc8
            have hf8 := hx8.free p
            have HX8 := Lib.hid hx8
            have HMT : Hid (∀ v : Int, v = met T k p + 1 → is (uN N (met T (k + 1))) = (is (uN N (met T k))).set p (.int .i64 v)) := Lib.hid (fun v hv => by
              have e : uN N (met T (k + 1)) = (uN N (met T k)).set p v := by
                rw [uN_set]
                refine uN_congr fun x hx => ?_
                rw [HST.out x]
                by_cases e : x = p
                · subst e; rw [if_pos rfl, if_pos rfl, hv]
                · rw [if_neg e, if_neg e]
              rw [e]
              simp [is])
            clear hb8 hx8
            generalize met T k p = y at *
            go_wp2_with fail
            go_roundw
            case rel => exact ⟨k + 1, by omega, by go_num, by rw [HMT.out _ rfl]; exact HX8.out.set p _, HB8.out.setCell (by have := HGU.out; simp only; omega) _⟩
            case measure => simp [intOf]; omega
          · obtain rfl : k = T.blocks := by omega
            have hnlt : ¬ ((T.blocks : Int) < b) := by have := hBN.out; omega
            have HBA := Lib.hid (bad_any (HT2.out.below HBk.out))
            have HBD : Hid (∀ m, m < T.bad.length → ∃ p : Nat, ixI T.bad m = p ∧ p < M ∧ T.bad[m]? = some (p : Int)) := Lib.hid (fun m hm => by
              have h1 := Tab.mem_bad.1 (ixI_mem (l := T.bad) hm)
              refine ⟨(ixI T.bad m).toNat, by omega, by have := HM.out; omega, ?_⟩
              rw [List.getElem?_eq_getElem hm, ← ixI_get hm]
              congr 1; omega)
            have hbn : T.bad.length ≤ 1000 := by
              have := HT2.out.ok.bad_length
              have := HT2.out.ok.pl; have := HT2.out.ok.us; have := HT2.out.ok.sp
              omega
            have hx0 : Hid (Bx wr gu 3 (is (uN N (met2 T 0)))) := Lib.hid (by
              rw [uN_congr (h := met T T.blocks) fun x _ => met2_zero T x]
              exact HXk.out)
            go_wp2_with fail
            refine HBA.out.mono ?_
            rintro e w7 ⟨v7, rfl, ho7, hb7⟩
            have hgw : gu < wr.heap.size := HXk.out.lt
            have HO7 := Lib.hid ho7
            have HX7 := Lib.hid (hx0.out.call hb7)
            have HB7 := Lib.hid (HBk.out.trans (hb7.mono HBk.out.size))
            obtain ⟨a7, c7, rfl⟩ := ownD_form ho7
            obtain ⟨B7, hB7⟩ : ∃ B7, B7 = wr.heap.size := ⟨_, rfl⟩
            rw [← hB7] at HO7 hgw
            clear ho7 hb7 HXk HBk HBA hx0 hB7
            go_wp2_with fail
            go_loopw [130] (fun vk wq => ∃ k : Nat, k ≤ T.bad.length ∧ vk = .int .i64 k ∧ Bx wq gu 3 (is (uN N (met2 T k))) ∧ Below w3.heap.size w3 wq ∧ wq.ownsRow B7 3 1 (.slice a7 T.bad.length c7) T.bad.length (is T.bad)) (fun vk _ => T.bad.length - (intOf vk).toNat)
            case atStart => exact ⟨0, by omega, rfl, HX7.out, HB7.out, HO7.out⟩
            case round =>
              obtain ⟨k, hk, rfl, hX, hB, hO⟩ := hrel
              have HOk := Lib.hid hO
              have HBk := Lib.hid hB
              by_cases hlt : k < T.bad.length
              · obtain ⟨bl, off, hcell⟩ := RdI.at (rdI_own hO rfl (by omega) (fun x hx => by
                  have h1 := Tab.mem_bad.1 hx
                  have := HM.out
                  omega))
                obtain ⟨ha, hcl⟩ := hcell k hlt
                have hix := fun w' => run_idxS Try.underlying22 Try.sizeInt13 (cap := c7) ha hlt (k : Int) rfl w'
                simp only [Nat.mul_one] at hix
                obtain ⟨p, hp, hpM, hpg⟩ := HBD.out k hlt
                rw [hp] at hcl
                have hpN : p < N := by omega
                have hc8 := hX.cell (i := p) (is_get (l := uN N (met2 T k)) (by rw [uN_length]; exact hpN))
                rw [show ixI (uN N (met2 T k)) p = met2 T k p from by unfold ixI; rw [List.getD_eq_getElem?_getD, uN_get _ hpN]; rfl] at hc8
                have hf8 := hX.free p
                have HX8 := Lib.hid hX
                have hmr := met2_range T k p
                have HMT : Hid (∀ v : Int, v = met2 T k p + 1 → is (uN N (met2 T (k + 1))) = (is (uN N (met2 T k))).set p (.int .i64 v)) := Lib.hid (fun v hv => by
                  have hpe : T.bad[k] = (p : Int) := by
                    have h3 := hpg
                    rw [List.getElem?_eq_getElem hlt] at h3
                    exact Option.some.inj h3
                  have e : uN N (met2 T (k + 1)) = (uN N (met2 T k)).set p v := by
                    rw [uN_set]
                    refine uN_congr fun x hx => ?_
                    rw [met2_step hlt hpe x]
                    by_cases e : x = p
                    · subst e; rw [if_pos rfl, if_pos rfl, hv]
                    · rw [if_neg e, if_neg e]
                  rw [e]
                  simp [is])
                have HA := Lib.hid ha
                clear hX hB hO hcell ha hpg hp
                generalize met2 T k p = y at *
                go_wp2_with fail
                go_roundw
                case rel => exact ⟨k + 1, by omega, by go_num, by rw [HMT.out _ rfl]; exact HX8.out.set p _, HBk.out.setCell (by have := HGU.out; simp only; omega) _, ownD_far HOk.out hgw _⟩
                case measure => simp [intOf]; omega
              · obtain rfl : k = T.bad.length := by omega
                have HEQ : Hid (is (uN N (met2 T T.bad.length)) = is (uN N fun x => if x < M then 1 else 0)) := Lib.hid (by
                  rw [uN_congr fun x _ => HT2.out.ok.met2_done x]
                  rw [HM.out])
                rw [HEQ.out] at hX
                have HXE := Lib.hid hX
                clear hX hB hO
                obtain ⟨w8, rfl⟩ : ∃ w8 : World, w8 = wr := ⟨_, rfl⟩
                go_wp2_with fail
                go_loopw [151, 21] (fun vk vf wq => ∃ i : Nat, i ≤ N ∧ vk = .int .i64 i ∧ vf = .int .i64 ((i - M : Nat) : Int) ∧ wq = w8) (fun vk _ _ => N - (intOf vk).toNat)
                case atStart => exact ⟨0, by omega, rfl, by simp, rfl⟩
                case round =>
                  obtain ⟨i, hi, rfl, rfl, rfl⟩ := hrel
                  by_cases hin : i < N
                  · have hc9 := HXE.out.cell (i := i) (is_get (l := uN N fun x => if x < M then 1 else 0) (by rw [uN_length]; exact hin))
                    rw [show ixI (uN N fun x => if x < M then 1 else 0) i = if i < M then 1 else 0 from by unfold ixI; rw [List.getD_eq_getElem?_getD, uN_get _ hin]; rfl] at hc9
                    by_cases him : i < M
                    · rw [if_pos him] at hc9
                      go_wp2_with fail
                      go_roundw
                      case rel => exact ⟨i + 1, by omega, by go_num, by congr 1; omega, trivial⟩
                      case measure => simp [intOf]; omega
                    · rw [if_neg him] at hc9
                      obtain ⟨d, hd⟩ : ∃ d, d = i - M := ⟨_, rfl⟩
                      have HD := Lib.hid hd
                      rw [← hd]
                      clear hd
                      have hdd : d ≤ 1000 := by have := HD.out; omega
                      go_wp2_with fail
                      go_roundw
                      case rel => exact ⟨i + 1, by omega, by go_num, by congr 1; have := HD.out; omega, trivial⟩
                      case measure => simp [intOf]; omega
                  · obtain rfl : i = N := by omega
                    have HFR := Lib.hid (free_any (HT2.out.below HBk.out))
                    have hfr : Hid ((T.spares : Int) - T.used = ((i - M : Nat) : Int)) := Lib.hid (by have := HM.out; have := HNN.out; have := HT2.out.ok.us; omega)
                    rw [hfr.out] at HFR
                    have HBF := Lib.hid (HB2.out)
                    generalize ((i - M : Nat) : Int) = fr at *
                    go_wp2_with fail
                    refine HFR.out.mono ?_
                    rintro e w9 ⟨rfl, q9, rfl⟩
                    go_wp2_with fail
                    go_ret
                    exact ⟨retB (by simp), Below.drewN (HB3.out.trans (HBk.out.mono HB3.out.size)) _⟩
  · exact absurd HS.out hn
theorem part_law (w : World) (b : Int) (hb : (Lit.int .i64 b).wf = true) (s : Int) (hs : (Lit.int .i64 s).wf = true) (v1 : Value) (l1 : List Int) (h1 : CameI w v1 l1) (v2 : Value) (l2 : List Int) (h2 : CameI w v2 l2) :
    Calls Try.prog 3 #[.int .i64 b, .int .i64 s, v1, v2] w fun e w' => e = .returned (.bool true) ∧ Below w.heap.size w w' := by
  by_cases hno : 40 < b ∨ 20 < l1.length ∨ 80 < l2.length
  · exact part_skip w b s (in64_of hb) (in64_of hs) v1 l1 h1 v2 l2 h2 hno
  · by_cases hsh : shp b s l1
    · exact part_main w b s (in64_of hb) (in64_of hs) v1 l1 (h1.1 (by omega)) v2 l2 (h2.1 (by omega)) (by omega) (by omega) (by omega) hsh
    · exact part_bad w b s (in64_of hb) (in64_of hs) v1 l1 (h1.1 (by omega)) v2 l2 (h2.1 (by omega)) (by omega) (by omega) (by omega) hsh
end Go.Proofs.Ytjnedcncfdpjoaa.D13
