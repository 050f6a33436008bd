/- Parts: XWc XWpl XWj XWra XJd -/
import Derived.Outline
import Derived.Deep.Cut
import Derived.Deep.CutBlock
import Derived.Deep.DeepCutAuto
import Derived.Test.YtflmjdjkfognjaaGreatTe40
import Derived.Test.YtflmjdjkfognjaaGreatTe15
import Derived.Test.YtflmjdjkfognjaaGreatTe29
import Derived.Test.YtflmjdjkfognjaaGreatTe18
import Derived.Test.YtflmjdjkfognjaaGreatTe19
import Derived.Test.YtflmjdjkfognjaaGreatTe33
import Derived.Test.YtflmjdjkfognjaaGreatTe39
import Derived.Lib.LazyBuf
namespace Go.Proofs.YtflmjdjkfognjaaGreat.W8
open Go.RowKit Go.Shelf
set_option linter.unusedVariables false
theorem nw_ex : ∃ n : Nat, n = 138 := ⟨_, rfl⟩
noncomputable def nw : Nat := nw_ex.choose
theorem nw_eq : nw = 138 := nw_ex.choose_spec
noncomputable def pass8 (f : Int) (raw : List UInt8) (S : List Int) : List UInt8 × List Int × Bool := passN f raw S nw
theorem pass8_eq (f : Int) (raw : List UInt8) (S : List Int) : passN f raw S 138 = pass8 f raw S := by unfold pass8; rw [nw_eq]
theorem pass8_length (f : Int) (raw : List UInt8) (S : List Int) : (pass8 f raw S).1.length = raw.length := passN_length f raw S nw
theorem rel_le (S ws : List Int) : (rel S ws).length ≤ S.length := by
  unfold rel
  generalize ws.length = n
  induction n with
  | zero => exact Nat.le_refl _
  | succ n ih => exact Nat.le_trans (List.length_filter_le _ _) ih
theorem passN_le (f : Int) (raw : List UInt8) (S : List Int) : ∀ k, (passN f raw S k).2.1.length ≤ S.length
  | 0 => Nat.le_refl _
  | k + 1 => by
    have ih := passN_le f raw S k
    rw [passN]
    unfold passS
    dsimp only
    split
    · exact Nat.le_trans (rel_le _ _) ih
    · exact ih
theorem pass8_le (f : Int) (raw : List UInt8) (S : List Int) : (pass8 f raw S).2.1.length ≤ S.length := passN_le f raw S nw
def again {α : Type} (g : α → α) : Nat → α → α
  | 0, x => x
  | i + 1, x => g (again g i x)
noncomputable def step8 (f : Int) (st : List UInt8 × List Int) : List UInt8 × List Int := ((pass8 f st.1 st.2).1, (pass8 f st.1 st.2).2.1)
noncomputable def itS (f : Int) (raw : List UInt8) (S : List Int) (i : Nat) : List UInt8 × List Int := again (step8 f) i (raw, S)
theorem itS_succ (f : Int) (raw : List UInt8) (S : List Int) (i : Nat) : itS f raw S (i + 1) = ((pass8 f (itS f raw S i).1 (itS f raw S i).2).1, (pass8 f (itS f raw S i).1 (itS f raw S i).2).2.1) := rfl
theorem itS_length (f : Int) (raw : List UInt8) (S : List Int) : ∀ i, (itS f raw S i).1.length = raw.length
  | 0 => rfl
  | i + 1 => by rw [itS_succ]; exact (pass8_length f _ _).trans (itS_length f raw S i)
def mlen (w : World) (b : Nat) : Nat := match w.heap[b]? with
  | some (.map es _) => es.size
  | _ => 0
theorem MS.mlen {w : World} {b n : Nat} {S : List Int} (h : MS w b n S) : mlen w b = S.length := by
  obtain ⟨D, ⟨es, clock, hb, F, hs, rfl⟩, _, _, hlen, _⟩ := h
  unfold W8.mlen
  rw [hb]
  dsimp only
  rw [← hlen]
  simp [Maps.size, DataW.length_sorted]
def DecQ (e0 g cap mb n0 B0 : Nat) (f : Int) (raw : List UInt8) (S : List Int) (w : World) (W : World) : Prop :=
  ∃ i, Row W e0 g cap (itS f raw S (i + 1)).1 ∧ MS W mb n0 (itS f raw S (i + 1)).2 ∧ ¬ ((itS f raw S (i + 1)).2.length < (itS f raw S i).2.length) ∧ Below B0 w W
noncomputable def decR (f : Int) (raw : List UInt8) (S : List Int) (i : Nat) : List UInt8 × Int × Int :=
  if (itS f raw S (i + 1)).2 = [] ∧ soundB (itS f raw S (i + 1)).1 f = true then ((itS f raw S (i + 1)).1, (G.allN (itS f raw S (i + 1)).1 raw 2352 : Int), 0) else ([], 0, 11)
def Dec8 (raw : List UInt8) (m : Int) (l : List Int) (w : World) (e : Ending) (w' : World) : Prop :=
  (∃ r : List UInt8 × Int × Int, e = .returned (.tuple #[.string (str r.1), .int .i64 r.2.1, .int .i64 r.2.2]) ∧
    ((¬ (fitB raw m = true ∧ ersB (fstI m) l = true) ∧ r = ([], 0, 1)) ∨ ((fitB raw m = true ∧ ersB (fstI m) l = true) ∧ ∃ i, ¬ ((itS (fstI m) raw l (i + 1)).2.length < (itS (fstI m) raw l i).2.length) ∧ r = decR (fstI m) raw l i))) ∧ Below w.heap.size w w'
set_option maxRecDepth 100000 in
set_option maxHeartbeats 8000000 in
theorem decode8_ok (raw : List UInt8) (m : Int) (ev : Value) (l : List Int) (w : World) (hf : fitB raw m = true) (hv : RdI w ev l) (hl : l.length ≤ 100000) :
    Calls Tryz.prog 132 #[.string (str raw), .int .i64 m, ev] w (Dec8 raw m l w) := by
  obtain ⟨hm1, hlen⟩ := fit_fst hf
  have HF := Lib.hid (fun W => first_any m W)
  rw [hm1] at HF
  have hs : (str raw).size = 2352 := by rw [str_size, hlen]
  have hd : ((2352 : Int) != 2352) = false := by decide
  have HL := Lib.hid hlen
  have HFit := Lib.hid hf
  have HSet := Lib.hid (fun W (hb : Below w.heap.size w W) => set_any (fstI m) ev l W (hv.keep hb) hl)
  obtain ⟨hw0, ⟨ea, ec, _, _, rfl, _⟩, _⟩ := hv
  unfold Dec8
  generalize fstI m = f at *
  clear hm1 hlen hf
  go_enter Tryz.func132, Tryz.ntmps132
  go_wp2_with (refine (HF.out _).mono ?_; rintro e w' ⟨rfl, rfl⟩)
  refine (HSet.out _ (Below.refl _ _)).mono ?_
  rintro e w1 (⟨he, rfl, hb1⟩ | ⟨he, rfl, hm, hb1⟩)
  · have HE := Lib.hid he
    clear he
    go_wp2_with fail
    refine bodyPost_ret (results_tmp3 rfl _ _ _) rfl ?_
    exact ⟨⟨([], 0, 1), rfl, .inl ⟨fun h => (by rw [HE.out] at h; cases h.2), rfl⟩⟩, hb1⟩
  · have HE := Lib.hid he
    obtain ⟨mb, hmb⟩ : ∃ mb, mb = w.heap.size := ⟨_, rfl⟩
    rw [← hmb] at hm
    rw [← hmb]
    have HMB := Lib.hid hmb
    clear he hmb
    have hHM := Lib.hid hm
    clear hm
    go_upto_block 0 with (refine wpList_bytes rfl _ rfl Tryz.underlying9 Tryz.underlying123 Tryz.underlying5 rfl ?_; intro w2 cap hr2 hb2 hcap)
    have hm2 := hHM.out.below hb2
    have hr3 : Row w2 5 w1.heap.size cap raw := hr2
    have hB2 := hb1.trans (hb2.mono hb1.size)
    have hgle := hb1.size
    have hmle : w.heap.size ≤ mb := by rw [HMB.out]; exact Nat.le_refl _
    obtain ⟨g, hg⟩ : ∃ g, g = w1.heap.size := ⟨_, rfl⟩
    rw [← hg] at hr3 hgle ⊢
    have HG := Lib.hid hg
    clear hr2 hb2 hb1 hHM hg
    go_cut [] (fun wx => DecQ 5 g cap mb l.length w.heap.size f raw l w wx)
    case first =>
      go_wp2_with fail
      go_loopw [13] (fun vk wr => ∃ i idle : Nat, idle ≤ 16 ∧ vk = .int .i64 idle ∧ Hid (0 < idle → ∃ j, i = j + 1 ∧ ¬ ((itS f raw l (j + 1)).2.length < (itS f raw l j).2.length)) ∧ Row wr 5 g cap (itS f raw l i).1 ∧ MS wr mb l.length (itS f raw l i).2 ∧ Below w.heap.size w wr) (fun vk wr => mlen wr mb * 17 + (16 - (intOf vk).toNat))
      case atStart => exact ⟨0, 0, by omega, rfl, Lib.hid (fun h => by omega), hr3, hm2, hB2⟩
      case round =>
        clear hr3 hm2 hB2
        obtain ⟨i, idle, hid, rfl, HI, hr, hm, hb⟩ := hrel
        by_cases hlt : idle < 16
        · have hlt' : (idle : Int) < 16 := by omega
          have hil := itS_length f raw l i
          rw [HL.out] at hil
          have HP := Lib.hid (pass_any g cap mb l.length w.heap.size (itS f raw l i).1 (itS f raw l i).2 f wr hr hil hm hgle hmle hb.size)
          have hml := hm.mlen
          have hst1 : (itS f raw l (i + 1)).1 = (pass8 f (itS f raw l i).1 (itS f raw l i).2).1 := by rw [itS_succ]
          have hst2 : (itS f raw l (i + 1)).2 = (pass8 f (itS f raw l i).1 (itS f raw l i).2).2.1 := by rw [itS_succ]
          have hle8 := pass8_le f (itS f raw l i).1 (itS f raw l i).2
          unfold PassP at HP
          rw [pass8_eq] at HP
          generalize pass8 f (itS f raw l i).1 (itS f raw l i).2 = st at *
          obtain ⟨R1, S1, C1⟩ := st
          dsimp only at hst1 hst2 HP hle8
          have HLE8 := Lib.hid hle8
          clear hle8
          have HI1 := Lib.hid hst1; have HI2 := Lib.hid hst2; have HMLE := Lib.hid hml
          have HLE : Hid (decide (S1.length < (itS f raw l i).2.length) = false → ¬ ((itS f raw l (i + 1)).2.length < (itS f raw l i).2.length)) := Lib.hid fun h => by rw [hst2]; simpa using h
          have HLT : Hid (decide (S1.length < (itS f raw l i).2.length) = true → S1.length < (itS f raw l i).2.length) := Lib.hid fun h => by simpa using h
          generalize decide (S1.length < (itS f raw l i).2.length) = fw at *
          clear hst1 hst2 hr hm hil hml
          cases C1 with
          | false =>
            cases fw with
            | false =>
              have HNo := Lib.hid (HLE.out rfl)
              clear HLE HLT
              go_wp2_with (refine HP.out.mono ?_; rintro e w3 ⟨rfl, hr3, hm3, hb3⟩)
              go_meet
              exact ⟨i, by rw [HI1.out]; exact hr3, by rw [HI2.out]; exact hm3, HNo.out, hb.trans hb3⟩
            | true =>
              have HLt := Lib.hid (HLT.out rfl)
              clear HLE HLT
              go_wp2_with (refine HP.out.mono ?_; rintro e w3 ⟨rfl, hr3, hm3, hb3⟩)
              have hml3 := hm3.mlen
              have HM3 := Lib.hid hml3
              clear hml3
              go_roundw
              case rel => exact ⟨i + 1, 0, by omega, rfl, Lib.hid (fun h => by omega), by rw [HI1.out]; exact hr3, by rw [HI2.out]; exact hm3, hb.trans hb3⟩
              case measure =>
                have h1 := HM3.out; have h2 := HMLE.out; have h3 := HLt.out
                rw [h1, h2]
                simp [intOf]
                omega
          | true =>
            cases fw with
            | false =>
              have HNo := Lib.hid (HLE.out rfl)
              clear HLE HLT
              go_wp2_with (refine HP.out.mono ?_; rintro e w3 ⟨rfl, hr3, hm3, hb3⟩)
              have hml3 := hm3.mlen
              have HM3 := Lib.hid hml3
              clear hml3
              go_roundw
              case rel => exact ⟨i + 1, idle + 1, by omega, by go_num, Lib.hid (fun h => ⟨i, rfl, HNo.out⟩), by rw [HI1.out]; exact hr3, by rw [HI2.out]; exact hm3, hb.trans hb3⟩
              case measure =>
                have h1 := HM3.out; have h2 := HMLE.out; have h3 := HLE8.out
                rw [h1, h2]
                simp [intOf]
                omega
            | true =>
              have HLt := Lib.hid (HLT.out rfl)
              clear HLE HLT
              go_wp2_with (refine HP.out.mono ?_; rintro e w3 ⟨rfl, hr3, hm3, hb3⟩)
              have hml3 := hm3.mlen
              have HM3 := Lib.hid hml3
              clear hml3
              go_roundw
              case rel => exact ⟨i + 1, 0, by omega, rfl, Lib.hid (fun h => by omega), by rw [HI1.out]; exact hr3, by rw [HI2.out]; exact hm3, hb.trans hb3⟩
              case measure =>
                have h1 := HM3.out; have h2 := HMLE.out; have h3 := HLt.out
                rw [h1, h2]
                simp [intOf]
                omega
        · obtain rfl : idle = 16 := by omega
          go_wp2_with fail
          go_meet
          obtain ⟨j, rfl, hj⟩ := HI.out (by omega)
          exact ⟨j, hr, hm, hj, hb⟩
    case rest =>
      obtain ⟨i, hr, hm, hno, hb⟩ := hcut
      have hil := itS_length f raw l (i + 1)
      rw [HL.out] at hil
      have hR : decR f raw l i = if (itS f raw l (i + 1)).2 = [] ∧ soundB (itS f raw l (i + 1)).1 f = true then ((itS f raw l (i + 1)).1, (G.allN (itS f raw l (i + 1)).1 raw 2352 : Int), 0) else ([], 0, 11) := rfl
      have hfin : ∀ r, decR f raw l i = r → (¬ (fitB raw m = true ∧ ersB f l = true) ∧ r = ([], 0, 1)) ∨ ((fitB raw m = true ∧ ersB f l = true) ∧ ∃ i, ¬ ((itS f raw l (i + 1)).2.length < (itS f raw l i).2.length) ∧ r = decR f raw l i) := fun r h => .inr ⟨⟨HFit.out, HE.out⟩, i, hno, h.symm⟩
      have HFin := Lib.hid hfin
      clear hfin hno
      generalize itS f raw l (i + 1) = st at *
      obtain ⟨R, T⟩ := st
      dsimp only at hr hm hil hR
      have hlen := hm.len 3
      have hTd := hm.nodup
      have HR := Lib.hid hR
      have HIL := Lib.hid hil
      clear hR hTd hm2 hB2 hr3 hm
      by_cases hT : T = []
      · subst hT
        have hrd := hr.rd (by omega)
        rw [hil] at hrd
        have hlen0 : ((([] : List Int).length : Nat) : Int) = 0 := rfl
        rw [hlen0] at hlen
        have HS := Lib.hid (sound_any _ R f wc hrd hil)
        have HSB : Hid (∀ b, soundB R f = b → decR f raw l i = if b = true then (R, (G.allN R raw 2352 : Int), 0) else ([], 0, 11)) := Lib.hid fun b hb => by
          rw [HR.out, hb]
          cases b
          · rw [if_neg (fun h => by cases h.2)]; rfl
          · rw [if_pos ⟨rfl, rfl⟩]; rfl
        have hSB := HSB.out _ rfl
        generalize soundB R f = sb at *
        have HSB2 := Lib.hid hSB
        clear hSB HSB hrd hil
        cases sb with
        | false =>
          have HX : Hid (decR f raw l i = ([], 0, 11)) := Lib.hid (by rw [HSB2.out]; rfl)
          clear HSB2
          go_wp2_with (refine HS.out.mono ?_; rintro e w3 ⟨rfl, hb3⟩)
          refine bodyPost_ret (results_tmp3 rfl _ _ _) rfl ?_
          exact ⟨⟨([], 0, 11), rfl, HFin.out _ HX.out⟩, hb.trans (hb3.mono hb.size)⟩
        | true =>
          have HX : Hid (decR f raw l i = (R, (G.allN R raw 2352 : Int), 0)) := Lib.hid (by rw [HSB2.out]; rfl)
          clear HSB2
          go_wp2_with (refine HS.out.mono ?_; rintro e w3 ⟨rfl, hb3⟩; have hr3 := hr.below hb3; have hB3 := hb.trans (hb3.mono hb.size))
          clear hr hb hb3
          go_loopw [16, 69] (fun vc vk wr => ∃ k : Nat, k ≤ 2352 ∧ vk = .int .i64 k ∧ vc = .int .i64 (G.allN R raw k) ∧ Row wr 5 g cap R ∧ Below w.heap.size w wr) (fun _ vk _ => 2352 - (intOf vk).toNat)
          case atStart => exact ⟨0, by omega, rfl, rfl, hr3, hB3⟩
          case round =>
            clear hr3 hB3
            obtain ⟨k, hk, rfl, rfl, hr, hb⟩ := hrel
            by_cases hlt : k < 2352
            · have hlt' : (k : Int) < 2352 := by omega
              have hle := G.allN_le R raw k
              have HA : Hid (G.allN R raw (k + 1) = G.allN R raw k + if G.ix R k = G.ix raw k then 0 else 1) := Lib.hid rfl
              have hc := hr.cell k (by rw [HIL.out]; exact hlt)
              have hi1 := fun wx => run_sidx (P := Tryz.prog) Tryz.underlying9 raw k (by rw [HL.out]; exact hlt) _ rfl wx
              have hbn : (((G.ix R k).toNat : Int) != ((G.ix raw k).toNat : Int)) = !decide (G.ix R k = G.ix raw k) := by rw [byte_bne]; simp
              have hix : ∀ wx, (Instr.indexAt 123 (.slice (some ⟨g, 0, none⟩) 2352 cap) (.int .i64 (k : Int))).run Tryz.prog wx = .ok (.pointer (some ⟨g, k, none⟩)) wx := fun wx => by
                have := run_idx (P := Tryz.prog) (a := some ⟨g, 0, none⟩) (off := 0) (b := g) (n := 2352) (cap := cap) (k := k) Tryz.underlying123 Tryz.sizeU8 rfl hlt _ rfl wx
                rwa [Nat.zero_add] at this
              generalize G.allN R raw k = c at *
              by_cases hq : G.ix R k = G.ix raw k
              · have hb2 : (((G.ix R k).toNat : Int) != ((G.ix raw k).toNat : Int)) = false := by rw [hbn, hq]; simp
                rw [if_pos hq] at HA
                clear hbn hq
                go_wp2_with fail
                go_quiet (fail)
                have hr3 : Row (wr.drewN nq) 5 g cap R := hr
                have hB3 := Below.drewN hb nq
                generalize wr.drewN nq = w4 at hr3 hB3 ⊢
                clear hr hb hc
                go_wp2_with fail
                go_roundw
                case rel => exact ⟨k + 1, by omega, by go_num, by rw [HA.out]; rfl, hr3, hB3⟩
                case measure => simp [intOf]; omega
              · have hb2 : (((G.ix R k).toNat : Int) != ((G.ix raw k).toNat : Int)) = true := by rw [hbn]; simpa using hq
                rw [if_neg hq] at HA
                have HQ := Lib.hid hq
                clear hbn hq
                go_wp2_with fail
                go_quiet (fail)
                have hr3 : Row (wr.drewN nq) 5 g cap R := hr
                have hB3 := Below.drewN hb nq
                generalize wr.drewN nq = w4 at hr3 hB3 ⊢
                clear hr hb hc
                go_wp2_with fail
                go_roundw
                case rel => exact ⟨k + 1, by omega, by go_num, by rw [HA.out]; go_num, hr3, hB3⟩
                case measure => simp [intOf]; omega
            · obtain rfl : k = 2352 := by omega
              have hrd := hr.rd (by have := HIL.out; omega)
              rw [HIL.out] at hrd
              have hcx := run_str (P := Tryz.prog) Tryz.underlying123 Tryz.underlying5 Tryz.underlying9 hrd
              clear hrd hr
              go_wp2_with fail
              refine bodyPost_ret (results_tmp3 rfl _ _ _) rfl ?_
              exact ⟨⟨(R, (G.allN R raw 2352 : Int), 0), rfl, HFin.out _ HX.out⟩, hb⟩
      · have h0 : decide (0 < (T.length : Int)) = true := by
          have := List.length_pos_iff.2 hT
          simp; omega
        have h0' : decide (0 < T.length) = true := by simpa using List.length_pos_iff.2 hT
        have HX : Hid (decR f raw l i = ([], 0, 11)) := Lib.hid (by rw [HR.out, if_neg (fun h => hT h.1)])
        clear hT hil hr
        go_wp2_with fail
        refine bodyPost_ret (results_tmp3 rfl _ _ _) rfl ?_
        exact ⟨⟨([], 0, 11), rfl, HFin.out _ HX.out⟩, hb⟩
end Go.Proofs.YtflmjdjkfognjaaGreat.W8
namespace Go.Proofs.YtflmjdjkfognjaaGreat.W8
open Go.RowKit Go.Shelf
set_option linter.unusedVariables false
def agS (S : List Int) (k : Nat) : Bool := decide (1 ≤ (posS (wd k) S).length) && decide ((posS (wd k) S).length ≤ 2)
def agN (S : List Int) : Nat → Bool
  | 0 => false
  | k + 1 => agN S k || agS (pkN S k) k
def FixP (S : List Int) : Prop := ∀ k, k < 138 → agS S k = false
theorem del_none {S : List Int} {x : Int} (h : x ∉ S) : del S x = S := by
  unfold del
  rw [List.filter_eq_self]
  intro y hy
  simp only [bne_iff_ne, ne_eq]
  exact fun e => h (e ▸ hy)
theorem rel_none {ws S : List Int} (h : (posS ws S).length = 0) : rel S ws = S := by
  have h0 : ∀ i, i < ws.length → ixI ws i ∉ S := fun i hi hm => by
    have := (mem_posS hi).2 hm
    rw [List.length_eq_zero_iff.1 h] at this
    cases this
  unfold rel
  have : ∀ n, n ≤ ws.length → relN S ws n = S := fun n => by
    induction n with
    | zero => intro _; rfl
    | succ n ih => intro hn; rw [relN, ih (by omega)]; exact del_none (h0 n (by omega))
  exact this _ (Nat.le_refl _)
theorem pkS_eq (S : List Int) (k : Nat) : pkS S k = if agS S k = true then rel S (wd k) else S := by
  unfold pkS agS
  simp only [Bool.and_eq_true, decide_eq_true_eq]
  by_cases h2 : (posS (wd k) S).length ≤ 2
  · rw [if_pos h2]
    by_cases h1 : 1 ≤ (posS (wd k) S).length
    · rw [if_pos ⟨h1, h2⟩]
    · rw [if_neg (fun h => h1 h.1)]
      exact rel_none (by omega)
  · rw [if_neg h2, if_neg (fun h => h2 h.2)]
theorem relN_subl (S ws : List Int) : ∀ n, (relN S ws n).Sublist S
  | 0 => List.Sublist.refl _
  | n + 1 => by rw [relN]; exact (List.filter_sublist).trans (relN_subl S ws n)
theorem pkS_subl (S : List Int) (k : Nat) : (pkS S k).Sublist S := by
  unfold pkS
  split
  · exact relN_subl _ _ _
  · exact List.Sublist.refl _
theorem pkN_subl (S : List Int) : ∀ k, (pkN S k).Sublist S
  | 0 => List.Sublist.refl _
  | k + 1 => (pkS_subl _ k).trans (pkN_subl S k)
theorem posN8_some {ws S : List Int} (h : 1 ≤ (posS ws S).length) : ∃ i, i < ws.length ∧ ixI ws i ∈ S := by
  rcases hq : posS ws S with _ | ⟨x, r⟩
  · rw [hq] at h; simp at h
  · have hx : x ∈ posS ws S := by rw [hq]; exact List.mem_cons_self ..
    have hb := posN8_bd ws S ws.length x hx
    obtain ⟨i, rfl⟩ : ∃ i : Nat, x = i := ⟨x.toNat, by omega⟩
    have hi : i < ws.length := by omega
    exact ⟨i, hi, (mem_posS hi).1 hx⟩
theorem pkS_lt {S : List Int} {k : Nat} (h : agS S k = true) : (pkS S k).length < S.length := by
  have hs := pkS_subl S k
  rcases Nat.lt_or_ge (pkS S k).length S.length with hl | hl
  · exact hl
  · have e := hs.eq_of_length_le hl
    have h2 := h
    unfold agS at h2
    simp only [Bool.and_eq_true, decide_eq_true_eq] at h2
    obtain ⟨i, hi, hm⟩ := posN8_some h2.1
    rw [pkS_eq, if_pos h] at e
    rw [← e, rel_mem] at hm
    exact absurd (ixI_mem hi) hm.2
theorem agN_lt {S : List Int} : ∀ k, agN S k = true → (pkN S k).length < S.length
  | 0, h => by cases h
  | k + 1, h => by
    rw [agN, Bool.or_eq_true] at h
    rcases h with h | h
    · exact Nat.lt_of_le_of_lt (pkS_subl _ k).length_le (agN_lt k h)
    · exact Nat.lt_of_lt_of_le (pkS_lt h) (pkN_subl S k).length_le
theorem agN_no {S : List Int} : ∀ k, agN S k = false → pkN S k = S ∧ ∀ j, j < k → agS S j = false
  | 0, _ => ⟨rfl, fun j hj => by omega⟩
  | k + 1, h => by
    rw [agN, Bool.or_eq_false_iff] at h
    obtain ⟨h1, h2⟩ := agN_no k h.1
    rw [h1] at h
    refine ⟨by rw [pkN, h1, pkS_eq, h.2, if_neg (by decide)], fun j hj => ?_⟩
    by_cases e : j = k
    · subst e; exact h.2
    · exact h2 j (by omega)
noncomputable def itP (S : List Int) (i : Nat) : List Int := again (fun T => pkN T nw) i S
theorem itP_succ (S : List Int) (i : Nat) : itP S (i + 1) = pkN (itP S i) 138 := by
  show W8.pkN (itP S i) nw = _
  rw [nw_eq]
theorem itP_subl (S : List Int) : ∀ i, (itP S i).Sublist S
  | 0 => List.Sublist.refl _
  | i + 1 => by rw [itP_succ]; exact (pkN_subl _ _).trans (itP_subl S i)
theorem fix_of_no {S : List Int} (h : agN S 138 = false) : FixP S := fun k hk => (agN_no 138 h).2 k hk
end Go.Proofs.YtflmjdjkfognjaaGreat.W8
namespace Go.Proofs.YtflmjdjkfognjaaGreat.W8
open Go.RowKit Go.Shelf
set_option linter.unusedVariables false
set_option maxRecDepth 100000 in
set_option maxHeartbeats 1000000 in
theorem decode8_bad (raw : List UInt8) (m : Int) (ea : Option Addr) (el ec : Nat) (w : World) (hf : fitB raw m = false) (hl : raw.length ≤ 9223372036854775807) :
    Calls Tryz.prog 132 #[.string (str raw), .int .i64 m, .slice ea el ec] w fun e w' => e = .returned (.tuple #[.string (str []), .int .i64 0, .int .i64 1]) ∧ w = w' := by
  have hs := str_size raw
  have HF := Lib.hid (fun W => first_any m W)
  cases hb : fstB m with
  | false =>
    rw [hb] at HF
    clear hb hf
    go_enter Tryz.func132, Tryz.ntmps132
    go_wp2_with (refine (HF.out _).mono ?_; rintro e w' ⟨rfl, rfl⟩)
    refine bodyPost_ret (results_tmp3 rfl _ _ _) rfl ?_
    exact ⟨rfl, rfl⟩
  | true =>
    rw [hb] at HF
    have hn : raw.length ≠ 2352 := by
      intro h
      unfold fitB at hf
      rw [hb, h] at hf
      simp at hf
    have hd : ((raw.length : Int) != 2352) = true := by simp; omega
    have HN := Lib.hid hn
    clear hb hf hn
    go_enter Tryz.func132, Tryz.ntmps132
    go_wp2_with (refine (HF.out _).mono ?_; rintro e w' ⟨rfl, rfl⟩)
    refine bodyPost_ret (results_tmp3 rfl _ _ _) rfl ?_
    exact ⟨rfl, rfl⟩
theorem decode8_any (raw : List UInt8) (m : Int) (ev : Value) (l : List Int) (w : World) (hv : RdI w ev l) (hl : l.length ≤ 100000) (hr : raw.length ≤ 9223372036854775807) :
    Calls Tryz.prog 132 #[.string (str raw), .int .i64 m, ev] w (Dec8 raw m l w) := by
  cases hf : fitB raw m with
  | true => exact decode8_ok raw m ev l w hf hv hl
  | false =>
    obtain ⟨_, ⟨a, c, _, _, rfl, _⟩, _⟩ := hv
    refine (decode8_bad raw m a _ c w hf hr).mono ?_
    rintro e w' ⟨rfl, rfl⟩
    exact ⟨⟨([], 0, 1), rfl, .inl ⟨(fun h => by rw [hf] at h; cases h.1), rfl⟩⟩, Below.refl _ _⟩
theorem good_sound {c : List UInt8} {f : Int} (hc : Good c f) : soundB c f = true := soundN_of' 138 (Nat.le_refl _) hc.word
where soundN_of' : ∀ k, k ≤ 138 → (∀ j, j < 138 → G.validB (takeL c (wd j) f) 2 = true) → soundN c f k = true
  | 0, _, _ => rfl
  | k + 1, hk, h => by rw [soundN, soundN_of' k (by omega) h, h k (by omega)]; rfl
theorem enc_good {raw : List UInt8} {f : Int} (hl : raw.length = 2352) (hf : f ≤ 16) : Good (encN raw f 138) f := ⟨by rw [encN_length]; exact hl, enc_words hl hf 138 (Nat.le_refl _)⟩
theorem decR_good {c R : List UInt8} {S : List Int} {f : Int} (hc : Good c f) (i : Nat) (h : itS f R S (i + 1) = (c, [])) : decR f R S i = (c, (G.allN c R 2352 : Int), 0) := by
  unfold decR
  rw [h, if_pos ⟨rfl, good_sound hc⟩]
end Go.Proofs.YtflmjdjkfognjaaGreat.W8
namespace Go.Proofs.YtflmjdjkfognjaaGreat.W8
open Go.RowKit Go.Shelf
set_option linter.unusedVariables false
theorem ers_mem {f : Int} {l : List Int} (h : ersB f l = true) : ∀ x ∈ l, f ≤ x ∧ x < 2352 := fun x hx => by
  obtain ⟨i, hi, rfl⟩ := List.getElem_of_mem hx
  rw [← ixI_get hi]
  have := ersN_at hi h
  exact ⟨this.1, this.2.1⟩
theorem it_inv {c R : List UInt8} {f : Int} {l : List Int} (hc : Good c f) (h : Inv c R l) (hl : ∀ x ∈ l, f ≤ x) : ∀ j, Inv c (itS f R l j).1 (itS f R l j).2 ∧ (itS f R l j).2 = itP l j
  | 0 => ⟨h, rfl⟩
  | j + 1 => by
    obtain ⟨h1, h2⟩ := it_inv hc h hl j
    have h3 := Inv.pass hc h1 (fun x hx => by rw [h2] at hx; exact hl x ((itP_subl l j).subset hx)) nw (by rw [nw_eq]; exact Nat.le_refl _)
    rw [itS_succ, itP_succ]
    refine ⟨h3.1, ?_⟩
    have h4 : (pass8 f (itS f R l j).1 (itS f R l j).2).2.1 = pkN (itS f R l j).2 nw := h3.2
    show (pass8 f (itS f R l j).1 (itS f R l j).2).2.1 = _
    rw [h4, h2, nw_eq]
theorem itP_mono (l : List Int) (i : Nat) : ∀ k, (itP l (i + k)).Sublist (itP l i)
  | 0 => List.Sublist.refl _
  | k + 1 => by rw [← Nat.add_assoc, itP_succ]; exact (pkN_subl _ _).trans (itP_mono l i k)
theorem itP_stop {l : List Int} {j : Nat} (h : ¬ (itP l (j + 1)).length < (itP l j).length) : ∀ k, itP l (j + k) = itP l j
  | 0 => rfl
  | k + 1 => by
    have e : itP l (j + 1) = itP l j := by
      have hs : (itP l (j + 1)).Sublist (itP l j) := itP_mono l j 1
      exact hs.eq_of_length_le (by omega)
    have ih := itP_stop h k
    rw [← Nat.add_assoc, itP_succ, ih, ← itP_succ, e]
theorem itP_none {l : List Int} {i j : Nat} (h0 : itP l i = []) (h : ¬ (itP l (j + 1)).length < (itP l j).length) : itP l j = [] := by
  by_cases hij : i ≤ j
  · obtain ⟨k, rfl⟩ : ∃ k, j = i + k := ⟨j - i, by omega⟩
    have := (itP_mono l i k).length_le
    rw [h0] at this
    exact List.length_eq_zero_iff.1 (by simpa using this)
  · obtain ⟨k, rfl⟩ : ∃ k, i = j + k := ⟨i - j, by omega⟩
    rw [← h0, itP_stop h k]
theorem keep_none {l : List Int} {i : Nat} (h : keepL (itP l i) l = []) : itP l i = [] := by
  rcases hq : itP l i with _ | ⟨x, r⟩
  · rfl
  · have hx : x ∈ itP l i := by rw [hq]; exact List.mem_cons_self ..
    have : x ∈ keepL (itP l i) l := List.mem_filter.2 ⟨(itP_subl l i).subset hx, by simpa using hx⟩
    rw [h] at this
    cases this
theorem dec_eras {c R : List UInt8} {m : Int} {l : List Int} {i : Nat} {w w' : World} {e : Ending} (hm : fstB m = true) (hc : Good c (fstI m)) (hI : Inv c R l) (hE : ersB (fstI m) l = true) (h0 : keepL (itP l i) l = [])
    (h : Dec8 R m l w e w') : e = .returned (.tuple #[.string (str c), .int .i64 (G.allN c R 2352 : Int), .int .i64 0]) ∧ Below w.heap.size w w' := by
  obtain ⟨⟨r, rfl, hr⟩, hb⟩ := h
  have hfit : fitB R m = true := by
    unfold fitB
    rw [hm, hI.len]
    rfl
  rcases hr with ⟨hno, _⟩ | ⟨_, j, hj, rfl⟩
  · exact absurd ⟨hfit, hE⟩ hno
  · have hit := it_inv hc hI (fun x hx => (ers_mem hE x hx).1)
    rw [(hit (j + 1)).2, (hit j).2] at hj
    have e0 := itP_none (keep_none h0) hj
    have e1 : itP l (j + 1) = [] := by rw [itP_stop hj 1]; exact e0
    have e2 : itS (fstI m) R l (j + 1) = (c, []) := by
      have h5 := hit (j + 1)
      rw [e1] at h5
      refine Prod.ext ?_ h5.2
      have h6 := h5.1
      rw [h5.2] at h6
      exact h6.done hc
    rw [decR_good hc j e2]
    exact ⟨rfl, hb⟩
end Go.Proofs.YtflmjdjkfognjaaGreat.W8
namespace Go.Proofs.YtflmjdjkfognjaaGreat.T7
open Go Go.RowKit C9 D12
set_option linter.unusedVariables false
def spl (l : List UInt8) (o : Nat) : List UInt8 → List UInt8
  | [] => l
  | c :: r => spl (l.set o c) (o + 1) r
theorem spl_len : ∀ (m : List UInt8) (l : List UInt8) (o : Nat), (spl l o m).length = l.length
  | [], l, o => rfl
  | c :: r, l, o => by rw [spl, spl_len r, List.length_set]
theorem ix_set7 (l : List UInt8) (o i : Nat) (c : UInt8) (h : o < l.length) : G.ix (l.set o c) i = if i = o then c else G.ix l i := by
  unfold G.ix
  rw [List.getD_eq_getElem?_getD, List.getD_eq_getElem?_getD, List.getElem?_set]
  by_cases e : i = o
  · subst e; rw [if_pos rfl, if_pos rfl, if_pos h]; rfl
  · rw [if_neg e, if_neg (Ne.symm e)]
theorem spl_ix : ∀ (m : List UInt8) (l : List UInt8) (o i : Nat), o + m.length ≤ l.length → G.ix (spl l o m) i = if o ≤ i ∧ i < o + m.length then G.ix m (i - o) else G.ix l i
  | [], l, o, i, _ => by rw [spl, if_neg (by simp)]
  | c :: r, l, o, i, h => by
    simp only [List.length_cons] at h ⊢
    rw [spl, spl_ix r _ _ _ (by rw [List.length_set]; omega), ix_set7 _ _ _ _ (by omega)]
    by_cases e : i = o
    · subst e
      rw [if_neg (show ¬ (i + 1 ≤ i ∧ i < i + 1 + r.length) by omega), if_pos rfl, if_pos (show i ≤ i ∧ i < i + (r.length + 1) by omega), Nat.sub_self]
      rfl
    · by_cases e2 : o + 1 ≤ i ∧ i < o + 1 + r.length
      · rw [if_pos e2, if_pos (by omega)]
        obtain ⟨k, hk⟩ : ∃ k, i - o = k + 1 := ⟨i - o - 1, by omega⟩
        have h2 : i - (o + 1) = k := by omega
        rw [h2, hk, G.ix, G.ix, List.getD_cons_succ]
      · rw [if_neg e2, if_neg e, if_neg (by omega)]
theorem Row.sets {e g cap : Nat} : ∀ (m : List UInt8) (l : List UInt8) (o : Nat) (w : World), Row w e g cap l → o + m.length ≤ l.length → Row (w.setCells g o (bs m)) e g cap (spl l o m)
  | [], l, o, w, h, _ => h
  | c :: r, l, o, w, h, hl => by
    simp only [List.length_cons] at hl
    exact Row.sets r _ (o + 1) _ (h.store o c (by omega)) (by rw [List.length_set]; omega)
theorem run_cpS {P : Program} {w : World} {t t' ty e : TypeId} (ht : P.underlying t = some (.slice e)) (hz : ∀ w, (Go.sizeOf e).run P w = .ok 1 w)
    {g cap n : Nat} {l m : List UInt8} (h : Row w e g cap l) (hn : n = l.length) (hm : m.length ≤ n) :
    ∃ w', (Builtin.copy_ #[t, t'] ty #[.slice (some ⟨g, 0, none⟩) n cap, .string (str m)]).run P w = .ok (.int .i64 m.length) w' ∧ Row w' e g cap (spl l 0 m) ∧ w.grownBy w' (some g) := by
  subst hn
  have hsz : (str m).size = m.length := str_size m
  have hl : (str m).data.toList = m := rfl
  have hr := run_copy_string (P := P) w t t' ty e g 0 l.length cap (str m) ht hz (by rw [hsz]; exact hm) (fun j hj => by rw [Nat.zero_add, h.cell j (by rw [hsz] at hj; omega)]; rfl) (fun j hj => by rw [Nat.zero_add]; exact h.frozen j (by rw [hsz] at hj; have := h.le; omega))
  rw [hl, hsz] at hr
  exact ⟨_, hr, Row.sets m l 0 w h (by omega), W8.grow_sets _ _ _ (World.grownBy.refl _ _)⟩
def zG (b : List UInt8) (L : List Int) : List UInt8 := L.foldl (fun b k => b.set k.toNat 0) b
theorem zG_snoc (b : List UInt8) (L : List Int) (x : Int) : zG b (L ++ [x]) = (zG b L).set x.toNat 0 := by simp [zG]
theorem zG_len (b : List UInt8) (L : List Int) : (zG b L).length = b.length := by
  unfold zG
  induction L generalizing b with
  | nil => rfl
  | cons x r ih => rw [List.foldl_cons, ih, List.length_set]
theorem zG_ix {L : List Int} {i : Nat} (hi : (i : Int) ∉ L) (hL : ∀ x ∈ L, 0 ≤ x) : ∀ b : List UInt8, G.ix (zG b L) i = G.ix b i := by
  unfold zG
  induction L with
  | nil => intro b; rfl
  | cons x r ih =>
    intro b
    rw [List.foldl_cons, ih (fun h => hi (.tail _ h)) (fun y hy => hL y (.tail _ hy))]
    by_cases hx : x.toNat < b.length
    · rw [ix_set7 _ _ _ _ hx, if_neg]
      intro e
      apply hi
      have := hL x (.head _)
      have e2 : (i : Int) = x := by omega
      rw [e2]; exact .head _
    · rw [List.set_eq_of_length_le (by omega)]
def inn (L : List Int) : List Int := keepF (fun x => decide (12 ≤ x)) L
def prepB (M : Med) (i : Nat) : List UInt8 := spl (zG (scrL (M.out i)) (M.gone i)) 0 syL
theorem prepB_len (M : Med) (i : Nat) : (prepB M i).length = 2352 := by unfold prepB; rw [spl_len, zG_len, scrL_len]
theorem ix_out (M : Med) {i k : Nat} (h : k < 2352) : G.ix (M.out i) k = if M.goneP i k = true then 0 else byteA (M.sec i).raw k ^^^ (M.sec i).ch k := by
  unfold Med.out
  rw [map_ix h]
theorem prep_inv {M : Med} {i : Nat} {lba : Int} {d : List UInt8} (h0 : -150 ≤ lba) (h1 : lba ≤ 449849) (hd : d.length = 2048) (hr : (M.sec i).raw = rec lba d) (hc : ∀ k, k < 2352 → (M.sec i).ch k = 0) :
    W8.Inv (par lba d) (prepB M i) (inn (M.gone i)) := by
  refine ⟨prepB_len M i, fun x hx hne => ?_⟩
  have hg := par_good h0 h1 hd
  have hle : 0 + syL.length ≤ (zG (scrL (M.out i)) (M.gone i)).length := by rw [zG_len, scrL_len]; decide
  have hsl : syL.length = 12 := rfl
  unfold prepB at hne
  rw [spl_ix _ _ _ _ hle, hsl] at hne
  by_cases h12 : x < 12
  · rw [if_pos (by omega), Nat.sub_zero] at hne
    refine absurd ?_ hne
    rw [← hg.sync]
    unfold G.ix
    rw [List.getD_eq_getElem?_getD, List.getD_eq_getElem?_getD, List.getElem?_take_of_lt h12]
  · rw [if_neg (by omega)] at hne
    unfold inn keepF
    rw [List.mem_filter]
    refine ⟨?_, decide_eq_true (by omega)⟩
    apply Decidable.byContradiction
    intro hn
    apply hne
    rw [zG_ix hn (fun y hy => (gone_bd M i y hy).1)]
    have hgp : M.goneP i x = false := by
      cases h : M.goneP i x with
      | false => rfl
      | true => exact absurd ((mem_gone M i x).2 ⟨x, hx, h, rfl⟩) hn
    have hrp := rec_par lba hd
    have e1 : G.ix (scrL (M.out i)) x = G.ix (M.out i) x ^^^ kbU (x - 12) 8 := by
      unfold scrL; rw [scrK_ix _ _ hx]; unfold scrB; rw [if_pos (by omega)]
    have e2 : G.ix (scrL (rec lba d)) x = G.ix (rec lba d) x ^^^ kbU (x - 12) 8 := by
      unfold scrL; rw [scrK_ix _ _ hx]; unfold scrB; rw [if_pos (by omega)]
    have e3 : byteA (rec lba d) x = G.ix (rec lba d) x := by
      unfold byteA atD G.ix; rw [List.getD_eq_getElem?_getD]
    rw [e1, ix_out M hx, hgp, if_neg (by decide), hc x hx, UInt8.xor_zero, hr, e3, ← e2, hrp]
theorem ers_of {f : Int} {l : List Int} (hs : l.Pairwise (· < ·)) (hb : ∀ x ∈ l, f ≤ x ∧ x < 2352) : W8.ersB f l = true := by
  have h : ∀ k, k ≤ l.length → W8.ersN f l k = true := fun k => by
    induction k with
    | zero => intro _; rfl
    | succ k ih =>
      intro hk
      rw [W8.ersN, ih (by omega), Bool.true_and]
      have h1 := hb _ (W8.ixI_mem (show k < l.length by omega))
      unfold W8.ersB1
      rw [decide_eq_false (by omega : ¬ ixI l k < f), decide_eq_false (by omega : ¬ 2352 ≤ ixI l k)]
      by_cases h0 : 0 < k
      · have h2 : ixI l (k - 1) < ixI l k := by
          rw [W8.ixI_get (by omega : k - 1 < l.length), W8.ixI_get (by omega : k < l.length)]
          exact List.pairwise_iff_getElem.1 hs _ _ _ _ (by omega)
        rw [decide_eq_true h0, decide_eq_false (by omega : ¬ ixI l k ≤ ixI l (k - 1))]; rfl
      · rw [decide_eq_false h0]; rfl
  exact h _ (Nat.le_refl _)
theorem inn_sub (L : List Int) : (inn L).Sublist L := List.filter_sublist
theorem inn_ers (M : Med) (i : Nat) : W8.ersB 12 (inn (M.gone i)) = true := by
  refine ers_of ((gone_sorted M i).sublist (inn_sub _)) fun x hx => ?_
  have h1 := gone_bd M i x ((inn_sub _).subset hx)
  unfold inn keepF at hx
  rw [List.mem_filter] at hx
  have := of_decide_eq_true hx.2
  omega
end Go.Proofs.YtflmjdjkfognjaaGreat.T7
