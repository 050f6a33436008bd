/- CloseSession of the reference walked (chapter 14). -/
import Derived.Test.YtiioojlihapdaaaTkCl
import Derived.Deep.Cut
import Derived.Deep.CutBlock
import Derived.Deep.DeepCutAuto
import Derived.Outline
namespace Go.Proofs.Ytiioojlihapdaaa
open Go.RowKit
set_option linter.unusedVariables false

def cntL (cl : Int) (l : List T.Trk) : Nat → Nat
  | 0 => 0
  | n + 1 => cntL cl l n + if laterP cl l n = true then 1 else 0
theorem cntL_le (cl : Int) (l : List T.Trk) : ∀ n, cntL cl l n ≤ n
  | 0 => Nat.le_refl _
  | n + 1 => by have := cntL_le cl l n; unfold cntL; split <;> omega
theorem cntL_zero (cl : Int) (l : List T.Trk) : ∀ n, cntL cl l n = 0 ↔ anyP (laterP cl l) n = false
  | 0 => by simp [cntL, anyP]
  | n + 1 => by
    have ih := cntL_zero cl l n
    rw [anyP_false] at ih ⊢
    unfold cntL
    constructor
    · intro h m hm
      split at h
      · omega
      · by_cases e : m < n
        · exact (ih.1 (by omega)) m e
        · obtain rfl : m = n := by omega
          simpa using (by assumption : ¬ laterP cl l m = true)
    · intro h
      rw [if_neg (by rw [h n (by omega)]; simp), ih.2 fun m hm => h m (by omega)]
theorem closeSessR_8 {cap cl : Int} {l : List T.Trk} {fz : Bool} (hV : T.validB cap cl false l = true) (h : anyP (undoneP l) l.length = true) : closeSessR cap cl false l fz = Res.bad 8 := by
  unfold closeSessR; rw [if_neg (by rw [hV]; simp), if_neg (by simp), if_pos h]
theorem closeSessR_n {cap cl : Int} {l : List T.Trk} {fz : Bool} (hV : T.validB cap cl false l = true) (h : anyP (undoneP l) l.length = false) :
    closeSessR cap cl false l fz = if anyP (laterP cl l) l.length = true then ⟨cl + 1, fz, l, 0⟩ else if fz = false ∨ cl = 0 then Res.bad 8 else ⟨cl, true, l, 0⟩ := by
  unfold closeSessR; rw [if_neg (by rw [hV]; simp), if_neg (by simp), if_neg (by rw [h]; simp)]

set_option maxRecDepth 100000 in
set_option maxHeartbeats 6000000 in
theorem rcsess_3 (cap cl : Int) (sv : Value) (l : List T.Trk) (fz : Bool) (w : World) (hr : RdK w sv l) (hf : Few l) (hV : T.validB cap cl false l = true) :
    Calls Try.prog 35 #[.int .i64 cap, tval cl false sv, .bool fz] w (OpP (closeSessR cap cl false l fz) w) := by
  have H8 := Lib.hid (fun h => closeSessR_8 (fz := fz) hV h)
  have HN := Lib.hid (fun h => closeSessR_n (fz := fz) hV h)
  obtain ⟨q1, q2, q3, q4, q5, _⟩ := T.validB_true.1 hV
  obtain ⟨a, c, rfl, hac⟩ := RdS.form hr
  have hb0 := box2_below w cl false (.slice a l.length c)
  have hcon := rvalid_any cap cl false _ l _ (hr.keep hb0) hf
  have HCON := Lib.hid hcon; clear hcon
  have hst0 := St.new w cl false (.slice a l.length c)
  have HV := Lib.hid hV; clear hV
  go_enter Try.func35, Try.ntmps35
  go_wp2_with fail
  refine HCON.out.mono ?_
  rintro e w1 ⟨rfl, hb⟩
  rw [HV.out]
  have hst := hst0.call hb
  have hb1 := hb0.trans (hb.mono hb0.size)
  obtain ⟨ht0, ht1, ht2, hs0, hs1, hs2, hf0, hf1⟩ := hst.facts
  have hw1 := hst.lt
  have hw0 : w.heap.size < w1.heap.size := by omega
  clear hb hst0 hb0
  have hrx := RdK.keep hr hb1
  have HRX := Lib.hid hrx
  obtain ⟨a', c', b, off, hv', hac', hcell⟩ := hrx
  obtain ⟨rfl, rfl⟩ : a = a' ∧ c = c' := by injection hv' with h1 h2 h3; exact ⟨h1, h3⟩
  have HC := Lib.hid hcell; clear hcell hv'
  go_wp2_with fail
  clear ht0 ht1 ht2 hs0 hs1 hs2 hf0 hf1
  go_loopw [8, 9] (fun vo vi wr => ∃ (i k : Nat), i ≤ l.length ∧ k ≤ i ∧ vi = .int .i64 i ∧ vo = .int .i64 k ∧ Hid (k = cntL cl l i) ∧ Hid (∀ m, m < i → undoneP l m = false) ∧ Below w1.heap.size w1 wr) (fun _ vi _ => l.length - (intOf vi).toNat)
  case atStart => exact ⟨0, 0, by omega, by omega, rfl, rfl, Lib.hid rfl, Lib.hid fun m hm => by omega, Below.refl _ _⟩
  case round =>
    obtain ⟨i, k, hi, hk, rfl, rfl, HK, HO, hbr⟩ := hrel
    have hstr := hst.call hbr
    obtain ⟨ht0, ht1, ht2, hs0, hs1, hs2, hf0, hf1⟩ := hstr.facts
    have hb1r := hb1.trans (hbr.mono hb1.size)
    have hwr1 := hstr.lt
    have hwr0 : w.heap.size < wr.heap.size := by omega
    have hw1r : w1.heap.size ≤ wr.heap.size := hbr.size
    by_cases hlt : i < l.length
    · obtain ⟨ha, hrange⟩ := HC.out i hlt
      obtain ⟨x, hx⟩ : ∃ x, x = T.tr l i := ⟨_, rfl⟩
      rw [← hx] at hrange
      have HX := Lib.hid hx; clear hx
      have hix := fun w' => run_idxS Try.underlying22 Try.sizeTrack (cap := c) ha hlt _ rfl w'
      have hrg : wr.rangeAt b (off + i * 7) (tcs x) := fun j u hu => (hbr.cell (p := ⟨b, off + i * 7 + j, none⟩) (World.block_lt_of_cell? w1 _ (hrange j u hu))).trans (hrange j u hu)
      clear hrange
      obtain ⟨hc0, hc1, hc2, hc3, hc4, hc5, hc6⟩ := rd7 hrg
      clear hrg
      have Ha := Lib.hid ha; clear ha
      by_cases hs2 : x.sta = 2
      · have hd : (x.sta != 2) = false := by rw [bne_eq_false_iff_eq]; exact hs2
        have hu : undoneP l i = false := by unfold undoneP; rw [← HX.out]; simp [hs2]
        have HU := Lib.hid hu; clear hu hs2
        by_cases hls : cl < x.ses
        · have hd2 : decide (cl < x.ses) = true := decide_eq_true hls
          have HC2 : Hid (k + 1 = cntL cl l (i + 1)) := Lib.hid (by rw [cntL, if_pos (by unfold laterP; rw [← HX.out]; exact decide_eq_true hls), ← HK.out])
          clear hls
          go_wp2_with fail
          go_quiet (fail)
          go_wp2_with fail
          go_roundw
          case rel =>
            refine ⟨i + 1, k + 1, by omega, by omega, by go_num, by go_num, HC2, Lib.hid fun m hm => ?_, Below.drewN hbr _⟩
            by_cases e9 : m < i
            · exact HO.out m e9
            · have e8 : m = i := by omega
              rw [e8]; exact HU.out
          case measure => simp [intOf] <;> omega
        · have hd2 : decide (cl < x.ses) = false := decide_eq_false hls
          have HC2 : Hid (k = cntL cl l (i + 1)) := Lib.hid (by rw [cntL, if_neg (by unfold laterP; rw [← HX.out]; simpa using hls), ← HK.out, Nat.add_zero])
          clear hls
          go_wp2_with fail
          go_quiet (fail)
          go_wp2_with fail
          go_roundw
          case rel =>
            refine ⟨i + 1, k, by omega, by omega, by go_num, by go_num, HC2, Lib.hid fun m hm => ?_, Below.drewN hbr _⟩
            by_cases e9 : m < i
            · exact HO.out m e9
            · have e8 : m = i := by omega
              rw [e8]; exact HU.out
          case measure => simp [intOf] <;> omega
      · have hd : (x.sta != 2) = true := by rw [bne_iff_ne]; exact hs2
        have HR := Lib.hid (H8.out (anyP_true.2 ⟨i, hlt, by unfold undoneP; rw [← HX.out]; exact decide_eq_true hs2⟩))
        clear hs2
        go_wp2_with fail
        rw [HR.out]
        refine bodyPost_ret (v := .tuple #[tval 0 false (.slice none 0 0), .int .i64 8]) (by simp [results, Try.results35, go_sem, hs0, hs1, hs2]) rfl ⟨_, rfl, RdK.nil _, ?_⟩
        exact ((hb1r.setCell (by simp) _).setCell (by simp) _).setCell (by simp) _
    · obtain rfl : i = l.length := by omega
      have hn := HN.out (anyP_false.2 HO.out)
      by_cases hk0 : k = 0
      · have hz : ((k : Int) == 0) = true := by rw [beq_iff_eq]; omega
        rw [if_neg (by rw [(cntL_zero cl l _).1 (by rw [← HK.out]; exact hk0)]; simp)] at hn
        have HNN := Lib.hid hn; clear hn hk0
        have hownA : (wr.alloc (.cells #[] 40)).ownsRow wr.heap.size 40 7 (.slice (some ⟨wr.heap.size, 0, none⟩) 0 0) 0 (fl []) := World.ownsRow_lit wr #[] 0 (Nat.le_refl _) (by simp [maxLen]) (by simp)
        have hrA : RdK (wr.alloc (.cells #[] 40)) (.slice a l.length c) l := HRX.out.keep (hbr.alloc hw1r _)
        have HOA := Lib.hid hownA; have HRA := Lib.hid hrA; clear hownA hrA
        go_upto_region 14 with (at_builtin; refine wpList_appT rfl _ _ rfl HOA.out rfl HRA.out rfl (by omega) (by simp) ?_; intro v4 w4 hown4 hg4; rw [Nat.zero_add, List.nil_append] at hown4; obtain ⟨a4, c4, rfl, _⟩ := RdS.form (RdK.ofOwn hown4); have hst4 := (hstr.alloc _).own HOA.out hg4 (by omega) (by simp); have hb4 := (hb1r.alloc (by omega) _).grown hg4 (by simp; omega) (fun k hk => by have := ownBlock_geT HOA.out k hk; omega); clear ht0 ht1 ht2 hs0 hs1 hs2 hf0 hf1 hg4; obtain ⟨ht0, ht1, ht2, hs0, hs1, hs2, hf0, hf1⟩ := hst4.facts)
        have hst5 := hst4.put2 (.slice a4 l.length c4)
        have hown5 := own_set hown4 (p := ⟨w.heap.size, 2, none⟩) (by simp only; omega) (.slice a4 l.length c4)
        have hb5 := hb4.setCell (p := ⟨w.heap.size, 2, none⟩) (by simp) (.slice a4 l.length c4)
        generalize w4.setCell ⟨w.heap.size, 2, none⟩ (.slice a4 l.length c4) = w5 at hst5 hown5 hb5 ⊢
        clear ht0 ht1 ht2 hs0 hs1 hs2 hf0 hf1 hst4 hown4 hb4
        obtain ⟨ht0, ht1, ht2, hs0, hs1, hs2, hf0, hf1⟩ := hst5.facts
        have hw5 := hst5.lt
        have hw50 : w.heap.size < w5.heap.size := by omega
        by_cases hc0 : cl = 0
        · have HR : Hid (closeSessR cap cl false l fz = Res.bad 8) := Lib.hid (by rw [HNN.out, if_pos (.inr hc0)])
          have hcz : (cl == 0) = true := by rw [beq_iff_eq]; exact hc0
          clear hc0
          cases fz
          all_goals
            go_wp2_with fail
            rw [HR.out]
            refine bodyPost_ret (v := .tuple #[tval 0 false (.slice none 0 0), .int .i64 8]) (by simp [results, Try.results35, go_sem, hs0, hs1, hs2]) rfl ⟨_, rfl, RdK.nil _, ?_⟩
            exact ((hb5.setCell (by simp) _).setCell (by simp) _).setCell (by simp) _
        · have hcz : (cl == 0) = false := by rw [beq_eq_false_iff_ne]; exact hc0
          cases fz
          · have HR : Hid (closeSessR cap cl false l false = Res.bad 8) := Lib.hid (by rw [HNN.out, if_pos (.inl rfl)])
            clear hc0
            go_wp2_with fail
            rw [HR.out]
            refine bodyPost_ret (v := .tuple #[tval 0 false (.slice none 0 0), .int .i64 8]) (by simp [results, Try.results35, go_sem, hs0, hs1, hs2]) rfl ⟨_, rfl, RdK.nil _, ?_⟩
            exact ((hb5.setCell (by simp) _).setCell (by simp) _).setCell (by simp) _
          · have HR : Hid (closeSessR cap cl false l true = ⟨cl, true, l, 0⟩) := Lib.hid (by rw [HNN.out, if_neg (by simp [hc0])])
            clear hc0
            go_wp2_with fail
            rw [HR.out]
            refine bodyPost_ret (v := .tuple #[tval cl true (.slice a4 l.length c4), .int .i64 0]) (by simp [results, Try.results35, go_sem, hs0, hs1, hs2]) rfl ⟨_, rfl, ?_, ?_⟩
            · exact RdK.ofOwn (own_set (own_set (own_set (own_set (hown5) (by simp only; omega) _) (by simp only; omega) _) (by simp only; omega) _) (by simp only; omega) _)
            · exact Below.setCell (Below.setCell (Below.setCell (Below.setCell (hb5) (by simp) _) (by simp) _) (by simp) _) (by simp) _
      · have hz : ((k : Int) == 0) = false := by rw [beq_eq_false_iff_ne]; omega
        have ha1 : anyP (laterP cl l) l.length = true := by
          cases h : anyP (laterP cl l) l.length with
          | true => rfl
          | false => exact absurd ((cntL_zero cl l _).2 h) (by rw [← HK.out]; exact hk0)
        rw [if_pos ha1] at hn
        have HR := Lib.hid hn; clear hn hk0 ha1
        have hownA : (wr.alloc (.cells #[] 40)).ownsRow wr.heap.size 40 7 (.slice (some ⟨wr.heap.size, 0, none⟩) 0 0) 0 (fl []) := World.ownsRow_lit wr #[] 0 (Nat.le_refl _) (by simp [maxLen]) (by simp)
        have hrA : RdK (wr.alloc (.cells #[] 40)) (.slice a l.length c) l := HRX.out.keep (hbr.alloc hw1r _)
        have HOA := Lib.hid hownA; have HRA := Lib.hid hrA; clear hownA hrA
        go_upto_region 14 with (at_builtin; refine wpList_appT rfl _ _ rfl HOA.out rfl HRA.out rfl (by omega) (by simp) ?_; intro v4 w4 hown4 hg4; rw [Nat.zero_add, List.nil_append] at hown4; obtain ⟨a4, c4, rfl, _⟩ := RdS.form (RdK.ofOwn hown4); have hst4 := (hstr.alloc _).own HOA.out hg4 (by omega) (by simp); have hb4 := (hb1r.alloc (by omega) _).grown hg4 (by simp; omega) (fun k hk => by have := ownBlock_geT HOA.out k hk; omega); clear ht0 ht1 ht2 hs0 hs1 hs2 hf0 hf1 hg4; obtain ⟨ht0, ht1, ht2, hs0, hs1, hs2, hf0, hf1⟩ := hst4.facts)
        have hst5 := hst4.put2 (.slice a4 l.length c4)
        have hown5 := own_set hown4 (p := ⟨w.heap.size, 2, none⟩) (by simp only; omega) (.slice a4 l.length c4)
        have hb5 := hb4.setCell (p := ⟨w.heap.size, 2, none⟩) (by simp) (.slice a4 l.length c4)
        generalize w4.setCell ⟨w.heap.size, 2, none⟩ (.slice a4 l.length c4) = w5 at hst5 hown5 hb5 ⊢
        clear ht0 ht1 ht2 hs0 hs1 hs2 hf0 hf1 hst4 hown4 hb4
        obtain ⟨ht0, ht1, ht2, hs0, hs1, hs2, hf0, hf1⟩ := hst5.facts
        have hw5 := hst5.lt
        have hw50 : w.heap.size < w5.heap.size := by omega
        go_wp2_with fail
        rw [HR.out]
        refine bodyPost_ret (v := .tuple #[tval (cl + 1) fz (.slice a4 l.length c4), .int .i64 0]) (by simp [results, Try.results35, go_sem, hs0, hs1, hs2]) rfl ⟨_, rfl, ?_, ?_⟩
        · exact RdK.ofOwn (own_set (own_set (own_set (own_set (own_set (hown5) (by simp only; omega) _) (by simp only; omega) _) (by simp only; omega) _) (by simp only; omega) _) (by simp only; omega) _)
        · exact Below.setCell (Below.setCell (Below.setCell (Below.setCell (Below.setCell (hb5) (by simp) _) (by simp) _) (by simp) _) (by simp) _) (by simp) _
end Go.Proofs.Ytiioojlihapdaaa
