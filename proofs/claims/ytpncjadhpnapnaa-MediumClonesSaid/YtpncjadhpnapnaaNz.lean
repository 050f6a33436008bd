/- Chapter 9: Lost of the reference walked. -/
import Derived.Test.YtpncjadhpnapnaaNy
import Derived.Test.YtpncjadhpnapnaaAq
namespace Go.Proofs.Ytpncjadhpnapnaa.C9
open Go.RowKit D13 Ap
set_option linter.unusedVariables false

/-- what Lost returns: the offsets and the code -/
def lostR (d : Int) (l : List Sc) : List Int × Int := if d < 1 ∨ 401408 < d then ([], 1) else if fitA (d.toNat + 108) l = false then ([], 1) else (lostN l d.toNat, 0)
def LostP (R : List Int × Int) (w : World) (e : Ending) (w' : World) : Prop := ∃ v, e = .returned (.tuple #[v, .int .i64 R.2]) ∧ w'.ownsRow w.heap.size 3 1 v R.1.length (is R.1) ∧ Below w.heap.size w w'
theorem LostP.none (c : Int) {w : World} {e : Ending} {w' : World} (he : e = .returned (.tuple #[.slice none 0 0, .int .i64 c])) (hb : Below w.heap.size w w') : LostP ([], c) w e w' := ⟨_, he, ownsRow_nil _ _ _, hb⟩
theorem frN_ok {n : Nat} (h1 : 1 ≤ n) (h2 : n ≤ 401408) : frN n = ((n + 108 : Nat) : Int) := by unfold frN; rw [if_neg (by omega)]; omega
theorem frN_bad {d : Int} (h : d < 1 ∨ 401408 < d) : frN d = 0 := by unfold frN; rw [if_pos h]
theorem ers_get (l : List Sc) (f k : Nat) (hk : k < (ers l f).length) : 0 ≤ ixI (ers l f) k ∧ ixI (ers l f) k < 28 := ers_bd l f _ (ixI_mem hk)
theorem ixI_some {E : List Int} {k : Nat} (h : k < E.length) : E[k]? = some (ixI E k) := by rw [ixI_get h]; exact List.getElem?_eq_getElem h

set_option maxRecDepth 100000 in
set_option maxHeartbeats 2000000 in
theorem rlost_range (d : Int) (v : Value) (l : List Sc) (w : World) (hr : RdSc w v l) (hd : d < 1 ∨ 401408 < d) :
    Calls Try.prog 51 #[.int .i64 d, v] w (LostP ([], 1) w) := by
  obtain ⟨a, c, rfl, hac⟩ := RdD.form hr
  have HF := Lib.hid (fun W => (rframes_any d W).mono (fun e w' (h : e = _ ∧ W = w') => (by rw [frN_bad hd] at h; exact h : e = .returned (.int .i64 0) ∧ W = w')))
  go_enter Try.func51, Try.ntmps51
  go_wp2_with (refine (HF.out _).mono ?_; rintro e w' ⟨rfl, rfl⟩)
  go_ret2
  exact LostP.none 1 rfl (Below.refl _ _)
set_option maxRecDepth 100000 in
set_option maxHeartbeats 2000000 in
theorem rlost_fit (n : Nat) (v : Value) (l : List Sc) (w : World) (h1 : 1 ≤ n) (h2 : n ≤ 401408) (hr : RdSc w v l) (hwf : ∀ i, i < l.length → Wf (scA l i)) (hl : l.length ≤ 9223372036854775807) (hfit : fitA (n + 108) l = false) :
    Calls Try.prog 51 #[.int .i64 n, v] w (LostP ([], 1) w) := by
  have HF := Lib.hid (fun W => (rframes_any n W).mono (fun e w' (h : e = _ ∧ W = w') => (by rw [frN_ok h1 h2] at h; exact h : e = .returned (.int .i64 ((n + 108 : Nat) : Int)) ∧ W = w')))
  have HT := Lib.hid ((rfits_any v l (n + 108) w hr hwf hl (by omega)).mono (fun e w' (h : e = _ ∧ Below w.heap.size w w') => (by rw [hfit] at h; exact h : e = .returned (.bool false) ∧ Below w.heap.size w w')))
  obtain ⟨a, c, rfl, hac⟩ := RdD.form hr
  obtain ⟨N, hN⟩ : ∃ N, N = n + 108 := ⟨_, rfl⟩
  rw [← hN] at HF HT
  have hz : ((N : Int) == 0) = false := by rw [beq_eq_false_iff_ne]; omega
  clear hr hwf hfit hN
  go_enter Try.func51, Try.ntmps51
  go_wp2_with fail
  refine (HF.out _).mono ?_
  rintro e w' ⟨rfl, rfl⟩
  go_wp2_with fail
  refine (HF.out _).mono ?_
  rintro e w' ⟨rfl, rfl⟩
  go_wp2_with fail
  refine HT.out.mono ?_
  rintro e w' ⟨rfl, hb⟩
  go_wp2_with fail
  go_ret2
  exact LostP.none 1 rfl hb
set_option maxRecDepth 100000 in
set_option maxHeartbeats 8000000 in
theorem rlost_ok (n : Nat) (v : Value) (l : List Sc) (w : World) (h1 : 1 ≤ n) (h2 : n ≤ 401408) (hr : RdSc w v l) (hwf : ∀ i, i < l.length → Wf (scA l i)) (hl : l.length ≤ 9223372036854775807) (hfit : fitA (n + 108) l = true) :
    Calls Try.prog 51 #[.int .i64 n, v] w (LostP (lostN l n, 0) w) := by
  have HF := Lib.hid (fun W => (rframes_any n W).mono (fun e w' (h : e = _ ∧ W = w') => (by rw [frN_ok h1 h2] at h; exact h : e = .returned (.int .i64 ((n + 108 : Nat) : Int)) ∧ W = w')))
  have HT := Lib.hid ((rfits_any v l (n + 108) w hr hwf hl (by omega)).mono (fun e w' (h : e = _ ∧ Below w.heap.size w w') => (by rw [hfit] at h; exact h : e = .returned (.bool true) ∧ Below w.heap.size w w')))
  have HV := Lib.hid (fun W hW => covered_any v l (n + 108) W hW hwf hl (by omega) hfit)
  have HR := Lib.hid hr
  obtain ⟨a, c, rfl, hac⟩ := RdD.form hr
  obtain ⟨N, hN⟩ : ∃ N, N = n + 108 := ⟨_, rfl⟩
  rw [← hN] at HF HT HV
  have hz : ((N : Int) == 0) = false := by rw [beq_eq_false_iff_ne]; omega
  have hN1 : n + 108 ≤ N := by omega
  have hN2 : N ≤ n + 108 := by omega
  clear hr hwf hfit hN
  go_enter Try.func51, Try.ntmps51
  go_wp2_with fail
  refine (HF.out _).mono ?_
  rintro e w' ⟨rfl, rfl⟩
  go_wp2_with fail
  refine (HF.out _).mono ?_
  rintro e w' ⟨rfl, rfl⟩
  go_wp2_with fail
  refine HT.out.mono ?_
  rintro e w1 ⟨rfl, hb1⟩
  go_wp2_with fail
  refine (HF.out _).mono ?_
  rintro e w' ⟨rfl, rfl⟩
  have hr1 := RdD.keep HR.out hb1
  go_wp2_with fail
  refine (HV.out _ hr1).mono ?_
  rintro e w2 ⟨rfl, hbx, hb2⟩
  clear hz hr1
  have hbw := hb1.trans (hb2.mono hb1.size)
  have hws := hb1.size
  obtain ⟨g, hg⟩ : ∃ g, g = w1.heap.size := ⟨_, rfl⟩
  rw [← hg] at hbx hws
  simp only [← hg]
  have hg2 := hbx.lt
  clear hb2 hb1 hg
  go_wp2_with fail
  have ho0 : (w2.alloc (.cells #[] 3)).ownsRow (g + 1) 3 1 (.slice (some ⟨w2.heap.size, 0, none⟩) 0 0) 0 (is []) := World.ownsRow_lit w2 #[] 0 hg2 (by simp) (by simp)
  have hb0 := hbw.alloc hbw.size (.cells #[] 3)
  have hbx0 := hbx.alloc (.cells #[] 3)
  clear hbx hbw
  go_loopw [7, 8] (fun vo vf wr => ∃ f : Nat, f ≤ n ∧ vf = .int .i64 f ∧ wr.ownsRow (g + 1) 3 1 vo (lostN l f).length (is (lostN l f)) ∧ Bx wr g 4 (bb (mk N (gon l))) ∧ Below w.heap.size w wr) (fun _ vf _ => n - (intOf vf).toNat)
  case atStart => exact ⟨0, by omega, rfl, ho0, hbx0, hb0⟩
  case round =>
    clear ho0 hbx0 hb0
    obtain ⟨f, hf, rfl, ho, hbx, hb⟩ := hrel
    obtain ⟨wo, rfl⟩ : ∃ wo : World, wo = wr := ⟨_, rfl⟩
    have hbs := hb.size
    have hgl := hbx.lt
    have hLl := lostN_length l f
    by_cases hlt : f < n
    · have hE : Hid (lostN l (f + 1) = lostN l f ++ ls (ers l f) f) := Lib.hid rfl
      obtain ⟨L, hL⟩ : ∃ L, L = lostN l f := ⟨_, rfl⟩
      rw [← hL] at ho hE hLl
      clear hL
      obtain ⟨ao, co, rfl⟩ := ownD_form ho
      have HO := Lib.hid ho
      have hoe : (wo.alloc (.cells #[] 3)).ownsRow wo.heap.size 3 1 (.slice (some ⟨wo.heap.size, 0, none⟩) 0 0) 0 (is []) := World.ownsRow_lit wo #[] 0 (Nat.le_refl _) (by simp) (by simp)
      have hbe : Below wo.heap.size wo (wo.alloc (.cells #[] 3)) := (Below.refl _ _).alloc (Nat.le_refl _) _
      have hlt' : (f : Int) < (n : Int) := by omega
      clear ho
      go_wp2_with fail
      go_loopw [9, 10] (fun ve vi wr => ∃ i : Nat, i ≤ 28 ∧ vi = .int .i64 i ∧ wr.ownsRow wo.heap.size 3 1 ve (ersK l f i).length (is (ersK l f i)) ∧ Below wo.heap.size wo wr) (fun _ vi _ => 28 - (intOf vi).toNat)
      case atStart => exact ⟨0, by omega, rfl, hoe, hbe⟩
      case round =>
        clear hoe hbe
        obtain ⟨i, hi, rfl, hoe, hbe⟩ := hrel
        have hbxr := hbx.call hbe
        have hes := hbe.size
        by_cases hit : i < 28
        · have hit' : (i : Int) < 28 := by omega
          have hkN : f + 4 * i < N := by omega
          have hix := fun w' => run_idxS Try.underlying91 Try.sizeBool9 (a := some ⟨g, 0, none⟩) (cap := N) rfl hkN ((f : Int) + 4 * (i : Int)) (by omega) w'
          simp only [Nat.mul_one, Nat.zero_add] at hix
          obtain ⟨q, hq⟩ : ∃ q, q = gon l (f + 4 * i) := ⟨_, rfl⟩
          have hcl : wr.cell? ⟨g, f + 4 * i, none⟩ = some (.bool q) := hbxr.cell (by rw [bb_get]; rw [hq]; exact mk_get _ hkN)
          have HS := Lib.hid (ersK_succ l f i)
          rw [← hq] at HS
          have hel := ersK_length l f i
          generalize ersK l f i = E at hoe HS hel
          clear hq hbxr
          cases q with
          | false =>
            have HS2 : Hid (ersK l f (i + 1) = E) := Lib.hid (by rw [HS.out, if_neg (by decide)])
            go_wp2_with fail
            go_roundw
            case rel => exact ⟨i + 1, by omega, by go_num, by rw [HS2.out]; exact hoe, hbe⟩
            case measure => simp [intOf]; omega
          | true =>
            have HS2 : Hid (ersK l f (i + 1) = E ++ [(i : Int)]) := Lib.hid (by rw [HS.out, if_pos rfl])
            have hoa := ownD_keep hoe ((Below.refl wr.heap.size wr).alloc (Nat.le_refl _) (.cells #[.int .i64 i] 3))
            have hba := hbe.alloc hes (.cells #[.int .i64 i] 3)
            have hbas := hba.size
            clear hoe hbe
            go_wp2_with (at_builtin; refine wpList_ap1 rfl _ _ rfl Try.underlying30 Try.infoInt9 rfl hoa rfl (g := wr.heap.size) (y := .int .i64 i) rfl (by simp) rfl (by unfold maxLen; omega) (by omega) hbas ?_; intro v7 w7 hown7 hgr7 hno7)
            have hb7 := hba.grown hgr7 hbas (ownD_block hoa)
            clear hba hoa hgr7
            go_roundw
            case rel => exact ⟨i + 1, by omega, by go_num, by rw [HS2.out, is_append, List.length_append]; exact hown7, hb7⟩
            case measure => simp [intOf]; omega
        · obtain rfl : i = 28 := by omega
          have HB := Lib.hid (fun k (hk : k < (ers l f).length) => ers_get l f k hk)
          have hel : (ersK l f 28).length ≤ 28 := ersK_length l f 28
          change wr.ownsRow wo.heap.size 3 1 _ (ers l f).length (is (ers l f)) at hoe
          change (ers l f).length ≤ 28 at hel
          generalize ers l f = E at hoe hel HB hE
          obtain ⟨ae, ce, rfl⟩ := ownD_form hoe
          have hbb := hb.trans (hbe.mono hbs)
          have hoo := ownD_keep HO.out hbe
          by_cases h4 : E.length ≤ 4
          · have HE2 : Hid (lostN l (f + 1) = L) := Lib.hid (by rw [hE.out]; unfold ls lsK; rw [if_pos h4, List.append_nil])
            have h4' : (E.length : Int) ≤ 4 := by omega
            go_wp2_with fail
            go_roundw
            case rel => exact ⟨f + 1, by omega, by go_num, by rw [HE2.out]; exact hoo, hbxr, hbb⟩
            case measure => simp [intOf]; omega
          · have h4' : ¬ (E.length : Int) ≤ 4 := by omega
            have hoff : Off (.slice ao L.length co) (fun k => k ∈ ae.map Addr.block) := by
              refine Off.own HO.out fun k _ hk hk2 => ?_
              obtain ⟨ge, ce', he, hge, _⟩ := ownD_addr hoe (by omega)
              simp only [Value.slice.injEq] at he
              rw [he.1] at hk2
              simp at hk2
              omega
            obtain ⟨ge, ce', he, hge, hge2⟩ := ownD_addr hoe (by omega)
            simp only [Value.slice.injEq] at he
            obtain ⟨rfl, _, _⟩ := he
            replace hoff : Off (.slice ao L.length co) (fun k => k = ge) := fun k hk h => hoff k hk (by simp [h])
            have HE := Lib.hid hoe
            clear hoe
            go_wp2_with fail
            go_loopw [7, 11] (fun vo vk wr => ∃ k : Nat, k ≤ E.length ∧ vk = .int .i64 k ∧ wr.ownsRow (g + 1) 3 1 vo (L ++ lsK E f k).length (is (L ++ lsK E f k)) ∧ Off vo (fun k => k = ge) ∧ wr.ownsRow wo.heap.size 3 1 (.slice (some ⟨ge, 0, none⟩) E.length ce) E.length (is E) ∧ Bx wr g 4 (bb (mk N (gon l))) ∧ Below w.heap.size w wr) (fun _ vk _ => E.length - (intOf vk).toNat)
            case atStart => exact ⟨0, by omega, rfl, by rw [lsK_zero, List.append_nil]; exact hoo, hoff, HE.out, hbxr, hbb⟩
            case round =>
              clear hoo hbxr hbb hoff hbe hb hbx hes hbs HE
              obtain ⟨k, hk, rfl, hoo, hoff, hoe, hbxr, hbb⟩ := hrel
              have hwsz := hbb.size
              have hgr := hbxr.lt
              have hger := (hoe.lt ge rfl).2
              by_cases hkt : k < E.length
              · have hkt' : (k : Int) < (E.length : Int) := by omega
                obtain ⟨hx1, hx2⟩ := HB.out k hkt
                have HS := Lib.hid (lsK_succ E f k (ixI E k) (ixI_some hkt))
                have hcl : wr.cell? ⟨ge, k, none⟩ = some (.int .i64 (ixI E k)) := by rw [hoe.cellAt k (by omega), is_get hkt]
                have hix := fun w' => run_idxS Try.underlying30 Try.sizeInt9 (a := some ⟨ge, 0, none⟩) (cap := ce) rfl hkt _ rfl w'
                simp only [Nat.mul_one, Nat.zero_add] at hix
                generalize ixI E k = x at *
                have hll := lsK_length E f k hel
                have HLS : Hid (lsK E f k = lsK E f k) := Lib.hid rfl
                obtain ⟨M, hM⟩ : ∃ M, M = L ++ lsK E f k := ⟨_, rfl⟩
                have hMl : M.length ≤ 28 * f + 28 := by rw [hM, List.length_append]; omega
                rw [← hM] at hoo
                by_cases hx : x < 24
                · have HS2 : Hid (L ++ lsK E f (k + 1) = M ++ [24 * (f : Int) + x]) := Lib.hid (by rw [HS.out, if_pos ⟨by omega, hx⟩, hM, List.append_assoc])
                  clear hM HS HLS
                  have hoa := ownD_keep hoo ((Below.refl wr.heap.size wr).alloc (Nat.le_refl _) (.cells #[.int .i64 (24 * (f : Int) + x)] 3))
                  have hea := ownD_keep hoe ((Below.refl wr.heap.size wr).alloc (Nat.le_refl _) (.cells #[.int .i64 (24 * (f : Int) + x)] 3))
                  have hxa := hbxr.alloc (.cells #[.int .i64 (24 * (f : Int) + x)] 3)
                  have hba := hbb.alloc hwsz (.cells #[.int .i64 (24 * (f : Int) + x)] 3)
                  have hbas : g + 1 ≤ (wr.alloc (.cells #[.int .i64 (24 * (f : Int) + x)] 3)).heap.size := by simp; omega
                  clear hoo hoe hbxr hbb
                  go_wp2_with (at_builtin; refine wpList_ap1 rfl _ _ rfl Try.underlying30 Try.infoInt9 rfl hoa rfl (g := wr.heap.size) (y := .int .i64 (24 * (f : Int) + x)) rfl (by simp) rfl (by unfold maxLen; omega) (by omega) hbas ?_; intro v7 w7 hown7 hgr7 hno7)
                  have hb7 := hba.grown hgr7 hba.size (fun q hq => by have := ownD_block hoa q hq; omega)
                  have he7 := own_off hea hgr7 (fun q hq h => hoff q h (by simpa [Value.ownBlock] using hq.symm))
                  have hx7 := bx_off hxa hgr7 (fun h => by have := ownD_block hoa g h; omega)
                  have hf7 := hoff.step hno7 (fun q hq h => by subst h; simp at hq; omega)
                  clear hba hoa hea hxa hgr7 hno7
                  go_roundw
                  case rel => exact ⟨k + 1, by omega, by go_num, by rw [HS2.out, is_append, List.length_append]; exact hown7, hf7, he7, hx7, hb7⟩
                  case measure => simp [intOf]; omega
                · have HS2 : Hid (L ++ lsK E f (k + 1) = M) := Lib.hid (by rw [HS.out, if_neg (fun h => hx h.2), hM])
                  clear hM HS HLS
                  go_wp2_with fail
                  go_roundw
                  case rel => exact ⟨k + 1, by omega, by go_num, by rw [HS2.out]; exact hoo, hoff, hoe, hbxr, hbb⟩
                  case measure => simp [intOf]; omega
              · obtain rfl : k = E.length := by omega
                go_wp2_with fail
                go_roundw
                case rel => exact ⟨f + 1, by omega, by go_num, by rw [hE.out]; exact hoo, hbxr, hbb⟩
                case measure => simp [intOf]; omega
    · obtain rfl : f = n := by omega
      go_wp2_with fail
      go_ret2
      exact ⟨_, rfl, own_mono ho (by omega), hb⟩
end Go.Proofs.Ytpncjadhpnapnaa.C9
