/- Sessions of the package walked (chapter 14). -/
import Derived.Test.YtiioojlihapdaaaTkR
import Derived.Test.YtiioojlihapdaaaTkD
import Derived.Test.YtiioojlihapdaaaOwn
import Derived.Test.YtiioojlihapdaaaTocSess
import Derived.Deep.Cut
import Derived.IntWalk
import Derived.Outline
namespace Go.Proofs.Ytiioojlihapdaaa
open Go.RowKit
set_option linter.unusedVariables false

abbrev Ses := Int × Int × Bool
def scs (x : Ses) : List Value := [.int .i64 x.1, .int .i64 x.2.1, .bool x.2.2]
def sez : Ses := (0, 0, false)
theorem scs_length (x : Ses) : (scs x).length = 3 := rfl
theorem scs_one (x : Ses) : ∀ u ∈ scs x, u.oneCell' = true := by
  intro u hu
  simp only [scs, List.mem_cons, List.not_mem_nil, or_false] at hu
  rcases hu with rfl | rfl | rfl <;> rfl
theorem Try.infoSes : (Try.prog.info? 46).map (fun i => (i.zero, i.size, i.bytes)) = some (some (.agg #[.int .i64 0, .int .i64 0, .bool false]), 3, 24) := by kernel_rfl
theorem Try.sizeSes : (Try.prog.info? 46).map (·.size) = some 3 := by kernel_rfl
/-- the list of sessions that is returned -/
def SesP (S : List Ses) (w : World) (e : Ending) (w' : World) : Prop := ∃ v, e = .returned v ∧ RdD sez scs 3 w' v S ∧ Below w.heap.size w w'

theorem sess_pos (cl : Int) (l : List T.Trk) : ∀ k : Nat, 0 < k → 0 < (T.sess cl l k).length
  | 0, h => by omega
  | 1, _ => by simp [T.sess]
  | k + 2, _ => by
    rw [T.sess]
    split
    · simp
    · rw [List.length_set]; exact sess_pos cl l (k + 1) (by omega)
theorem sess_le (cl : Int) (l : List T.Trk) : ∀ k : Nat, (T.sess cl l k).length ≤ k
  | 0 => by simp [T.sess]
  | k + 1 => by
    have := sess_le cl l k
    rw [T.sess]
    split
    · simp; omega
    · rw [List.length_set]; omega
theorem sess_sm (cl : Int) (l : List T.Trk) : ∀ k : Nat, (∀ j, j < k → sm (T.tr l j).st) → ∀ i, i < (T.sess cl l k).length → sm (atD sez (T.sess cl l k) i).1
  | 0, _, i, hi => by simp [T.sess] at hi
  | k + 1, h, i, hi => by
    have ih := sess_sm cl l k (fun j hj => h j (by omega))
    rw [T.sess] at hi ⊢
    split at hi
    · rename_i hc
      rw [if_pos hc]
      by_cases e : i < (T.sess cl l k).length
      · rw [atD_append_lt _ _ _ e]; exact ih i e
      · rw [List.length_append, List.length_singleton] at hi
        obtain rfl : i = (T.sess cl l k).length := by omega
        rw [atD_append_eq]; exact h k (by omega)
    · rename_i hc
      rw [if_neg hc]
      rw [List.length_set] at hi
      by_cases e : i = (T.sess cl l k).length - 1
      · subst e
        rw [atD_set_eq _ _ _ hi]; exact ih _ hi
      · rw [atD_set_ne _ _ _ _ e]; exact ih i hi
set_option maxRecDepth 100000 in
set_option maxHeartbeats 4000000 in
theorem sessions_any (cl : Int) (fin : Bool) (sv : Value) (l : List T.Trk) (w : World) (hr : RdK w sv l) (hf : Few l) :
    Calls Try.prog 17 #[tval cl fin sv] w (SesP (T.sess cl l l.length) w) := by
  obtain ⟨a, c, b, off, rfl, hac, hcell⟩ := hr
  have HC := Lib.hid hcell; clear hcell
  have HF := Lib.hid hf.2
  have hn := hf.1
  clear hf
  go_enter Try.func17, Try.ntmps17
  go_wp2_with fail
  go_loopw [3, 10] (fun vo vi wr => ∃ (k : Nat), k ≤ l.length ∧ vi = .int .i64 k ∧ wr.ownsRow (w.heap.size + 1) 46 3 vo (T.sess cl l k).length (flD scs (T.sess cl l k)) ∧ Below (w.heap.size + 1) (w.alloc (.cells #[.int .i64 cl, .bool fin, .slice a l.length c] 24)) wr) (fun _ vi _ => l.length - (intOf vi).toNat)
  case atStart => exact ⟨0, by omega, rfl, ⟨rfl, .inl ⟨rfl, rfl⟩⟩, by simpa using Below.refl _ _⟩
  case round =>
    obtain ⟨k, hk, rfl, hown, hb⟩ := hrel
    obtain ⟨wo, rfl⟩ : ∃ wo : World, wo = wr := ⟨_, rfl⟩
    have hsz : w.heap.size < wo.heap.size := by have := hb.size; simp at this; omega
    have hb0 : Below w.heap.size w wo := ((Below.refl _ _).alloc (Nat.le_refl _) _).trans (hb.mono (by omega))
    by_cases hlt : k < l.length
    · obtain ⟨ha, hrange⟩ := HC.out k hlt
      have hrg : wo.rangeAt b (off + k * 7) (tcs (T.tr l k)) := fun j u hu => (hb0.cell (p := ⟨b, off + k * 7 + j, none⟩) (World.block_lt_of_cell? w _ (hrange j u hu))).trans (hrange j u hu)
      clear hrange
      have hsm := HF.out k hlt
      have hix := fun w' => run_idxS Try.underlying22 Try.sizeTrack (cap := c) ha hlt (k : Int) rfl w'
      have ht0 : wo.cell? ⟨w.heap.size, 0, none⟩ = some (.int .i64 cl) := (hb.cell (p := ⟨w.heap.size, 0, none⟩) (by simp)).trans (by simp [go_sem])
      have ht2 : wo.cell? ⟨w.heap.size, 2, none⟩ = some (.slice a l.length c) := (hb.cell (p := ⟨w.heap.size, 2, none⟩) (by simp)).trans (by simp [go_sem])
      have HNew : Hid ((k = 0 ∨ T.sB l k ≠ (T.tr l k).ses) → T.sess cl l (k + 1) = T.sess cl l k ++ [((T.tr l k).st, (T.tr l k).st + (T.tr l k).len - (T.tr l k).st, decide ((T.tr l k).ses ≤ cl))]) := Lib.hid T.sess_new
      have HOld : Hid (¬ (k = 0 ∨ T.sB l k ≠ (T.tr l k).ses) → ∃ m, (T.sess cl l k).length = m + 1 ∧ T.sess cl l (k + 1) = (T.sess cl l k).set m ((atD sez (T.sess cl l k) m).1, (T.tr l k).st + (T.tr l k).len - (atD sez (T.sess cl l k) m).1, (atD sez (T.sess cl l k) m).2.2)) := Lib.hid fun h => by
        have hlen : 0 < (T.sess cl l k).length := by
          exact sess_pos cl l k (by omega)
        refine ⟨(T.sess cl l k).length - 1, by omega, ?_⟩
        rw [T.sess, if_neg h]; rfl
      have HSb : Hid (∀ j, k = j + 1 → T.sB l k = (T.tr l j).ses) := Lib.hid fun j e => by rw [e, T.sB_succ]
      have HPrev : Hid (∀ j, k = j + 1 → wo.rangeAt b (off + j * 7) (tcs (T.tr l j))) := Lib.hid fun j e => by
        obtain ⟨_, hr9⟩ := HC.out j (by omega)
        exact fun j' u hu => (hb0.cell (p := ⟨b, off + j * 7 + j', none⟩) (World.block_lt_of_cell? w _ (hr9 j' u hu))).trans (hr9 j' u hu)
      have hSl := sess_le cl l k
      have HSmA : Hid (∀ i, i < (T.sess cl l k).length → sm (atD sez (T.sess cl l k) i).1) := Lib.hid (sess_sm cl l k fun j hj => (HF.out j (by omega)).2.2.1)
      generalize T.tr l k = x at hrg hsm HNew HOld
      generalize T.sess cl l k = S at hown HNew HOld hSl HSmA
      obtain ⟨hc0, hc1, hc2, hc3, hc4, hc5, hc6⟩ := rd7 hrg
      clear hrg
      obtain ⟨_, _, sm3, sm4, _⟩ := hsm
      by_cases hk0 : k = 0
      · have hkb : ((k : Int) == 0) = true := by rw [beq_iff_eq]; omega
        have Hk0 := Lib.hid hk0; clear hk0
        have Ha := Lib.hid ha; clear ha
        go_upto_region 5 with (fail)
        go_quiet (fail)
        clear hc0 hc1 hc2 hc3 hc4 hc5 hc6
        have hx2' : Bx ((wo.alloc (tobj x)).drewN nq) wo.heap.size 40 (tcs x) := Bx.new wo 40 (tcs x)
        have hb2' : Below wo.heap.size wo ((wo.alloc (tobj x)).drewN nq) := Go.Proofs.Ytiioojlihapdaaa.Below.drewN ((Below.refl _ _).alloc (Nat.le_refl _) _) nq
        have hw2' : ((wo.alloc (tobj x)).drewN nq).heap.size = wo.heap.size + 1 := by simp
        have ht0' := (hb2'.cell (p := ⟨w.heap.size, 0, none⟩) hsz).trans ht0
        generalize (wo.alloc (tobj x)).drewN nq = w2 at hx2' hb2' hw2' ht0' ⊢
        clear ht0 ht2
        have hx0 := hx2'.cell (i := 0) rfl
        have hx1 := hx2'.cell (i := 1) rfl
        have hx2 := hx2'.cell (i := 2) rfl
        have hx3 := hx2'.cell (i := 3) rfl
        have hx4 := hx2'.cell (i := 4) rfl
        have hx5 := hx2'.cell (i := 5) rfl
        have hx6 := hx2'.cell (i := 6) rfl
        have Hown2 := Lib.hid (ownD_keep hown hb2')
        have Hown := Lib.hid hown; clear hown
        go_wp2_with (at_builtin; refine wpList_appD (d := sez) (D := scs) (l := S) (m := [(x.st, 0, decide (x.ses ≤ cl))]) rfl _ _ rfl Try.underlying42 Try.infoSes rfl (by omega) scs_length scs_one (ownD_keep Hown2.out ((Below.refl _ _).alloc (Nat.le_refl _) _)) rfl (RdD.one' (by omega) scs_length w2 46 (x.st, 0, decide (x.ses ≤ cl)) hw2') rfl (by unfold maxLen; simp only [List.length_singleton]; omega) (by simp only [List.length_singleton]; omega) (by simp only [World.size_alloc]; omega) ?_; intro v4 w4 hown4 hg4; obtain ⟨g, c4, rfl, hg1, hg2⟩ := ownD_addr hown4 (by simp); clear hx0 hx1 hx2 hx3 hx4 hx5 hx6 ht0')
        have hx4' : Bx w4 wo.heap.size 40 (tcs x) := (hg4.block wo.heap.size (by simp only [World.size_alloc]; omega) (fun e => by have := ownD_lt Hown.out wo.heap.size e.symm; omega)).trans (hx2'.alloc _)
        have hb4 : Below (w.heap.size + 1) (w.alloc (.cells #[.int .i64 cl, .bool fin, .slice a l.length c] 24)) w4 := ((hb.trans (hb2'.mono (by omega))).alloc (by omega) _).grown hg4 (by simp only [World.size_alloc]; omega) (ownD_block Hown.out)
        have hs4 := hg4.size
        simp only [World.size_alloc] at hs4
        obtain ⟨S2, hS2⟩ : ∃ S2, S2 = S ++ [(x.st, (0 : Int), decide (x.ses ≤ cl))] := ⟨_, rfl⟩
        obtain ⟨m, hm⟩ : ∃ m, m = S.length := ⟨_, rfl⟩
        have hl2 : S2.length = m + 1 := by rw [hS2, hm]; simp
        have hat2 : atD sez S2 m = (x.st, 0, decide (x.ses ≤ cl)) := by rw [hS2, hm]; exact atD_append_eq _ _
        have hO : w4.ownsRow (w.heap.size + 1) 46 3 (.slice (some ⟨g, 0, none⟩) (m + 1) c4) (m + 1) (flD scs S2) := by rw [hS2, hm]; exact hown4
        have Hfin : T.sess cl l (k + 1) = S2.set m ((atD sez S2 m).1, x.st + x.len - (atD sez S2 m).1, (atD sez S2 m).2.2) := by rw [hat2, HNew.out (.inl Hk0.out), hS2, hm]; simp
        have HSm2 := Lib.hid (show sm (atD sez S2 m).1 by rw [hat2]; exact sm3)
        rw [← hm]
        have hB := hb4
        have hmb : m ≤ 110 := by omega
        have hgb : w.heap.size + 1 ≤ g := hg1
        have hx := hx4'
        clear hb4 hx4' hown4 hg4 hat2 hS2 hm HNew HOld Hown Hown2 hb hb2' hx2' hSl
        generalize w4 = W at hO hB hx hg2 hs4 ⊢
        generalize c4 = cc at hO ⊢
        have hq := ownD_cells (d := sez) scs_length hO m (by omega)
        have hsy := HSm2.out
        generalize hy : atD sez S2 m = y at hq hsy Hfin
        obtain ⟨y1, y2, y3⟩ := y
        unfold sm at hsy
        simp only at hsy Hfin
        have HY : Hid (scs (y1, x.st + x.len - y1, y3) = (scs (atD sez S2 m)).set 1 (.int .i64 (x.st + x.len - y1))) := Lib.hid (by rw [hy]; rfl)
        clear hy
        have HFin := Lib.hid Hfin; clear Hfin
        have hq0 : W.cell? ⟨g, m * 3, none⟩ = some (.int .i64 y1) := hq 0 _ rfl
        have hq1 : W.cell? ⟨g, m * 3 + 1, none⟩ = some (.int .i64 y2) := hq 1 _ rfl
        have hfz := fun k => hO.frozenAt k
        have hgW : g < W.heap.size := World.block_lt_of_cell? W _ hq0
        have hx0 := hx.cell (i := 0) rfl
        have hx1 := hx.cell (i := 1) rfl
        have hx2 := hx.cell (i := 2) rfl
        have hx3 := hx.cell (i := 3) rfl
        have hx4 := hx.cell (i := 4) rfl
        have hx5 := hx.cell (i := 5) rfl
        have hx6 := hx.cell (i := 6) rfl
        have hix9 := fun w' => run_idxS Try.underlying42 Try.sizeSes (cap := cc) (rfl : some (⟨g, 0, none⟩ : Addr) = _) (by omega : m < m + 1) (m : Int) rfl w'
        simp only [Nat.zero_add] at hix9
        have hm1 : m ≤ 110 := by omega
        have hm2 : (m : Int) ≤ 110 := by omega
        have hm0 : (0 : Int) ≤ m := by omega
        have sm3' := sm3
        have sm4' := sm4
        unfold sm at sm3' sm4'
        have hO1 := ownD_fld (d := sez) scs_length hO m 1 (by omega) (by omega) (.int .i64 (x.st + x.len - y1)) (y1, x.st + x.len - y1, y3) HY.out
        have hB1 : Below (w.heap.size + 1) (w.alloc (.cells #[.int .i64 cl, .bool fin, .slice a l.length c] 24)) (W.setCell ⟨g, m * 3 + 1, none⟩ (.int .i64 (x.st + x.len - y1))) := hB.setCell hgb _
        have hbe := ((Below.refl _ (W.setCell ⟨g, m * 3 + 1, none⟩ (.int .i64 (x.st + x.len - y1)))).alloc (Nat.le_refl _) (tobj x)).drew
        have hO2 := ownD_keep hO1 hbe
        have hB2 := hB1.trans (hbe.mono (by have := hB1.size; simp only [World.size_alloc] at this; omega))
        clear hO1 hB1
        have HO2 := Lib.hid hO2
        have HB2 := Lib.hid hB2
        have HO := Lib.hid hO
        have HB := Lib.hid hB
        clear hO2 hB2 hbe hO hB hq
        first | go_region_with (go_at_call 38; refine (end_any x _ sm3 sm4).mono ?_; rintro e w9 ⟨rfl, rfl⟩) | fail
        all_goals
          go_wp2_with fail
          go_roundw
          case rel => exact ⟨k + 1, by omega, by go_num, by rw [HFin.out, List.length_set, hl2]; exact HO2.out, HB2.out⟩
          case measure => simp [intOf]; omega
      · have hkb : ((k : Int) == 0) = false := by rw [beq_eq_false_iff_ne]; omega
        obtain ⟨p, hp⟩ : ∃ p, k = p + 1 := ⟨k - 1, by omega⟩
        have hixp := fun w' => run_idxS Try.underlying22 Try.sizeTrack (cap := c) ha (by omega : p < l.length) ((k : Int) - 1) (by omega) w'
        have Ha := Lib.hid ha; clear ha
        have hp1 := (rd7 (HPrev.out p hp)).2.1
        have HSb1 := Lib.hid (HSb.out p hp)
        have hbl : b < wo.heap.size := World.block_lt_of_cell? wo _ hp1
        have Hp := Lib.hid hp; clear hp
        have hpw : IntKind.i64.wrap ((k : Int) - 1) = (k : Int) - 1 := IntWalk.i64_in _ (by omega)
        have Hk0 := Lib.hid hk0; clear hk0
        by_cases hd : (T.tr l p).ses = x.ses
        · have hdb : ((T.tr l p).ses != x.ses) = false := by rw [bne_eq_false_iff_eq]; exact hd
          have Hd := Lib.hid hd; clear hd
          obtain ⟨m, hm, hE⟩ := HOld.out (fun h => h.elim Hk0.out (fun h => h (by rw [HSb1.out]; exact Hd.out)))
          rw [hm] at hown
          obtain ⟨g, cc, rfl, hgb, hg2⟩ := ownD_addr hown (by omega)
          have HSm2 := Lib.hid (HSmA.out m (by omega))
          have Hm := Lib.hid hm
          have Hfin0 := Lib.hid hE
          have Hown := Lib.hid hown
          clear hm hE hown HNew HOld
          go_upto_region 5 with (fail)
          go_quiet (fail)
          have hx := Bx.new wo 40 (tcs x)
          have hx : Bx ((wo.alloc (tobj x)).drewN nq) wo.heap.size 40 (tcs x) := hx
          have hb2' : Below wo.heap.size wo ((wo.alloc (tobj x)).drewN nq) := Go.Proofs.Ytiioojlihapdaaa.Below.drewN ((Below.refl _ _).alloc (Nat.le_refl _) _) nq
          have hs4 : wo.heap.size + 1 ≤ ((wo.alloc (tobj x)).drewN nq).heap.size := by simp
          have hO := ownD_keep Hown.out hb2'
          have hB := hb.trans (hb2'.mono (by omega))
          clear ht0 ht2 hc0 hc1 hc2 hc3 hc4 hc5 hc6 hp1
          generalize (wo.alloc (tobj x)).drewN nq = W at hx hO hB hs4 ⊢
          clear hb2'
          have hl2 := Hm.out
          have hmb : m ≤ 110 := by omega
          have Hl2 := Lib.hid hl2
          have HO := Lib.hid hO; have HB := Lib.hid hB; clear hO hB hl2
          have hm0 : (0 : Int) ≤ m := by omega
          have hm2 : (m : Int) ≤ 110 := by omega
          go_upto_region 8 with (fail)
          clear hm0 hm2
          have hO := HO.out
          have hB := HB.out
          have hl2 := Hl2.out
          have Hfin := Hfin0.out
          obtain ⟨S2, rfl⟩ : ∃ S2, S2 = S := ⟨_, rfl⟩
          clear HO HB
          have hq := ownD_cells (d := sez) scs_length hO m (by omega)
          have hsy := HSm2.out
          generalize hy : atD sez S2 m = y at hq hsy Hfin
          obtain ⟨y1, y2, y3⟩ := y
          unfold sm at hsy
          simp only at hsy Hfin
          have HY : Hid (scs (y1, x.st + x.len - y1, y3) = (scs (atD sez S2 m)).set 1 (.int .i64 (x.st + x.len - y1))) := Lib.hid (by rw [hy]; rfl)
          clear hy
          have HFin := Lib.hid Hfin; clear Hfin
          have hq0 : W.cell? ⟨g, m * 3, none⟩ = some (.int .i64 y1) := hq 0 _ rfl
          have hq1 : W.cell? ⟨g, m * 3 + 1, none⟩ = some (.int .i64 y2) := hq 1 _ rfl
          have hfz := fun k => hO.frozenAt k
          have hgW : g < W.heap.size := World.block_lt_of_cell? W _ hq0
          have hx0 := hx.cell (i := 0) rfl
          have hx1 := hx.cell (i := 1) rfl
          have hx2 := hx.cell (i := 2) rfl
          have hx3 := hx.cell (i := 3) rfl
          have hx4 := hx.cell (i := 4) rfl
          have hx5 := hx.cell (i := 5) rfl
          have hx6 := hx.cell (i := 6) rfl
          have hix9 := fun w' => run_idxS Try.underlying42 Try.sizeSes (cap := cc) (rfl : some (⟨g, 0, none⟩ : Addr) = _) (by omega : m < m + 1) (m : Int) rfl w'
          simp only [Nat.zero_add] at hix9
          have hm1 : m ≤ 110 := by omega
          have hm2 : (m : Int) ≤ 110 := by omega
          have hm0 : (0 : Int) ≤ m := by omega
          have sm3' := sm3
          have sm4' := sm4
          unfold sm at sm3' sm4'
          have hO1 := ownD_fld (d := sez) scs_length hO m 1 (by omega) (by omega) (.int .i64 (x.st + x.len - y1)) (y1, x.st + x.len - y1, y3) HY.out
          have hB1 : Below (w.heap.size + 1) (w.alloc (.cells #[.int .i64 cl, .bool fin, .slice a l.length c] 24)) (W.setCell ⟨g, m * 3 + 1, none⟩ (.int .i64 (x.st + x.len - y1))) := hB.setCell hgb _
          have hbe := ((Below.refl _ (W.setCell ⟨g, m * 3 + 1, none⟩ (.int .i64 (x.st + x.len - y1)))).alloc (Nat.le_refl _) (tobj x)).drew
          have hO2 := ownD_keep hO1 hbe
          have hB2 := hB1.trans (hbe.mono (by have := hB1.size; simp only [World.size_alloc] at this; omega))
          clear hO1 hB1
          have HO2 := Lib.hid hO2
          have HB2 := Lib.hid hB2
          have HO := Lib.hid hO
          have HB := Lib.hid hB
          clear hO2 hB2 hbe hO hB hq
          first | go_region_with (go_at_call 38; refine (end_any x _ sm3 sm4).mono ?_; rintro e w9 ⟨rfl, rfl⟩) | fail
          all_goals
            go_wp2_with fail
            go_roundw
            case rel => exact ⟨k + 1, by omega, by go_num, by rw [HFin.out, List.length_set, hl2]; exact HO2.out, HB2.out⟩
            case measure => simp [intOf]; omega
        · have hdb : ((T.tr l p).ses != x.ses) = true := by rw [bne_iff_ne]; exact hd
          have Hd := Lib.hid hd; clear hd
          go_upto_region 5 with (fail)
          go_quiet (fail)
          clear hp1 hc0 hc1 hc2 hc3 hc4 hc5 hc6
          have hx2' : Bx ((wo.alloc (tobj x)).drewN nq) wo.heap.size 40 (tcs x) := Bx.new wo 40 (tcs x)
          have hb2' : Below wo.heap.size wo ((wo.alloc (tobj x)).drewN nq) := Go.Proofs.Ytiioojlihapdaaa.Below.drewN ((Below.refl _ _).alloc (Nat.le_refl _) _) nq
          have hw2' : ((wo.alloc (tobj x)).drewN nq).heap.size = wo.heap.size + 1 := by simp
          have ht0' := (hb2'.cell (p := ⟨w.heap.size, 0, none⟩) hsz).trans ht0
          generalize (wo.alloc (tobj x)).drewN nq = w2 at hx2' hb2' hw2' ht0' ⊢
          clear ht0 ht2
          have hx0 := hx2'.cell (i := 0) rfl
          have hx1 := hx2'.cell (i := 1) rfl
          have hx2 := hx2'.cell (i := 2) rfl
          have hx3 := hx2'.cell (i := 3) rfl
          have hx4 := hx2'.cell (i := 4) rfl
          have hx5 := hx2'.cell (i := 5) rfl
          have hx6 := hx2'.cell (i := 6) rfl
          have Hown2 := Lib.hid (ownD_keep hown hb2')
          have Hown := Lib.hid hown; clear hown
          go_wp2_with (at_builtin; refine wpList_appD (d := sez) (D := scs) (l := S) (m := [(x.st, 0, decide (x.ses ≤ cl))]) rfl _ _ rfl Try.underlying42 Try.infoSes rfl (by omega) scs_length scs_one (ownD_keep Hown2.out ((Below.refl _ _).alloc (Nat.le_refl _) _)) rfl (RdD.one' (by omega) scs_length w2 46 (x.st, 0, decide (x.ses ≤ cl)) hw2') rfl (by unfold maxLen; simp only [List.length_singleton]; omega) (by simp only [List.length_singleton]; omega) (by simp only [World.size_alloc]; omega) ?_; intro v4 w4 hown4 hg4; obtain ⟨g, c4, rfl, hg1, hg2⟩ := ownD_addr hown4 (by simp); clear hx0 hx1 hx2 hx3 hx4 hx5 hx6 ht0')
          have hx4' : Bx w4 wo.heap.size 40 (tcs x) := (hg4.block wo.heap.size (by simp only [World.size_alloc]; omega) (fun e => by have := ownD_lt Hown.out wo.heap.size e.symm; omega)).trans (hx2'.alloc _)
          have hb4 : Below (w.heap.size + 1) (w.alloc (.cells #[.int .i64 cl, .bool fin, .slice a l.length c] 24)) w4 := ((hb.trans (hb2'.mono (by omega))).alloc (by omega) _).grown hg4 (by simp only [World.size_alloc]; omega) (ownD_block Hown.out)
          have hs4 := hg4.size
          simp only [World.size_alloc] at hs4
          obtain ⟨S2, hS2⟩ : ∃ S2, S2 = S ++ [(x.st, (0 : Int), decide (x.ses ≤ cl))] := ⟨_, rfl⟩
          obtain ⟨m, hm⟩ : ∃ m, m = S.length := ⟨_, rfl⟩
          have hl2 : S2.length = m + 1 := by rw [hS2, hm]; simp
          have hat2 : atD sez S2 m = (x.st, 0, decide (x.ses ≤ cl)) := by rw [hS2, hm]; exact atD_append_eq _ _
          have hO : w4.ownsRow (w.heap.size + 1) 46 3 (.slice (some ⟨g, 0, none⟩) (m + 1) c4) (m + 1) (flD scs S2) := by rw [hS2, hm]; exact hown4
          have Hfin : T.sess cl l (k + 1) = S2.set m ((atD sez S2 m).1, x.st + x.len - (atD sez S2 m).1, (atD sez S2 m).2.2) := by rw [hat2, HNew.out (.inr (by rw [HSb1.out]; exact Hd.out)), hS2, hm]; simp
          have HSm2 := Lib.hid (show sm (atD sez S2 m).1 by rw [hat2]; exact sm3)
          rw [← hm]
          have hB := hb4
          have hmb : m ≤ 110 := by omega
          have hgb : w.heap.size + 1 ≤ g := hg1
          have hx := hx4'
          clear hb4 hx4' hown4 hg4 hat2 hS2 hm HNew HOld Hown Hown2 hb hb2' hx2' hSl
          generalize w4 = W at hO hB hx hg2 hs4 ⊢
          generalize c4 = cc at hO ⊢
          have hq := ownD_cells (d := sez) scs_length hO m (by omega)
          have hsy := HSm2.out
          generalize hy : atD sez S2 m = y at hq hsy Hfin
          obtain ⟨y1, y2, y3⟩ := y
          unfold sm at hsy
          simp only at hsy Hfin
          have HY : Hid (scs (y1, x.st + x.len - y1, y3) = (scs (atD sez S2 m)).set 1 (.int .i64 (x.st + x.len - y1))) := Lib.hid (by rw [hy]; rfl)
          clear hy
          have HFin := Lib.hid Hfin; clear Hfin
          have hq0 : W.cell? ⟨g, m * 3, none⟩ = some (.int .i64 y1) := hq 0 _ rfl
          have hq1 : W.cell? ⟨g, m * 3 + 1, none⟩ = some (.int .i64 y2) := hq 1 _ rfl
          have hfz := fun k => hO.frozenAt k
          have hgW : g < W.heap.size := World.block_lt_of_cell? W _ hq0
          have hx0 := hx.cell (i := 0) rfl
          have hx1 := hx.cell (i := 1) rfl
          have hx2 := hx.cell (i := 2) rfl
          have hx3 := hx.cell (i := 3) rfl
          have hx4 := hx.cell (i := 4) rfl
          have hx5 := hx.cell (i := 5) rfl
          have hx6 := hx.cell (i := 6) rfl
          have hix9 := fun w' => run_idxS Try.underlying42 Try.sizeSes (cap := cc) (rfl : some (⟨g, 0, none⟩ : Addr) = _) (by omega : m < m + 1) (m : Int) rfl w'
          simp only [Nat.zero_add] at hix9
          have hm1 : m ≤ 110 := by omega
          have hm2 : (m : Int) ≤ 110 := by omega
          have hm0 : (0 : Int) ≤ m := by omega
          have sm3' := sm3
          have sm4' := sm4
          unfold sm at sm3' sm4'
          have hO1 := ownD_fld (d := sez) scs_length hO m 1 (by omega) (by omega) (.int .i64 (x.st + x.len - y1)) (y1, x.st + x.len - y1, y3) HY.out
          have hB1 : Below (w.heap.size + 1) (w.alloc (.cells #[.int .i64 cl, .bool fin, .slice a l.length c] 24)) (W.setCell ⟨g, m * 3 + 1, none⟩ (.int .i64 (x.st + x.len - y1))) := hB.setCell hgb _
          have hbe := ((Below.refl _ (W.setCell ⟨g, m * 3 + 1, none⟩ (.int .i64 (x.st + x.len - y1)))).alloc (Nat.le_refl _) (tobj x)).drew
          have hO2 := ownD_keep hO1 hbe
          have hB2 := hB1.trans (hbe.mono (by have := hB1.size; simp only [World.size_alloc] at this; omega))
          clear hO1 hB1
          have HO2 := Lib.hid hO2
          have HB2 := Lib.hid hB2
          have HO := Lib.hid hO
          have HB := Lib.hid hB
          clear hO2 hB2 hbe hO hB hq
          first | go_region_with (go_at_call 38; refine (end_any x _ sm3 sm4).mono ?_; rintro e w9 ⟨rfl, rfl⟩) | fail
          all_goals
            go_wp2_with fail
            go_roundw
            case rel => exact ⟨k + 1, by omega, by go_num, by rw [HFin.out, List.length_set, hl2]; exact HO2.out, HB2.out⟩
            case measure => simp [intOf]; omega
    · obtain rfl : k = l.length := by omega
      go_wp2_with fail
      go_ret
      exact ⟨_, rfl, RdD.ofOwn scs_length hown, hb0⟩
end Go.Proofs.Ytiioojlihapdaaa
