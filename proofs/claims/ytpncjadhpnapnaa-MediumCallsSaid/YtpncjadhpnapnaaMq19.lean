/- Chapter 12: rows of ints in a row: what the loop of the reference's Scratch keeps in memory. -/
import Derived.Test.YtpncjadhpnapnaaMq18
import Derived.Test.YtpncjadhpnapnaaInr
import Derived.Test.YtpncjadhpnapnaaSeq
/- Chapter 12: the reference walked: New. -/
namespace Go.Proofs.Ytpncjadhpnapnaa.D12
open Go.RowKit Go.Maps C9
open D13 (RdI ixI is)
set_option linter.unusedVariables false

def iD (v : Value) : List Value := [v]
theorem Try.infoIs : (Try.prog.info? 30).map (fun i => (i.zero, i.size, i.bytes)) = some (some (.slice none 0 0), 1, 24) := by kernel_rfl
def RNewP (n kind en : Nat) (w : World) (e : Ending) (w' : World) : Prop := ∃ vL vS vD SS, e = .returned (.tuple #[rmv (medNew kind n en) vL vS vD, .int .i64 0]) ∧ RmF (fun k => w.heap.size ≤ k) w' vL vS vD (medNew kind n en) SS ∧ Below w.heap.size w w'
/-- the result's box filled -/
def NwF (b n : Nat) (k e : Int) (W : World) : Prop := ∃ g3 g5, Bx W b 59 [.int .i64 k, .int .i64 e, .slice (some ⟨g3, 0, none⟩) n n, .slice none 0 0, .slice (some ⟨g5, 0, none⟩) n n] ∧
  W.ownsRow (b + 1) 108 5 (.slice (some ⟨g3, 0, none⟩) n n) n (flD rsD (List.replicate n rz)) ∧ W.ownsRow (b + 1) 30 1 (.slice (some ⟨g5, 0, none⟩) n n) n (flD iD (List.replicate n (.slice none 0 0)))
def BoxM (b : Nat) (W : World) : Prop := ∃ c0 c1 c2 c3 c4, Bx W b 59 [c0, c1, c2, c3, c4]
structure NwR (b n : Nat) (k e : Int) (w W : World) : Prop where
  bl : b ≤ w.heap.size → Below b w W
  sz : w.heap.size ≤ W.heap.size
  o : ∀ j, j < w.heap.size → j ≠ b → W.heap[j]? = w.heap[j]?
  f : NwF b n k e w → NwF b n k e W
  cx : BoxM b w → BoxM b W
def NwC (w0 : World) (b : Nat) (W : World) : Prop := Below b w0 W ∧ b < W.heap.size ∧ BoxM b W
theorem NwR.refl (b n : Nat) (k e : Int) (w : World) : NwR b n k e w w := ⟨fun _ => Below.refl _ _, Nat.le_refl _, fun _ _ _ => rfl, id, id⟩
theorem own_at {w W : World} {base e sz n : Nat} {v : Value} {xs : List Value} (h : w.ownsRow base e sz v n xs) (hk : ∀ k, k < w.heap.size → base ≤ k → W.heap[k]? = w.heap[k]?) : W.ownsRow base e sz v n xs := own_agree h fun k h1 h2 => hk k h2 h1
theorem NwF.keep {b n : Nat} {k e : Int} {w W : World} (h : NwF b n k e w) (hb : Below w.heap.size w W) : NwF b n k e W := by
  obtain ⟨g3, g5, h1, h2, h3⟩ := h
  exact ⟨g3, g5, h1.call hb, ownD_keep h2 hb, ownD_keep h3 hb⟩
theorem NwR.call {b n : Nat} {k e : Int} {w W : World} (hb : Below w.heap.size w W) : NwR b n k e w W := ⟨fun h => hb.mono h, hb.size, fun j hj _ => hb.block j hj, fun h => h.keep hb, fun ⟨c0, c1, c2, c3, c4, h⟩ => ⟨c0, c1, c2, c3, c4, h.call hb⟩⟩
theorem NwR.own {b n m : Nat} {k e : Int} {w W : World} (h : NwR b n k e w W) {t sz : Nat} {v : Value} {xs : List Value} (ho : w.ownsRow (b + 1) t sz v m xs) : W.ownsRow (b + 1) t sz v m xs := own_at ho fun j hj h1 => h.o j hj (by omega)
theorem rnew_fin {n : Nat} {W : World} {v3 v5 : Value} {b base : Nat} (k e : Nat) (h3 : W.ownsRow b 108 5 v3 n (flD rsD (List.replicate n rz))) (h5 : W.ownsRow b 30 1 v5 n (flD iD (List.replicate n (.slice none 0 0)))) (hb : base ≤ b) :
    RmF (fun k => base ≤ k) W v3 (.slice none 0 0) v5 (medNew k n e) (List.replicate n rz) := fun W' hW => by
  have g3 := own_agree h3 fun k h1 h2 => hW.eq k h2 (by omega)
  have g5 := own_agree h5 fun k h1 h2 => hW.eq k h2 (by omega)
  have hat : ∀ i, i < n → atD rz (List.replicate n rz) i = rz := fun i hi => by simp [atD, hi]
  refine ⟨by simp [medNew, rz], RdD.ofOwn rsD_len (by rw [List.length_replicate]; exact g3), fun i hi => ?_, RdD.nil W', ?_⟩
  · rw [List.length_replicate] at hi
    rw [hat i hi]
    exact ⟨⟨[], RdD.nil W', .inl ⟨rfl, fun _ _ => rfl⟩⟩, [], Rd.nil _, .inl ⟨rfl, fun _ _ => rfl⟩⟩
  · have hn : (medNew k n e).n = n := by simp [Med.n, medNew]
    rw [hn]
    refine ⟨fun _ => .slice none 0 0, RdS.ofOwn (base := b) (e := 30) (fun _ => rfl) ?_, fun i hi => ?_⟩
    · have e0 : flD iD (List.replicate n (.slice none 0 0)) = (List.range n).flatMap fun _ => [Value.slice none 0 0] := by
        unfold flD
        rw [show List.replicate n (Value.slice none 0 0) = (List.range n).map fun _ => Value.slice none 0 0 from by simp [List.map_const'], List.flatMap_map]
        rfl
      rw [← e0]
      exact g5
    · have e : ∀ m, lostN [] m = [] := fun m => lostN_none (fun f => by
        have : ersK [] f 28 = [] := by simp [ersK, gon]
        rw [ers, this]; decide) m
      have e2 : lostS n ([] : List Sc) i = [] := by simp [lostS, lostP, lostL, e]
      show RdI _ _ (lostS n [] i)
      rw [e2]
      exact ⟨by simp, ⟨none, 0, 0, 0, rfl, by simp, fun i hi => by simp at hi⟩, fun i hi => by simp at hi⟩
def nwV (b n : Nat) (k e : Int) (i : Nat) (v : Value) (W : World) : Prop := match i with
  | 0 => v = .int .i64 k
  | 1 => v = .int .i64 e
  | 2 => v = .int .i64 (n : Nat)
  | 3 => ∃ g, v = .slice (some ⟨g, 0, none⟩) n n ∧ W.ownsRow (b + 1) 108 5 (.slice (some ⟨g, 0, none⟩) n n) n (flD rsD (List.replicate n rz))
  | 4 => v = .int .i64 (n : Nat)
  | 5 => ∃ g, v = .slice (some ⟨g, 0, none⟩) n n ∧ W.ownsRow (b + 1) 30 1 (.slice (some ⟨g, 0, none⟩) n n) n (flD iD (List.replicate n (.slice none 0 0)))
  | 6 => ∃ g3 g5, v = .agg #[.int .i64 k, .int .i64 e, .slice (some ⟨g3, 0, none⟩) n n, .slice none 0 0, .slice (some ⟨g5, 0, none⟩) n n] ∧ W.ownsRow (b + 1) 108 5 (.slice (some ⟨g3, 0, none⟩) n n) n (flD rsD (List.replicate n rz)) ∧ W.ownsRow (b + 1) 30 1 (.slice (some ⟨g5, 0, none⟩) n n) n (flD iD (List.replicate n (.slice none 0 0)))
  | 7 => NwF b n k e W
  | 8 => v = .int .i64 0
  | _ => True
theorem nwV_keep (b n : Nat) (k e : Int) (i : Nat) (v : Value) (W W' : World) (hR : (NwR b n k e) W W') (h : nwV b n k e i v W) : nwV b n k e i v W' := by
  by_cases h3 : i = 3
  · subst h3
    obtain ⟨g, h1, h2⟩ := h; exact ⟨g, h1, hR.own h2⟩
  by_cases h5 : i = 5
  · subst h5
    obtain ⟨g, h1, h2⟩ := h; exact ⟨g, h1, hR.own h2⟩
  by_cases h6 : i = 6
  · subst h6
    obtain ⟨g, g2, h1, h2, h3⟩ := h; exact ⟨g, g2, h1, hR.own h2, hR.own h3⟩
  by_cases h7 : i = 7
  · subst h7
    exact hR.f h
  unfold nwV at h ⊢
  split at h <;> first | exact h | exact absurd rfl h3 | exact absurd rfl h5 | exact absurd rfl h6 | exact absurd rfl h7
set_option maxRecDepth 100000 in
set_option maxHeartbeats 4000000 in
theorem rnew12 (k e : Int) (n : Nat) (hk : k = 1 ∨ k = 2) (s1 : 1 ≤ n) (s2 : n ≤ 4096) (e1 : 1 ≤ e) (e2 : e ≤ 1048576) (w : World) :
    Calls Try.prog 22 #[.int .i64 k, .int .i64 (n : Nat), .int .i64 e] w (RNewP n k.toNat e.toNat w) := by
  have hz := zeroRM
  obtain ⟨w1, hw1⟩ : ∃ w1, w1 = w.alloc (.cells #[.int .i64 0, .int .i64 0, .slice none 0 0, .slice none 0 0, .slice none 0 0] 59) := ⟨_, rfl⟩
  have hA := (Below.refl w.heap.size w).alloc (Nat.le_refl _) (.cells #[.int .i64 0, .int .i64 0, .slice none 0 0, .slice none 0 0, .slice none 0 0] 59)
  rw [← hw1] at hA
  have hBx : Bx w1 w.heap.size 59 [.int .i64 0, .int .i64 0, .slice none 0 0, .slice none 0 0, .slice none 0 0] := by rw [hw1]; exact Bx.new w _ _
  have HA := Lib.hid hA
  have HBX := Lib.hid hBx
  have HW := Lib.hid hw1
  clear hA hBx hw1
  have hkk : ((k : Int) != 1) = false ∨ ((k : Int) != 1) = true ∧ ((k : Int) != 2) = false := by rcases hk with rfl | rfl; exact .inl rfl; exact .inr ⟨rfl, rfl⟩
  rcases hk with rfl | rfl
  · go_enter Try.func22, Try.ntmps22
    go_upto_region 3 with (fail)
    rw [← HW.out]
    obtain ⟨b, hb⟩ : ∃ b, b = w.heap.size := ⟨_, rfl⟩
    rw [← hb]
    have hC0 : NwC w1 b w1.drew := ⟨(Below.refl b w1).drew, by rw [hb]; exact HBX.out.lt, _, _, _, _, _, by rw [hb]; exact HBX.out⟩
    have HB := Lib.hid hb
    clear hb
    refine wp_region_inr (by kernel_rfl) (NwR b n 1 e) (NwC w1 b) (nwV b n 1 e) (fun _ => false) (by kernel_rfl) (fun w w' hR hc => ⟨hc.1.trans (hR.bl (Nat.le_of_lt hc.2.1)), Nat.lt_of_lt_of_le hc.2.1 hR.sz, hR.cx hc.2.2⟩) (nwV_keep b n 1 e) (hC0) ⟨?_, ?_, ?_, ?_, ?_, ?_, ?_, ?_, ?_, trivial⟩ ?_
    · intro a W hc hsz hold hdep
      have o0 : a.tmps.getD 0 undef = .int .i64 1 := hold 0 (by kernel_rfl)
      clear hsz hold hdep
      refine stepR_do rfl (wanted_none rfl) ?_
      refine stepR_val (v := .int .i64 1) (NwR.refl _ _ _ _ _) rfl fun K hK => ?_
      go_simp
      exact hK
    · intro a W hc hsz hold hdep
      have o2 : a.tmps.getD 2 undef = .int .i64 e := hold 2 (by kernel_rfl)
      clear hsz hold hdep
      refine stepR_do rfl (wanted_none rfl) ?_
      refine stepR_val (v := .int .i64 e) (NwR.refl _ _ _ _ _) rfl fun K hK => ?_
      go_simp
      exact hK
    · intro a W hc hsz hold hdep
      have o1 : a.tmps.getD 1 undef = .int .i64 (n : Nat) := hold 1 (by kernel_rfl)
      clear hsz hold hdep
      refine stepR_do rfl (wanted_none rfl) ?_
      refine stepR_val (v := .int .i64 (n : Nat)) (NwR.refl _ _ _ _ _) rfl fun K hK => ?_
      go_simp
      exact hK
    · intro a W hc hsz hold hdep
      have d2 : a.tmps.getD 33 undef = .int .i64 (n : Nat) := hdep 2 (by kernel_rfl) rfl _ rfl
      clear hsz hold hdep
      refine stepR_do rfl (wanted_none rfl) ?_
      obtain ⟨i0, hi, hz0, hz1, hz2⟩ := info_parts Try.infoRS
      obtain ⟨W', hrun, r1, r2⟩ := run_make_full (P := Try.prog) (w := W) (b + 1) 56 108 i0 _ 5 Try.underlying56 hi hz0 hz1 .i64 .i64 n (by rw [hz2]; omega) (by unfold maxLen; omega) (by have := hc.2.1; omega)
      have hbW : Below W.heap.size W W' := (Below.refl _ _).grown r2 (Nat.le_refl _) (fun k hk => by cases hk)
      have e1 : (Value.agg (rsD rz).toArray).cells = (rsD rz).toArray := rfl
      rw [e1, made_flD rsD rz 5 n (by decide) rsD_len] at r1
      refine stepR_new (v := .slice (some ⟨W.heap.size, 0, none⟩) n n) (NwR.call hbW) ⟨_, rfl, r1⟩ fun K hK => ?_
      clear hc r1 r2
      unfold Oper.wp
      simp only [Array.getD_eq_getD_getElem?] at d2
      simp [execOp, d2, Act.eval, hrun, Result.andThen]
      exact hK
    · intro a W hc hsz hold hdep
      have o1 : a.tmps.getD 1 undef = .int .i64 (n : Nat) := hold 1 (by kernel_rfl)
      clear hsz hold hdep
      refine stepR_do rfl (wanted_none rfl) ?_
      refine stepR_val (v := .int .i64 (n : Nat)) (NwR.refl _ _ _ _ _) rfl fun K hK => ?_
      go_simp
      exact hK
    · intro a W hc hsz hold hdep
      have d4 : a.tmps.getD 35 undef = .int .i64 (n : Nat) := hdep 4 (by kernel_rfl) rfl _ rfl
      clear hsz hold hdep
      refine stepR_do rfl (wanted_none rfl) ?_
      obtain ⟨i0, hi, hz0, hz1, hz2⟩ := info_parts Try.infoIs
      obtain ⟨W', hrun, r1, r2⟩ := run_make_full (P := Try.prog) (w := W) (b + 1) 57 30 i0 _ 1 Try.underlying57 hi hz0 hz1 .i64 .i64 n (by rw [hz2]; omega) (by unfold maxLen; omega) (by have := hc.2.1; omega)
      have hbW : Below W.heap.size W W' := (Below.refl _ _).grown r2 (Nat.le_refl _) (fun k hk => by cases hk)
      have e1 : (Value.slice none 0 0).cells = (iD (.slice none 0 0)).toArray := rfl
      rw [e1, made_flD iD (.slice none 0 0) 1 n (by decide) (fun _ => rfl)] at r1
      refine stepR_new (v := .slice (some ⟨W.heap.size, 0, none⟩) n n) (NwR.call hbW) ⟨_, rfl, r1⟩ fun K hK => ?_
      clear hc r1 r2
      unfold Oper.wp
      simp only [Array.getD_eq_getD_getElem?] at d4
      simp [execOp, d4, Act.eval, hrun, Result.andThen]
      exact hK
    · intro a W hc hsz hold hdep
      have d0 : a.tmps.getD 31 undef = .int .i64 1 := hdep 0 (by kernel_rfl) rfl _ rfl
      have e0 : a.tmps[31]?.getD undef = .int .i64 1 := by rw [← Array.getD_eq_getD_getElem?]; exact d0
      have d1 : a.tmps.getD 32 undef = .int .i64 e := hdep 1 (by kernel_rfl) rfl _ rfl
      have e1 : a.tmps[32]?.getD undef = .int .i64 e := by rw [← Array.getD_eq_getD_getElem?]; exact d1
      have x3 := hdep 3 (by kernel_rfl) rfl _ rfl
      have x5 := hdep 5 (by kernel_rfl) rfl _ rfl
      clear hsz hold hdep
      refine stepR_do rfl (wanted_none rfl) ?_
      obtain ⟨g3, hg3, ho3⟩ := x3
      obtain ⟨g5, hg5, ho5⟩ := x5
      have y3 : a.tmps[34]?.getD undef = .slice (some ⟨g3, 0, none⟩) n n := by rw [← Array.getD_eq_getD_getElem?]; exact hg3
      have y5 : a.tmps[36]?.getD undef = .slice (some ⟨g5, 0, none⟩) n n := by rw [← Array.getD_eq_getD_getElem?]; exact hg5
      have hzm := zeroRM
      clear hc
      refine stepR_val (v := .agg #[.int .i64 1, .int .i64 e, .slice (some ⟨g3, 0, none⟩) n n, .slice none 0 0, .slice (some ⟨g5, 0, none⟩) n n]) (NwR.refl _ _ _ _ _) ⟨g3, g5, rfl, ho3, ho5⟩ fun K hK => ?_
      go_simp
      exact hK
    · intro a W hc hsz hold hdep
      have o6 : a.tmps.getD 6 undef = .pointer (some ⟨b, 0, none⟩) := hold 6 (by kernel_rfl)
      have x6 := hdep 6 (by kernel_rfl) rfl _ rfl
      clear hsz hold hdep
      refine stepR_do rfl (wanted_none rfl) ?_
      obtain ⟨g3, g5, hv, ho3, ho5⟩ := x6
      obtain ⟨hcb, hcl, c0, c1, c2, c3, c4, hbx⟩ := hc
      have hbs := ((((hbx.set 0 (.int .i64 1)).set 1 (.int .i64 e)).set 2 (.slice (some ⟨g3, 0, none⟩) n n)).set 3 (.slice none 0 0)).set 4 (.slice (some ⟨g5, 0, none⟩) n n)
      have hfar : ∀ j, j ≠ b → (((((W.setCell ⟨b, 0, none⟩ (.int .i64 1)).setCell ⟨b, 1, none⟩ (.int .i64 e)).setCell ⟨b, 2, none⟩ (.slice (some ⟨g3, 0, none⟩) n n)).setCell ⟨b, 3, none⟩ (.slice none 0 0)).setCell ⟨b, 4, none⟩ (.slice (some ⟨g5, 0, none⟩) n n)).heap[j]? = W.heap[j]? := fun j hj =>
        (Below.heap_setCell _ ⟨b, 4, none⟩ _ j hj).trans ((Below.heap_setCell _ ⟨b, 3, none⟩ _ j hj).trans ((Below.heap_setCell _ ⟨b, 2, none⟩ _ j hj).trans ((Below.heap_setCell _ ⟨b, 1, none⟩ _ j hj).trans (Below.heap_setCell _ ⟨b, 0, none⟩ _ j hj))))
      have hF : NwF b n 1 e (((((W.setCell ⟨b, 0, none⟩ (.int .i64 1)).setCell ⟨b, 1, none⟩ (.int .i64 e)).setCell ⟨b, 2, none⟩ (.slice (some ⟨g3, 0, none⟩) n n)).setCell ⟨b, 3, none⟩ (.slice none 0 0)).setCell ⟨b, 4, none⟩ (.slice (some ⟨g5, 0, none⟩) n n)) :=
        ⟨g3, g5, hbs, own_at ho3 fun j hj h1 => hfar j (by omega), own_at ho5 fun j hj h1 => hfar j (by omega)⟩
      have hbf := hbx.free
      have y37 : a.tmps[37]?.getD undef = .agg #[.int .i64 1, .int .i64 e, .slice (some ⟨g3, 0, none⟩) n n, .slice none 0 0, .slice (some ⟨g5, 0, none⟩) n n] := by rw [← Array.getD_eq_getD_getElem?]; exact hv
      have z0 := hbx.cell (i := 0) rfl
      have z1 := hbx.cell (i := 1) rfl
      have z2 := hbx.cell (i := 2) rfl
      have z3 := hbx.cell (i := 3) rfl
      have z4 := hbx.cell (i := 4) rfl
      have hR : NwR b n 1 e W (((((W.setCell ⟨b, 0, none⟩ (.int .i64 1)).setCell ⟨b, 1, none⟩ (.int .i64 e)).setCell ⟨b, 2, none⟩ (.slice (some ⟨g3, 0, none⟩) n n)).setCell ⟨b, 3, none⟩ (.slice none 0 0)).setCell ⟨b, 4, none⟩ (.slice (some ⟨g5, 0, none⟩) n n)) :=
        ⟨fun _ => below5 (Below.refl b W) (Nat.le_refl _) 0 1 2 3 4 _ _ _ _ _, by simp, fun j _ hj => hfar j hj, fun _ => hF, fun _ => ⟨_, _, _, _, _, hbs⟩⟩
      refine stepR_new (v := undef) hR hF fun K hK => ?_
      clear hR hF hfar hbs hbx ho3 ho5 hcb
      go_simp
      exact hK
    · intro a W hc hsz hold hdep
      clear hsz hold hdep
      refine stepR_do rfl (wanted_none rfl) ?_
      refine stepR_val (v := .int .i64 0) (NwR.refl _ _ _ _ _) rfl fun K hK => ?_
      go_simp
      exact hK
    · intro a W hC hd hsz hold hval
      have d6 : a.tmps.getD 6 undef = .pointer (some ⟨b, 0, none⟩) := hold 6 (by kernel_rfl)
      have d7 : a.tmps.getD 7 undef = .int .i64 0 := hval 8 _ rfl rfl
      clear hold
      obtain ⟨tm, df⟩ := a
      replace hd : df = [] := hd
      replace hsz : tm.size = 38 := hsz
      replace d6 : tm.getD 6 undef = .pointer (some ⟨b, 0, none⟩) := d6
      replace d7 : tm.getD 7 undef = .int .i64 0 := d7
      subst hd
      have e : tm = List.toArray (tm.getD 0 undef :: tm.getD 1 undef :: tm.getD 2 undef :: tm.getD 3 undef :: tm.getD 4 undef :: tm.getD 5 undef :: tm.getD 6 undef :: tm.getD 7 undef :: tm.getD 8 undef :: tm.getD 9 undef :: tm.getD 10 undef :: tm.getD 11 undef :: tm.getD 12 undef :: tm.getD 13 undef :: tm.getD 14 undef :: tm.getD 15 undef :: tm.getD 16 undef :: tm.getD 17 undef :: tm.getD 18 undef :: tm.getD 19 undef :: tm.getD 20 undef :: tm.getD 21 undef :: tm.getD 22 undef :: tm.getD 23 undef :: tm.getD 24 undef :: tm.getD 25 undef :: tm.getD 26 undef :: tm.getD 27 undef :: tm.getD 28 undef :: tm.getD 29 undef :: tm.getD 30 undef :: tm.getD 31 undef :: tm.getD 32 undef :: tm.getD 33 undef :: tm.getD 34 undef :: tm.getD 35 undef :: tm.getD 36 undef :: tm.getD 37 undef :: []) := arr_eq tm 38 hsz
      rw [d6, d7] at e
      clear d6 d7 hsz
      generalize tm.getD 0 undef = v0 at e
      generalize tm.getD 1 undef = v1 at e
      generalize tm.getD 2 undef = v2 at e
      generalize tm.getD 3 undef = v3 at e
      generalize tm.getD 4 undef = v4 at e
      generalize tm.getD 5 undef = v5 at e
      generalize tm.getD 8 undef = v8 at e
      generalize tm.getD 9 undef = v9 at e
      generalize tm.getD 10 undef = v10 at e
      generalize tm.getD 11 undef = v11 at e
      generalize tm.getD 12 undef = v12 at e
      generalize tm.getD 13 undef = v13 at e
      generalize tm.getD 14 undef = v14 at e
      generalize tm.getD 15 undef = v15 at e
      generalize tm.getD 16 undef = v16 at e
      generalize tm.getD 17 undef = v17 at e
      generalize tm.getD 18 undef = v18 at e
      generalize tm.getD 19 undef = v19 at e
      generalize tm.getD 20 undef = v20 at e
      generalize tm.getD 21 undef = v21 at e
      generalize tm.getD 22 undef = v22 at e
      generalize tm.getD 23 undef = v23 at e
      generalize tm.getD 24 undef = v24 at e
      generalize tm.getD 25 undef = v25 at e
      generalize tm.getD 26 undef = v26 at e
      generalize tm.getD 27 undef = v27 at e
      generalize tm.getD 28 undef = v28 at e
      generalize tm.getD 29 undef = v29 at e
      generalize tm.getD 30 undef = v30 at e
      generalize tm.getD 31 undef = v31 at e
      generalize tm.getD 32 undef = v32 at e
      generalize tm.getD 33 undef = v33 at e
      generalize tm.getD 34 undef = v34 at e
      generalize tm.getD 35 undef = v35 at e
      generalize tm.getD 36 undef = v36 at e
      generalize tm.getD 37 undef = v37 at e
      subst e
      have hF : NwF b n 1 e W := hval 7 _ rfl rfl
      clear hval
      obtain ⟨g3, g5, hbx, ho3, ho5⟩ := hF
      have q0 := hbx.cell (i := 0) rfl
      have q1 := hbx.cell (i := 1) rfl
      have q2 := hbx.cell (i := 2) rfl
      have q3 := hbx.cell (i := 3) rfl
      have q4 := hbx.cell (i := 4) rfl
      have HO3 := Lib.hid ho3
      have HO5 := Lib.hid ho5
      have HCW := Lib.hid hC.1
      clear ho3 ho5 hbx hC
      go_wp2_with fail
      refine bodyPost_ret (v := .tuple #[rmv (medNew 1 n e.toNat) (.slice (some ⟨g3, 0, none⟩) n n) (.slice none 0 0) (.slice (some ⟨g5, 0, none⟩) n n), .int .i64 0]) (by simp [rmv, medNew, results, Try.results22, go_sem, q0, q1, q2, q3, q4]; omega) rfl ?_
      exact ⟨_, _, _, _, rfl, rnew_fin 1 e.toNat HO3.out HO5.out (by have := HB.out; omega), HA.out.trans (HCW.out.mono (by have := HB.out; have := HA.out.size; omega))⟩
  · go_enter Try.func22, Try.ntmps22
    go_upto_region 3 with (fail)
    rw [← HW.out]
    obtain ⟨b, hb⟩ : ∃ b, b = w.heap.size := ⟨_, rfl⟩
    rw [← hb]
    have hC0 : NwC w1 b w1.drew := ⟨(Below.refl b w1).drew, by rw [hb]; exact HBX.out.lt, _, _, _, _, _, by rw [hb]; exact HBX.out⟩
    have HB := Lib.hid hb
    clear hb
    refine wp_region_inr (by kernel_rfl) (NwR b n 2 e) (NwC w1 b) (nwV b n 2 e) (fun _ => false) (by kernel_rfl) (fun w w' hR hc => ⟨hc.1.trans (hR.bl (Nat.le_of_lt hc.2.1)), Nat.lt_of_lt_of_le hc.2.1 hR.sz, hR.cx hc.2.2⟩) (nwV_keep b n 2 e) (hC0) ⟨?_, ?_, ?_, ?_, ?_, ?_, ?_, ?_, ?_, trivial⟩ ?_
    · intro a W hc hsz hold hdep
      have o0 : a.tmps.getD 0 undef = .int .i64 2 := hold 0 (by kernel_rfl)
      clear hsz hold hdep
      refine stepR_do rfl (wanted_none rfl) ?_
      refine stepR_val (v := .int .i64 2) (NwR.refl _ _ _ _ _) rfl fun K hK => ?_
      go_simp
      exact hK
    · intro a W hc hsz hold hdep
      have o2 : a.tmps.getD 2 undef = .int .i64 e := hold 2 (by kernel_rfl)
      clear hsz hold hdep
      refine stepR_do rfl (wanted_none rfl) ?_
      refine stepR_val (v := .int .i64 e) (NwR.refl _ _ _ _ _) rfl fun K hK => ?_
      go_simp
      exact hK
    · intro a W hc hsz hold hdep
      have o1 : a.tmps.getD 1 undef = .int .i64 (n : Nat) := hold 1 (by kernel_rfl)
      clear hsz hold hdep
      refine stepR_do rfl (wanted_none rfl) ?_
      refine stepR_val (v := .int .i64 (n : Nat)) (NwR.refl _ _ _ _ _) rfl fun K hK => ?_
      go_simp
      exact hK
    · intro a W hc hsz hold hdep
      have d2 : a.tmps.getD 33 undef = .int .i64 (n : Nat) := hdep 2 (by kernel_rfl) rfl _ rfl
      clear hsz hold hdep
      refine stepR_do rfl (wanted_none rfl) ?_
      obtain ⟨i0, hi, hz0, hz1, hz2⟩ := info_parts Try.infoRS
      obtain ⟨W', hrun, r1, r2⟩ := run_make_full (P := Try.prog) (w := W) (b + 1) 56 108 i0 _ 5 Try.underlying56 hi hz0 hz1 .i64 .i64 n (by rw [hz2]; omega) (by unfold maxLen; omega) (by have := hc.2.1; omega)
      have hbW : Below W.heap.size W W' := (Below.refl _ _).grown r2 (Nat.le_refl _) (fun k hk => by cases hk)
      have e1 : (Value.agg (rsD rz).toArray).cells = (rsD rz).toArray := rfl
      rw [e1, made_flD rsD rz 5 n (by decide) rsD_len] at r1
      refine stepR_new (v := .slice (some ⟨W.heap.size, 0, none⟩) n n) (NwR.call hbW) ⟨_, rfl, r1⟩ fun K hK => ?_
      clear hc r1 r2
      unfold Oper.wp
      simp only [Array.getD_eq_getD_getElem?] at d2
      simp [execOp, d2, Act.eval, hrun, Result.andThen]
      exact hK
    · intro a W hc hsz hold hdep
      have o1 : a.tmps.getD 1 undef = .int .i64 (n : Nat) := hold 1 (by kernel_rfl)
      clear hsz hold hdep
      refine stepR_do rfl (wanted_none rfl) ?_
      refine stepR_val (v := .int .i64 (n : Nat)) (NwR.refl _ _ _ _ _) rfl fun K hK => ?_
      go_simp
      exact hK
    · intro a W hc hsz hold hdep
      have d4 : a.tmps.getD 35 undef = .int .i64 (n : Nat) := hdep 4 (by kernel_rfl) rfl _ rfl
      clear hsz hold hdep
      refine stepR_do rfl (wanted_none rfl) ?_
      obtain ⟨i0, hi, hz0, hz1, hz2⟩ := info_parts Try.infoIs
      obtain ⟨W', hrun, r1, r2⟩ := run_make_full (P := Try.prog) (w := W) (b + 1) 57 30 i0 _ 1 Try.underlying57 hi hz0 hz1 .i64 .i64 n (by rw [hz2]; omega) (by unfold maxLen; omega) (by have := hc.2.1; omega)
      have hbW : Below W.heap.size W W' := (Below.refl _ _).grown r2 (Nat.le_refl _) (fun k hk => by cases hk)
      have e1 : (Value.slice none 0 0).cells = (iD (.slice none 0 0)).toArray := rfl
      rw [e1, made_flD iD (.slice none 0 0) 1 n (by decide) (fun _ => rfl)] at r1
      refine stepR_new (v := .slice (some ⟨W.heap.size, 0, none⟩) n n) (NwR.call hbW) ⟨_, rfl, r1⟩ fun K hK => ?_
      clear hc r1 r2
      unfold Oper.wp
      simp only [Array.getD_eq_getD_getElem?] at d4
      simp [execOp, d4, Act.eval, hrun, Result.andThen]
      exact hK
    · intro a W hc hsz hold hdep
      have d0 : a.tmps.getD 31 undef = .int .i64 2 := hdep 0 (by kernel_rfl) rfl _ rfl
      have e0 : a.tmps[31]?.getD undef = .int .i64 2 := by rw [← Array.getD_eq_getD_getElem?]; exact d0
      have d1 : a.tmps.getD 32 undef = .int .i64 e := hdep 1 (by kernel_rfl) rfl _ rfl
      have e1 : a.tmps[32]?.getD undef = .int .i64 e := by rw [← Array.getD_eq_getD_getElem?]; exact d1
      have x3 := hdep 3 (by kernel_rfl) rfl _ rfl
      have x5 := hdep 5 (by kernel_rfl) rfl _ rfl
      clear hsz hold hdep
      refine stepR_do rfl (wanted_none rfl) ?_
      obtain ⟨g3, hg3, ho3⟩ := x3
      obtain ⟨g5, hg5, ho5⟩ := x5
      have y3 : a.tmps[34]?.getD undef = .slice (some ⟨g3, 0, none⟩) n n := by rw [← Array.getD_eq_getD_getElem?]; exact hg3
      have y5 : a.tmps[36]?.getD undef = .slice (some ⟨g5, 0, none⟩) n n := by rw [← Array.getD_eq_getD_getElem?]; exact hg5
      have hzm := zeroRM
      clear hc
      refine stepR_val (v := .agg #[.int .i64 2, .int .i64 e, .slice (some ⟨g3, 0, none⟩) n n, .slice none 0 0, .slice (some ⟨g5, 0, none⟩) n n]) (NwR.refl _ _ _ _ _) ⟨g3, g5, rfl, ho3, ho5⟩ fun K hK => ?_
      go_simp
      exact hK
    · intro a W hc hsz hold hdep
      have o6 : a.tmps.getD 6 undef = .pointer (some ⟨b, 0, none⟩) := hold 6 (by kernel_rfl)
      have x6 := hdep 6 (by kernel_rfl) rfl _ rfl
      clear hsz hold hdep
      refine stepR_do rfl (wanted_none rfl) ?_
      obtain ⟨g3, g5, hv, ho3, ho5⟩ := x6
      obtain ⟨hcb, hcl, c0, c1, c2, c3, c4, hbx⟩ := hc
      have hbs := ((((hbx.set 0 (.int .i64 2)).set 1 (.int .i64 e)).set 2 (.slice (some ⟨g3, 0, none⟩) n n)).set 3 (.slice none 0 0)).set 4 (.slice (some ⟨g5, 0, none⟩) n n)
      have hfar : ∀ j, j ≠ b → (((((W.setCell ⟨b, 0, none⟩ (.int .i64 2)).setCell ⟨b, 1, none⟩ (.int .i64 e)).setCell ⟨b, 2, none⟩ (.slice (some ⟨g3, 0, none⟩) n n)).setCell ⟨b, 3, none⟩ (.slice none 0 0)).setCell ⟨b, 4, none⟩ (.slice (some ⟨g5, 0, none⟩) n n)).heap[j]? = W.heap[j]? := fun j hj =>
        (Below.heap_setCell _ ⟨b, 4, none⟩ _ j hj).trans ((Below.heap_setCell _ ⟨b, 3, none⟩ _ j hj).trans ((Below.heap_setCell _ ⟨b, 2, none⟩ _ j hj).trans ((Below.heap_setCell _ ⟨b, 1, none⟩ _ j hj).trans (Below.heap_setCell _ ⟨b, 0, none⟩ _ j hj))))
      have hF : NwF b n 2 e (((((W.setCell ⟨b, 0, none⟩ (.int .i64 2)).setCell ⟨b, 1, none⟩ (.int .i64 e)).setCell ⟨b, 2, none⟩ (.slice (some ⟨g3, 0, none⟩) n n)).setCell ⟨b, 3, none⟩ (.slice none 0 0)).setCell ⟨b, 4, none⟩ (.slice (some ⟨g5, 0, none⟩) n n)) :=
        ⟨g3, g5, hbs, own_at ho3 fun j hj h1 => hfar j (by omega), own_at ho5 fun j hj h1 => hfar j (by omega)⟩
      have hbf := hbx.free
      have y37 : a.tmps[37]?.getD undef = .agg #[.int .i64 2, .int .i64 e, .slice (some ⟨g3, 0, none⟩) n n, .slice none 0 0, .slice (some ⟨g5, 0, none⟩) n n] := by rw [← Array.getD_eq_getD_getElem?]; exact hv
      have z0 := hbx.cell (i := 0) rfl
      have z1 := hbx.cell (i := 1) rfl
      have z2 := hbx.cell (i := 2) rfl
      have z3 := hbx.cell (i := 3) rfl
      have z4 := hbx.cell (i := 4) rfl
      have hR : NwR b n 2 e W (((((W.setCell ⟨b, 0, none⟩ (.int .i64 2)).setCell ⟨b, 1, none⟩ (.int .i64 e)).setCell ⟨b, 2, none⟩ (.slice (some ⟨g3, 0, none⟩) n n)).setCell ⟨b, 3, none⟩ (.slice none 0 0)).setCell ⟨b, 4, none⟩ (.slice (some ⟨g5, 0, none⟩) n n)) :=
        ⟨fun _ => below5 (Below.refl b W) (Nat.le_refl _) 0 1 2 3 4 _ _ _ _ _, by simp, fun j _ hj => hfar j hj, fun _ => hF, fun _ => ⟨_, _, _, _, _, hbs⟩⟩
      refine stepR_new (v := undef) hR hF fun K hK => ?_
      clear hR hF hfar hbs hbx ho3 ho5 hcb
      go_simp
      exact hK
    · intro a W hc hsz hold hdep
      clear hsz hold hdep
      refine stepR_do rfl (wanted_none rfl) ?_
      refine stepR_val (v := .int .i64 0) (NwR.refl _ _ _ _ _) rfl fun K hK => ?_
      go_simp
      exact hK
    · intro a W hC hd hsz hold hval
      have d6 : a.tmps.getD 6 undef = .pointer (some ⟨b, 0, none⟩) := hold 6 (by kernel_rfl)
      have d7 : a.tmps.getD 7 undef = .int .i64 0 := hval 8 _ rfl rfl
      clear hold
      obtain ⟨tm, df⟩ := a
      replace hd : df = [] := hd
      replace hsz : tm.size = 38 := hsz
      replace d6 : tm.getD 6 undef = .pointer (some ⟨b, 0, none⟩) := d6
      replace d7 : tm.getD 7 undef = .int .i64 0 := d7
      subst hd
      have e : tm = List.toArray (tm.getD 0 undef :: tm.getD 1 undef :: tm.getD 2 undef :: tm.getD 3 undef :: tm.getD 4 undef :: tm.getD 5 undef :: tm.getD 6 undef :: tm.getD 7 undef :: tm.getD 8 undef :: tm.getD 9 undef :: tm.getD 10 undef :: tm.getD 11 undef :: tm.getD 12 undef :: tm.getD 13 undef :: tm.getD 14 undef :: tm.getD 15 undef :: tm.getD 16 undef :: tm.getD 17 undef :: tm.getD 18 undef :: tm.getD 19 undef :: tm.getD 20 undef :: tm.getD 21 undef :: tm.getD 22 undef :: tm.getD 23 undef :: tm.getD 24 undef :: tm.getD 25 undef :: tm.getD 26 undef :: tm.getD 27 undef :: tm.getD 28 undef :: tm.getD 29 undef :: tm.getD 30 undef :: tm.getD 31 undef :: tm.getD 32 undef :: tm.getD 33 undef :: tm.getD 34 undef :: tm.getD 35 undef :: tm.getD 36 undef :: tm.getD 37 undef :: []) := arr_eq tm 38 hsz
      rw [d6, d7] at e
      clear d6 d7 hsz
      generalize tm.getD 0 undef = v0 at e
      generalize tm.getD 1 undef = v1 at e
      generalize tm.getD 2 undef = v2 at e
      generalize tm.getD 3 undef = v3 at e
      generalize tm.getD 4 undef = v4 at e
      generalize tm.getD 5 undef = v5 at e
      generalize tm.getD 8 undef = v8 at e
      generalize tm.getD 9 undef = v9 at e
      generalize tm.getD 10 undef = v10 at e
      generalize tm.getD 11 undef = v11 at e
      generalize tm.getD 12 undef = v12 at e
      generalize tm.getD 13 undef = v13 at e
      generalize tm.getD 14 undef = v14 at e
      generalize tm.getD 15 undef = v15 at e
      generalize tm.getD 16 undef = v16 at e
      generalize tm.getD 17 undef = v17 at e
      generalize tm.getD 18 undef = v18 at e
      generalize tm.getD 19 undef = v19 at e
      generalize tm.getD 20 undef = v20 at e
      generalize tm.getD 21 undef = v21 at e
      generalize tm.getD 22 undef = v22 at e
      generalize tm.getD 23 undef = v23 at e
      generalize tm.getD 24 undef = v24 at e
      generalize tm.getD 25 undef = v25 at e
      generalize tm.getD 26 undef = v26 at e
      generalize tm.getD 27 undef = v27 at e
      generalize tm.getD 28 undef = v28 at e
      generalize tm.getD 29 undef = v29 at e
      generalize tm.getD 30 undef = v30 at e
      generalize tm.getD 31 undef = v31 at e
      generalize tm.getD 32 undef = v32 at e
      generalize tm.getD 33 undef = v33 at e
      generalize tm.getD 34 undef = v34 at e
      generalize tm.getD 35 undef = v35 at e
      generalize tm.getD 36 undef = v36 at e
      generalize tm.getD 37 undef = v37 at e
      subst e
      have hF : NwF b n 2 e W := hval 7 _ rfl rfl
      clear hval
      obtain ⟨g3, g5, hbx, ho3, ho5⟩ := hF
      have q0 := hbx.cell (i := 0) rfl
      have q1 := hbx.cell (i := 1) rfl
      have q2 := hbx.cell (i := 2) rfl
      have q3 := hbx.cell (i := 3) rfl
      have q4 := hbx.cell (i := 4) rfl
      have HO3 := Lib.hid ho3
      have HO5 := Lib.hid ho5
      have HCW := Lib.hid hC.1
      clear ho3 ho5 hbx hC
      go_wp2_with fail
      refine bodyPost_ret (v := .tuple #[rmv (medNew 2 n e.toNat) (.slice (some ⟨g3, 0, none⟩) n n) (.slice none 0 0) (.slice (some ⟨g5, 0, none⟩) n n), .int .i64 0]) (by simp [rmv, medNew, results, Try.results22, go_sem, q0, q1, q2, q3, q4]; omega) rfl ?_
      exact ⟨_, _, _, _, rfl, rnew_fin 2 e.toNat HO3.out HO5.out (by have := HB.out; omega), HA.out.trans (HCW.out.mono (by have := HB.out; have := HA.out.size; omega))⟩
theorem rnew12_bad (k s e : Int) (h : ¬ newOk k s e) (w : World) :
    Calls Try.prog 22 #[.int .i64 k, .int .i64 s, .int .i64 e] w fun e w' => e = .returned (.tuple #[.agg #[.int .i64 0, .int .i64 0, .slice none 0 0, .slice none 0 0, .slice none 0 0], .int .i64 1]) ∧ Below w.heap.size w w' := by
  have hz := zeroRM
  obtain ⟨w1, hw1⟩ : ∃ w1, w1 = w.alloc (.cells #[.int .i64 0, .int .i64 0, .slice none 0 0, .slice none 0 0, .slice none 0 0] 59) := ⟨_, rfl⟩
  have hA := (Below.refl w.heap.size w).alloc (Nat.le_refl _) (.cells #[.int .i64 0, .int .i64 0, .slice none 0 0, .slice none 0 0, .slice none 0 0] 59)
  have hBx : Bx (w.alloc (.cells #[.int .i64 0, .int .i64 0, .slice none 0 0, .slice none 0 0, .slice none 0 0] 59)) w.heap.size 59 [.int .i64 0, .int .i64 0, .slice none 0 0, .slice none 0 0, .slice none 0 0] := Bx.new w _ _
  have HA := Lib.hid hA
  have q0 := hBx.cell (i := 0) rfl
  have q1 := hBx.cell (i := 1) rfl
  have q2 := hBx.cell (i := 2) rfl
  have q3 := hBx.cell (i := 3) rfl
  have q4 := hBx.cell (i := 4) rfl
  clear hA hBx hw1
  unfold newOk at h
  have hc : (k ≠ 1 ∧ k ≠ 2) ∨ (k = 1 ∧ ¬ ((1 ≤ s ∧ s ≤ 4096) ∧ 1 ≤ e ∧ e ≤ 1048576)) ∨ (k = 2 ∧ ¬ ((1 ≤ s ∧ s ≤ 4096) ∧ 1 ≤ e ∧ e ≤ 1048576)) := by omega
  have hd : ¬ ((1 ≤ s ∧ s ≤ 4096) ∧ 1 ≤ e ∧ e ≤ 1048576) → s < 1 ∨ (1 ≤ s ∧ 4096 < s) ∨ ((1 ≤ s ∧ s ≤ 4096) ∧ e < 1) ∨ ((1 ≤ s ∧ s ≤ 4096) ∧ 1 ≤ e ∧ 1048576 < e) := by omega
  clear h
  rcases hc with ⟨h1, h2⟩ | ⟨rfl, h3⟩ | ⟨rfl, h3⟩
  · clear hd
    have b1 : (k != 1) = true := by rw [bne_iff_ne]; exact h1
    have b2 : (k != 2) = true := by rw [bne_iff_ne]; exact h2
    go_enter Try.func22, Try.ntmps22
    go_wp2_with fail
    refine bodyPost_ret (v := .tuple #[.agg #[.int .i64 0, .int .i64 0, .slice none 0 0, .slice none 0 0, .slice none 0 0], .int .i64 1]) (by simp [results, Try.results22, go_sem, q0, q1, q2, q3, q4]) rfl ⟨rfl, HA.out⟩
  all_goals
    rcases hd h3 with h4 | ⟨h4, h5⟩ | ⟨⟨h4, h5⟩, h6⟩ | ⟨⟨h4, h5⟩, h6, h7⟩
    all_goals
      clear hd h3
      go_enter Try.func22, Try.ntmps22
      go_wp2_with fail
      refine bodyPost_ret (v := .tuple #[.agg #[.int .i64 0, .int .i64 0, .slice none 0 0, .slice none 0 0, .slice none 0 0], .int .i64 1]) (by simp [results, Try.results22, go_sem, q0, q1, q2, q3, q4]) rfl ⟨rfl, HA.out⟩
end Go.Proofs.Ytpncjadhpnapnaa.D12
namespace Go.Proofs.Ytpncjadhpnapnaa.D12
open Go.RowKit Go.Maps C9
open D13 (RdI ixI is)
set_option linter.unusedVariables false

def vnil : Value := .slice none 0 0
/-- block 'g' holds the slices 'vals', each an own row of ints from block 'B' on: 'T i' -/
structure GrR (B g : Nat) (vals : List Value) (T : Nat → List Int) (W : World) : Prop where
  box : Bx W g 30 vals
  row : ∀ i, i < vals.length → W.ownsRow B 3 1 (atD vnil vals i) (T i).length (is (T i))
  sep : ∀ i j, i < vals.length → j < vals.length → i ≠ j → ∀ k, (atD vnil vals i).ownBlock = some k → (atD vnil vals j).ownBlock ≠ some k
  gb : g < B
  sz : B ≤ W.heap.size
/-- what the appends and stores leave: all blocks below 'B' but 'g' -/
structure Lo (B g : Nat) (w W : World) : Prop where
  below : Below g w W
  eq : ∀ j, j < B → j ≠ g → W.heap[j]? = w.heap[j]?
theorem Lo.refl (B g : Nat) (w : World) : Lo B g w w := ⟨Below.refl _ _, fun _ _ _ => rfl⟩
theorem Lo.trans {B g : Nat} {w w' w'' : World} (h : Lo B g w w') (k : Lo B g w' w'') : Lo B g w w'' := ⟨h.below.trans k.below, fun j h1 h2 => (k.eq j h1 h2).trans (h.eq j h1 h2)⟩
theorem Lo.of {B g : Nat} {w W : World} (hB : B ≤ w.heap.size) (hg : g ≤ B) (h : Below w.heap.size w W) : Lo B g w W := ⟨h.mono (by omega), fun j h1 _ => h.block j (by omega)⟩
theorem Lo.grown {B g : Nat} {w W : World} {v : Value} (hg : w.grownBy W v.ownBlock) (hB : B ≤ w.heap.size) (hgB : g < B) (hv : ∀ k, v.ownBlock = some k → B ≤ k) : Lo B g w W :=
  ⟨(Below.refl g w).grown hg (by omega) fun j hj => by have := hv j hj; omega, fun j h1 _ => hg.block j (by omega) fun e => by have := hv j e.symm; omega⟩
theorem Lo.set (B g i : Nat) (w : World) (v : Value) : Lo B g w (w.setCell ⟨g, i, none⟩ v) := ⟨(Below.refl g w).setCell (p := ⟨g, i, none⟩) (Nat.le_refl _) v, fun j _ h2 => Below.heap_setCell _ _ _ j h2⟩
theorem Lo.bx {B g b t : Nat} {w W : World} {cs : List Value} (h : Lo B g w W) (hb : b < B) (hn : b ≠ g) (hx : Bx w b t cs) : Bx W b t cs := (h.eq b hb hn).trans hx
theorem Lo.own {B g base e sz n : Nat} {w W : World} {v : Value} {xs : List Value} (h : Lo B g w W) (hs : w.heap.size ≤ B) (hg : g < base) (ho : w.ownsRow base e sz v n xs) : W.ownsRow base e sz v n xs :=
  own_agree ho fun k h1 h2 => h.eq k (by omega) (by omega)
section
variable {B g : Nat} {vals : List Value} {T : Nat → List Int} {W W' : World}
theorem GrR.keep (h : GrR B g vals T W) (hb : Below W.heap.size W W') : GrR B g vals T W' :=
  ⟨h.box.call hb, fun i hi => ownD_keep (h.row i hi) hb, h.sep, h.gb, Nat.le_trans h.sz hb.size⟩
theorem GrR.ge (h : GrR B g vals T W) {i : Nat} (hi : i < vals.length) : ∀ k, (atD vnil vals i).ownBlock = some k → B ≤ k := ownD_block (h.row i hi)
theorem GrR.start (n : Nat) (hb : Bx W g 30 (List.replicate n vnil)) (hg : g < B) (hs : B ≤ W.heap.size) : GrR B g (List.replicate n vnil) (fun _ => []) W := by
  have hat : ∀ i, i < n → atD vnil (List.replicate n vnil) i = vnil := fun i hi => by simp [atD, hi]
  refine ⟨hb, fun i hi => ?_, fun i j hi _ _ k hk => ?_, hg, hs⟩
  · rw [List.length_replicate] at hi
    rw [hat i hi]
    exact ⟨rfl, .inl ⟨rfl, rfl⟩⟩
  · rw [List.length_replicate] at hi
    rw [hat i hi] at hk
    simp [vnil, Value.ownBlock] at hk
/-- a row has grown, its slice is not stored yet -/
structure GrS (B g k : Nat) (vals : List Value) (T : Nat → List Int) (x : Int) (v' : Value) (W : World) : Prop where
  box : Bx W g 30 vals
  row : ∀ i, i < vals.length → i ≠ k → W.ownsRow B 3 1 (atD vnil vals i) (T i).length (is (T i))
  new : W.ownsRow B 3 1 v' ((T k).length + 1) (is (T k ++ [x]))
  sep : ∀ i j, i < vals.length → j < vals.length → i ≠ j → ∀ k, (atD vnil vals i).ownBlock = some k → (atD vnil vals j).ownBlock ≠ some k
  off : ∀ i, i < vals.length → i ≠ k → ∀ c, v'.ownBlock = some c → (atD vnil vals i).ownBlock ≠ some c
  gb : g < B
  sz : B ≤ W.heap.size
theorem GrR.append (h : GrR B g vals T W) {k : Nat} (hk : k < vals.length) {x : Int} {v' : Value} (ho : W'.ownsRow B 3 1 v' ((T k).length + 1) (is (T k) ++ is [x])) (hg : W.grownBy W' (atD vnil vals k).ownBlock) (hn : Ap.NewOr W.heap.size (atD vnil vals k) v') :
    GrS B g k vals T x v' W' := by
  have hgr := hg
  refine ⟨Ap.bx_off h.box hg (fun e => by have := h.ge hk _ e; have := h.gb; omega), fun i hi hik => ?_, by rw [D13.is_append]; exact ho, h.sep, fun i hi hik c hc e => ?_, h.gb, ?_⟩
  · exact Ap.own_off (h.row i hi) hg fun c hc e => h.sep k i hk hi (Ne.symm hik) c e hc
  · rcases hn c hc with h1 | h1
    · exact h.sep k i hk hi (Ne.symm hik) c h1 e
    · have := (h.row i hi).lt c e
      omega
  · exact Nat.le_trans h.sz ((Below.refl 0 W).grown hg (by omega) fun _ _ => Nat.zero_le _).size
theorem GrS.keep {k : Nat} {x : Int} {v' : Value} (h : GrS B g k vals T x v' W) (hb : Below W.heap.size W W') : GrS B g k vals T x v' W' :=
  ⟨h.box.call hb, fun i hi hik => ownD_keep (h.row i hi hik) hb, ownD_keep h.new hb, h.sep, h.off, h.gb, Nat.le_trans h.sz hb.size⟩
def addT (T : Nat → List Int) (k : Nat) (x : Int) (i : Nat) : List Int := if i = k then T k ++ [x] else T i
theorem GrS.store {k : Nat} {x : Int} {v' : Value} (h : GrS B g k vals T x v' W) (hk : k < vals.length) : GrR B g (vals.set k v') (addT T k x) (W.setCell ⟨g, k, none⟩ v') := by
  have hlt : ∀ {v : Value} {n : Nat} {xs : List Value}, W.ownsRow B 3 1 v n xs → (W.setCell ⟨g, k, none⟩ v').ownsRow B 3 1 v n xs := fun ho => ownD_far ho (p := ⟨g, k, none⟩) h.gb v'
  have hat : ∀ i, i ≠ k → atD vnil (vals.set k v') i = atD vnil vals i := fun i hi => atD_set_ne _ _ _ _ hi
  have hae : atD vnil (vals.set k v') k = v' := atD_set_eq _ _ _ hk
  refine ⟨h.box.set k v', fun i hi => ?_, fun i j hi hj hij c hc => ?_, h.gb, by simpa using h.sz⟩
  · rw [List.length_set] at hi
    unfold addT
    by_cases e : i = k
    · rw [if_pos e, e, hae, List.length_append]; exact hlt h.new
    · rw [if_neg e, hat i e]; exact hlt (h.row i hi e)
  · rw [List.length_set] at hi hj
    by_cases e : i = k
    · rw [e, hae] at hc
      rw [hat j (fun e2 => hij (e.trans e2.symm))]
      exact h.off j hj (fun e2 => hij (e.trans e2.symm)) c hc
    · rw [hat i e] at hc
      by_cases e2 : j = k
      · rw [e2, hae]; exact fun h3 => h.off i hi e c h3 hc
      · rw [hat j e2]; exact h.sep i j hi hj hij c hc
end
/-- the slice of slices of a medium -/
theorem GrR.rdV {B g n : Nat} {vals : List Value} {T : Nat → List Int} {W : World} (h : GrR B g vals T W) (hn : vals.length = n) {scr : List Sc} (hT : ∀ i, i < n → T i = lostS n scr i) : RdV W (.slice (some ⟨g, 0, none⟩) n n) n scr := by
  refine ⟨fun i => atD vnil vals i, ⟨some ⟨g, 0, none⟩, n, g, 0, rfl, Nat.le_refl _, fun i hi => ⟨rfl, fun j u hu => ?_⟩⟩, fun i hi => ?_⟩
  · cases j with
    | zero =>
      simp only [List.getElem?_cons_zero, Option.some.injEq] at hu
      subst hu
      simp only [Nat.zero_add, Nat.mul_one, Nat.add_zero]
      refine h.box.cell (i := i) ?_
      have : i < vals.length := by omega
      simp [atD, this]
    | succ j => simp at hu
  · have hr := h.row i (by omega)
    rw [hT i hi] at hr
    have hl := lostS_len n scr i
    refine D13.rdI_own hr rfl (by omega) fun x hx => ?_
    unfold lostS at hx
    rw [List.mem_map] at hx
    obtain ⟨y, hy, rfl⟩ := hx
    have := List.mem_range.1 (List.mem_filter.1 hy).1
    show -9223372036854775808 ≤ (y : Int) ∧ (y : Int) ≤ 9223372036854775807
    omega
/-- the same, of a world that agrees from block 'base' on -/
theorem GrR.agree {B g base : Nat} {vals : List Value} {T : Nat → List Int} {W W' : World} (h : GrR B g vals T W) (hb : base ≤ g) (ha : W.heap.size ≤ W'.heap.size) (he : ∀ k, base ≤ k → k < W.heap.size → W'.heap[k]? = W.heap[k]?) : GrR B g vals T W' :=
  ⟨(he g hb h.box.lt).trans h.box, fun i hi => own_agree (h.row i hi) fun k h1 h2 => he k (by have := h.gb; omega) h2, h.sep, h.gb, Nat.le_trans h.sz ha⟩
end Go.Proofs.Ytpncjadhpnapnaa.D12
