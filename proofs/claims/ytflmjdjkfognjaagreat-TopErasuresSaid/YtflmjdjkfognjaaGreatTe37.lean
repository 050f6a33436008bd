/- Parts: XGb -/
import Derived.Test.YtflmjdjkfognjaaGreatTe36
namespace Go.Proofs.YtflmjdjkfognjaaGreat.D12
open Go.RowKit Go.Maps C9
open W8 (is)
set_option linter.unusedVariables false
theorem lo_look {w : World} {b : Option Nat} {n : Nat} {scr : List Sc} (h : LoM w b n scr) (hn : n ≤ 4096) {i : Nat} (hi : i < n) :
    ∃ v, RdI w v (lostS n scr i) ∧ ∀ W : World, Below w.heap.size w W → (Instr.lookup 212 (.map b) (.int .i64 (i : Nat)) false).run Tryz.prog W = .ok v W := by
  have hkey := keyOf_int_mk Tryz.underlying3 (wfK12 (show i < 5000 by omega))
  cases b with
  | none =>
    have h0 : lostS n scr i = [] := h i hi
    refine ⟨.slice none 0 0, ?_, fun W _ => ?_⟩
    · rw [h0]
      exact ⟨by simp, ⟨none, 0, 0, 0, rfl, Nat.le_refl _, fun j hj => by simp at hj⟩, fun j hj => by simp at hj⟩
    · exact Maps.look_nil false lawI12 Tryz.underlying212 (zeroLo W) hkey
  | some b =>
    obtain ⟨N, hN, D, hown, hat⟩ := h
    obtain ⟨v, h1, h2⟩ := hat i hi
    refine ⟨v, h2, fun W hW => ?_⟩
    have h3 : W.ownsMap Tryz.prog 3 Mp.rawE b N D := by
      have hl := hown.lt
      obtain ⟨es, clock, hb', F, hs, hD⟩ := hown
      exact ⟨es, clock, (hW.block b hl).trans hb', F, hs, hD⟩
    obtain ⟨v2, ps, hrun, hat2⟩ := h3.lookup lawI12 Tryz.underlying212 (zeroLo W) (zd := .held (.slice none 0 0)) (zp := []) rfl hkey
    simp only [Mp.rawE, Option.some.injEq, Prod.mk.injEq] at hat2
    rw [h1] at hat2
    have : v2 = v := by simpa using hat2.1
    rw [hrun, this]
theorem lostS_len (n : Nat) (scr : List Sc) (i : Nat) : (lostS n scr i).length ≤ 2352 := by
  unfold lostS
  rw [List.length_map]
  exact Nat.le_trans (List.length_filter_le _ _) (by simp)
def ErsL (f : Nat → Bool) (ss : List Int) : Prop := (∀ x : Int, x ∈ ss ↔ 0 ≤ x ∧ f x.toNat = true) ∧ ss.length ≤ 2352
def ErsC (w0 : World) (mb : Option Nat) (f : Nat → Bool) (lo : List Int) (r : Nat) (vc va vr : Value) (W : World) : Prop :=
  Below w0.heap.size w0 W ∧ match r with
    | 0 => W.heap.size = w0.heap.size
    | 1 => Bx W w0.heap.size 52 [.map mb]
    | 2 => ∃ ss, ErsL f ss ∧ W.ownsRow w0.heap.size 3 1 vc ss.length (is ss)
    | 3 => ∃ ss, ErsL f ss ∧ W.ownsRow w0.heap.size 3 1 va (ss.length + lo.length) (is (ss ++ lo))
    | _ => ∃ ss, ErsL f ss ∧ W.ownsRow w0.heap.size 3 1 vr (ss.length + lo.length) (is (ss ++ lo))
def ersV (g gs n cap k hz : Nat) (mb lb : Option Nat) (vlo : Value) (i : Nat) (v : Value) (W : World) : Prop := match i with
  | 0 => v = .pointer (some ⟨g, 0, none⟩)
  | 1 => v = .pointer (some ⟨g, 0, none⟩)
  | 2 => v = .pointer (some ⟨g, 2, none⟩)
  | 3 => v = .slice (some ⟨gs, 0, none⟩) n cap
  | 4 => v = .int .i64 (k : Nat)
  | 5 => v = .pointer (some ⟨gs, k * 5, none⟩)
  | 6 => v = .pointer (some ⟨gs, k * 5 + 3, none⟩)
  | 7 => v = .map mb
  | 8 => v = .func (.func 241) #[] #[.pointer (some ⟨hz, 0, none⟩)]
  | 9 => True
  | 10 => v = .pointer (some ⟨g, 0, none⟩)
  | 11 => v = .pointer (some ⟨g, 0, none⟩)
  | 12 => v = .pointer (some ⟨g, 4, none⟩)
  | 13 => v = .map lb
  | 14 => v = .int .i64 (k : Nat)
  | 15 => v = vlo
  | 16 => True
  | 17 => True
  | _ => True
def ersVE : Nat → Option Nat
  | 8 => some 0
  | 9 => some 1
  | 16 => some 2
  | 17 => some 3
  | _ => none
theorem ersV_keep (g gs n cap k hz : Nat) (mb lb : Option Nat) (vlo : Value) (i r : Nat) (v : Value) (W W' : World) (hk : ∀ k, ersVE i = some k → k < r) (hR : (anyR) r W W') (h : ersV g gs n cap k hz mb lb vlo i v W) : ersV g gs n cap k hz mb lb vlo i v W' := by
  unfold ersV at h ⊢
  split at h <;> first | exact h
set_option maxRecDepth 100000 in
set_option maxHeartbeats 4000000 in
theorem erased12 {w : World} {g : Nat} {M : Med} {X R : Nat → Prop} {N : Nat} (h : MedW w g M X R) (ho : M.Ok N) {k : Nat} (hk : k < M.n) :
    Calls Tryz.prog 174 #[.pointer (some ⟨g, 0, none⟩), .int .i64 (k : Nat)] w fun e w' => ∃ v, e = .returned v ∧ w'.ownsRow w.heap.size 3 1 v (M.gone k).length (is (M.gone k)) ∧ Below w.heap.size w w' := by
  obtain ⟨L, hc⟩ := h
  obtain ⟨vlo, hvlo, hlook⟩ := lo_look (hc.lost w fun _ _ => rfl) ho.n.2 hk
  have hkL : k < L.S.length := by rw [hc.n]; exact hk
  have hm : ErM w (atD sm0 L.S k).e (M.sec k).er := by
    have := hc.maps k true hkL
    unfold SM.W at this
    rwa [if_pos rfl, hc.at_] at this
  have hfb := (ho.sec k hk).er
  have hn := ho.n.2
  obtain ⟨n, hnn⟩ : ∃ n, n = M.n := ⟨_, rfl⟩
  have hkn : k < n := by rw [hnn]; exact hk
  have HCW : Hid (∀ W : World, Below w.heap.size w W → W.cell? ⟨g, 2, none⟩ = some (.slice (some ⟨L.gs, 0, none⟩) n L.cap) ∧ W.cell? ⟨g, 4, none⟩ = some (.map L.lo) ∧ W.cell? ⟨L.gs, k * 5 + 3, none⟩ = some (.map (atD sm0 L.S k).e)) := Lib.hid fun W hW => by
    have h1 := hc.below hW
    obtain ⟨c0, c1, c2, c3, c4⟩ := h1.cells
    rw [h1.n, ← hnn] at c2
    exact ⟨c2, c4, h1.surf hkL (j := 3) (by decide)⟩
  have HLK := Lib.hid hlook
  have HM := Lib.hid hm
  have HFB := Lib.hid hfb
  have HVL := Lib.hid hvlo
  generalize L.gs = gs at *
  generalize L.cap = cap at *
  generalize L.lo = lb at *
  generalize (atD sm0 L.S k).e = mb at *
  have HIX := Lib.hid fun w' : World => run_idxS (P := Tryz.prog) Tryz.underlying211 (by kernel_rfl : (Tryz.prog.info? 216).map (·.size) = some 5) (a := some ⟨gs, 0, none⟩) (n := n) (cap := cap) (k := k) (b := gs) (off := 0) rfl hkn (k : Int) rfl w'
  simp only [Nat.zero_add] at HIX
  clear hc ho hlook hm hfb hvlo hnn
  go_enter Tryz.func174, Tryz.ntmps174
  go_upto_region 1 with (fail)
  obtain ⟨hz, hhz⟩ : ∃ hz, hz = w.heap.size := ⟨_, rfl⟩
  have HHZ := Lib.hid hhz
  clear hhz
  refine wp_region_seqA (by kernel_rfl) (anyR) (fun r a W => ErsC w mb (M.sec k).er (lostS M.n M.scr k) r (a.tmps.getD 15 undef) (a.tmps.getD 22 undef) (a.tmps.getD 5 undef) W) (ersV g gs n cap k hz mb lb vlo) (fun _ => false) ersVE 4 (by kernel_rfl) (by kernel_rfl) (.inl (by kernel_rfl)) (keepsA3 15 22 5 (by kernel_rfl) (by kernel_rfl) (by kernel_rfl) (ErsC w mb (M.sec k).er (lostS M.n M.scr k))) (ersV_keep g gs n cap k hz mb lb vlo) (⟨(Below.refl _ _).drew, rfl⟩) ⟨?_, ?_, ?_, ?_, ?_, ?_, ?_, ?_, ?_, ?_, ?_, ?_, ?_, ?_, ?_, ?_, ?_, ?_, trivial⟩ ?_
  · intro r a W hc hsz hold hdep hnot hlo hhi hrk
    have o0 : a.tmps.getD 0 undef = .pointer (some ⟨g, 0, none⟩) := hold 0 (by kernel_rfl)
    clear hsz hold hdep hnot hlo hhi hrk
    refine stepR_do rfl (wanted_none rfl) ?_
    refine stepA_val (v := .pointer (some ⟨g, 0, none⟩)) (anyR_mk _ _ _) rfl fun K hK => ?_
    go_simp
    exact hK
  · intro r a W hc hsz hold hdep hnot hlo hhi hrk
    have d0 : a.tmps.getD 6 undef = .pointer (some ⟨g, 0, none⟩) := hdep 0 (by kernel_rfl) rfl _ rfl
    clear hsz hold hdep hnot hlo hhi hrk
    refine stepR_do rfl (wanted_none rfl) ?_
    refine stepA_val (v := .pointer (some ⟨g, 0, none⟩)) (anyR_mk _ _ _) rfl fun K hK => ?_
    go_simp
    exact hK
  · intro r a W hc hsz hold hdep hnot hlo hhi hrk
    have d1 : a.tmps.getD 7 undef = .pointer (some ⟨g, 0, none⟩) := hdep 1 (by kernel_rfl) rfl _ rfl
    clear hsz hold hdep hnot hlo hhi hrk
    refine stepR_do rfl (wanted_none rfl) ?_
    refine stepA_val (v := .pointer (some ⟨g, 2, none⟩)) (anyR_mk _ _ _) rfl fun K hK => ?_
    go_simp
    exact hK
  · intro r a W hc hsz hold hdep hnot hlo hhi hrk
    have d2 : a.tmps.getD 8 undef = .pointer (some ⟨g, 2, none⟩) := hdep 2 (by kernel_rfl) rfl _ rfl
    have q := (HCW.out W hc.1).1
    clear hsz hold hdep hnot hlo hhi hrk
    refine stepR_do rfl (wanted_none rfl) ?_
    refine stepA_val (v := .slice (some ⟨gs, 0, none⟩) n cap) (anyR_mk _ _ _) rfl fun K hK => ?_
    go_simp
    exact hK
  · intro r a W hc hsz hold hdep hnot hlo hhi hrk
    have o1 : a.tmps.getD 1 undef = .int .i64 (k : Nat) := hold 1 (by kernel_rfl)
    clear hsz hold hdep hnot hlo hhi hrk
    refine stepR_do rfl (wanted_none rfl) ?_
    refine stepA_val (v := .int .i64 (k : Nat)) (anyR_mk _ _ _) rfl fun K hK => ?_
    go_simp
    exact hK
  · intro r a W hc hsz hold hdep hnot hlo hhi hrk
    have d3 : a.tmps.getD 9 undef = .slice (some ⟨gs, 0, none⟩) n cap := hdep 3 (by kernel_rfl) rfl _ rfl
    have d4 : a.tmps.getD 10 undef = .int .i64 (k : Nat) := hdep 4 (by kernel_rfl) rfl _ rfl
    have q := HIX.out W
    clear hsz hold hdep hnot hlo hhi hrk
    refine stepR_do rfl (wanted_none rfl) ?_
    refine stepA_val (v := .pointer (some ⟨gs, k * 5, none⟩)) (anyR_mk _ _ _) rfl fun K hK => ?_
    go_simp
    exact hK
  · intro r a W hc hsz hold hdep hnot hlo hhi hrk
    have d5 : a.tmps.getD 11 undef = .pointer (some ⟨gs, k * 5, none⟩) := hdep 5 (by kernel_rfl) rfl _ rfl
    clear hsz hold hdep hnot hlo hhi hrk
    refine stepR_do rfl (wanted_none rfl) ?_
    refine stepA_val (v := .pointer (some ⟨gs, k * 5 + 3, none⟩)) (anyR_mk _ _ _) rfl fun K hK => ?_
    go_simp
    exact hK
  · intro r a W hc hsz hold hdep hnot hlo hhi hrk
    have d6 : a.tmps.getD 12 undef = .pointer (some ⟨gs, k * 5 + 3, none⟩) := hdep 6 (by kernel_rfl) rfl _ rfl
    have q := (HCW.out W hc.1).2.2
    clear hsz hold hdep hnot hlo hhi hrk
    refine stepR_do rfl (wanted_none rfl) ?_
    refine stepA_val (v := .map mb) (anyR_mk _ _ _) rfl fun K hK => ?_
    go_simp
    exact hK
  · intro r a W hc hsz hold hdep hnot hlo hhi hrk
    have hr := hrk 0 rfl
    subst hr
    have d7 : a.tmps.getD 13 undef = .map mb := hdep 7 (by kernel_rfl) rfl _ rfl
    have e7 : a.tmps[13]?.getD undef = .map mb := by rw [← Array.getD_eq_getD_getElem?]; exact d7
    have hs : 14 < a.tmps.size := by rw [hsz]; exact (by decide : 14 < 27)
    clear hsz hold hdep hnot hlo hhi hrk
    refine stepR_do rfl (wanted_none rfl) ?_
    have e13 : a.eval (.tmp 13) = .map mb := d7
    obtain ⟨hbw, hz0⟩ := hc
    refine stepA_any (C := fun a W => ErsC w mb (M.sec k).er (lostS M.n M.scr k) 1 (a.tmps.getD 15 undef) (a.tmps.getD 22 undef) (a.tmps.getD 5 undef) W) fun K hK => ?_
    go_simp
    refine (Tryz.keys12 mb W).mono ?_
    rintro e w' ⟨rfl, rfl⟩
    refine hK _ _ (anyR_mk _ _ _) ⟨hbw.trans ((Below.refl _ _).alloc hbw.size _), ?_⟩ ?_
    · show Bx _ w.heap.size _ _
      have := Bx.new W 52 [.map mb]
      rwa [hz0] at this
    · show _ = _
      rw [HHZ.out, ← hz0]
      rfl
  · intro r a W hc hsz hold hdep hnot hlo hhi hrk
    have hr := hrk 1 rfl
    subst hr
    have d8 : a.tmps.getD 14 undef = .func (.func 241) #[] #[.pointer (some ⟨hz, 0, none⟩)] := hdep 8 (by kernel_rfl) rfl _ rfl
    have e8 : a.tmps[14]?.getD undef = .func (.func 241) #[] #[.pointer (some ⟨hz, 0, none⟩)] := by rw [← Array.getD_eq_getD_getElem?]; exact d8
    have hs : 15 < a.tmps.size := by rw [hsz]; exact (by decide : 15 < 27)
    clear hsz hold hdep hnot hlo hhi hrk
    refine stepR_do rfl (wanted_none rfl) ?_
    obtain ⟨hbw, hbx⟩ := hc
    have hbx : Bx W w.heap.size 52 [.map mb] := hbx
    have hcol := collect12 hbx (ErM.kept HM.out fun c hcb => hbw.block c (by
      have hm := HM.out
      rw [hcb] at hm
      obtain ⟨es, clock, hb⟩ := hm.map
      exact (Array.getElem?_eq_some_iff.1 hb).1)) HFB.out
    rw [← HHZ.out] at hcol
    refine stepA_any (C := fun a W => ErsC w mb (M.sec k).er (lostS M.n M.scr k) 2 (a.tmps.getD 15 undef) (a.tmps.getD 22 undef) (a.tmps.getD 5 undef) W) fun K hK => ?_
    go_simp
    refine hcol.mono ?_
    rintro e w' ⟨v, ss, rfl, h1, h2, h3, h4⟩
    refine hK _ _ (anyR_mk _ _ _) ⟨hbw.trans (h4.mono hbw.size), ss, ⟨h1, h2⟩, ?_⟩ trivial
    rw [put_getD_same hs]
    exact own_mono h3 hbw.size
  · intro r a W hc hsz hold hdep hnot hlo hhi hrk
    have o0 : a.tmps.getD 0 undef = .pointer (some ⟨g, 0, none⟩) := hold 0 (by kernel_rfl)
    clear hsz hold hdep hnot hlo hhi hrk
    refine stepR_do rfl (wanted_none rfl) ?_
    refine stepA_val (v := .pointer (some ⟨g, 0, none⟩)) (anyR_mk _ _ _) rfl fun K hK => ?_
    go_simp
    exact hK
  · intro r a W hc hsz hold hdep hnot hlo hhi hrk
    have d10 : a.tmps.getD 16 undef = .pointer (some ⟨g, 0, none⟩) := hdep 10 (by kernel_rfl) rfl _ rfl
    clear hsz hold hdep hnot hlo hhi hrk
    refine stepR_do rfl (wanted_none rfl) ?_
    refine stepA_val (v := .pointer (some ⟨g, 0, none⟩)) (anyR_mk _ _ _) rfl fun K hK => ?_
    go_simp
    exact hK
  · intro r a W hc hsz hold hdep hnot hlo hhi hrk
    have d11 : a.tmps.getD 17 undef = .pointer (some ⟨g, 0, none⟩) := hdep 11 (by kernel_rfl) rfl _ rfl
    clear hsz hold hdep hnot hlo hhi hrk
    refine stepR_do rfl (wanted_none rfl) ?_
    refine stepA_val (v := .pointer (some ⟨g, 4, none⟩)) (anyR_mk _ _ _) rfl fun K hK => ?_
    go_simp
    exact hK
  · intro r a W hc hsz hold hdep hnot hlo hhi hrk
    have d12 : a.tmps.getD 18 undef = .pointer (some ⟨g, 4, none⟩) := hdep 12 (by kernel_rfl) rfl _ rfl
    have q := (HCW.out W hc.1).2.1
    clear hsz hold hdep hnot hlo hhi hrk
    refine stepR_do rfl (wanted_none rfl) ?_
    refine stepA_val (v := .map lb) (anyR_mk _ _ _) rfl fun K hK => ?_
    go_simp
    exact hK
  · intro r a W hc hsz hold hdep hnot hlo hhi hrk
    have o1 : a.tmps.getD 1 undef = .int .i64 (k : Nat) := hold 1 (by kernel_rfl)
    clear hsz hold hdep hnot hlo hhi hrk
    refine stepR_do rfl (wanted_none rfl) ?_
    refine stepA_val (v := .int .i64 (k : Nat)) (anyR_mk _ _ _) rfl fun K hK => ?_
    go_simp
    exact hK
  · intro r a W hc hsz hold hdep hnot hlo hhi hrk
    have d13 : a.tmps.getD 19 undef = .map lb := hdep 13 (by kernel_rfl) rfl _ rfl
    have d14 : a.tmps.getD 20 undef = .int .i64 (k : Nat) := hdep 14 (by kernel_rfl) rfl _ rfl
    have q := HLK.out W hc.1
    clear hsz hold hdep hnot hlo hhi hrk
    refine stepR_do rfl (wanted_none rfl) ?_
    refine stepA_val (v := vlo) (anyR_mk _ _ _) rfl fun K hK => ?_
    go_simp
    exact hK
  · intro r a W hc hsz hold hdep hnot hlo hhi hrk
    have hr := hrk 2 rfl
    subst hr
    have x9 := hdep 9 (by kernel_rfl) rfl _ rfl
    have d15 : a.tmps.getD 21 undef = vlo := hdep 15 (by kernel_rfl) rfl _ rfl
    have e15 : a.tmps[21]?.getD undef = vlo := by rw [← Array.getD_eq_getD_getElem?]; exact d15
    have hs : 22 < a.tmps.size := by rw [hsz]; exact (by decide : 22 < 27)
    clear hsz hold hdep hnot hlo hhi hrk
    refine stepR_do rfl (wanted_none rfl) ?_
    obtain ⟨hbw, ss, hss, hown⟩ := hc
    have e22 : a.eval (.tmp 21) = vlo := d15
    obtain ⟨i0, hi, hz0, hz1, hz2⟩ := info_parts Tryz.infoInt9
    refine stepA_any (C := fun a W => ErsC w mb (M.sec k).er (lostS M.n M.scr k) 3 (a.tmps.getD 15 undef) (a.tmps.getD 22 undef) (a.tmps.getD 5 undef) W) fun K hK => ?_
    have hl := hss.2
    have hll := lostS_len M.n M.scr k
    refine op_app (.tmp 15) (.tmp 21) rfl Tryz.underlying53 hi hz0 hz1 hz2 rfl (by omega) hown rfl (W8.RdI.reads (HVL.out.keep hbw)) e22 (W8.is_one _) (by unfold maxLen; omega) (by omega) hbw.size fun v' w' h1 h2 => ?_
    refine hK _ _ (anyR_mk _ _ _) ⟨hbw.grown h2 hbw.size (ownD_block hown), ss, hss, ?_⟩ trivial
    rw [put_getD_same hs, W8.is_append]
    exact h1
  · intro r a W hc hsz hold hdep hnot hlo hhi hrk
    have hr := hrk 3 rfl
    subst hr
    have x16 := hdep 16 (by kernel_rfl) rfl _ rfl
    have hs : 5 < a.tmps.size := by rw [hsz]; exact (by decide : 5 < 27)
    clear hsz hold hdep hnot hlo hhi hrk
    refine stepR_do rfl (wanted_none rfl) ?_
    obtain ⟨hbw, ss, hss, hown⟩ := hc
    refine stepA_any (C := fun a W => ErsC w mb (M.sec k).er (lostS M.n M.scr k) 4 (a.tmps.getD 15 undef) (a.tmps.getD 22 undef) (a.tmps.getD 5 undef) W) fun K hK => ?_
    go_simp
    refine hK _ _ (anyR_mk _ _ _) ⟨hbw, ss, hss, ?_⟩ trivial
    rw [put_getD_same hs, ← Array.getD_eq_getD_getElem?]
    exact hown
  · intro a W hC hd hsz hold hval
    obtain ⟨hbw, ss, hss, hown⟩ := hC
    obtain ⟨u5, hu5⟩ : ∃ u5, u5 = a.tmps.getD 5 undef := ⟨_, rfl⟩
    rw [← hu5] at hown
    clear hval
    have d5 : a.tmps.getD 5 undef = u5 := hu5.symm
    clear hold
    obtain ⟨tm, df⟩ := a
    replace hd : df = [] := hd
    replace hsz : tm.size = 27 := hsz
    replace d5 : tm.getD 5 undef = u5 := d5
    subst hd
    have e : tm = #[tm.getD 0 undef, tm.getD 1 undef, tm.getD 2 undef, tm.getD 3 undef, tm.getD 4 undef, tm.getD 5 undef, tm.getD 6 undef, tm.getD 7 undef, tm.getD 8 undef, tm.getD 9 undef, tm.getD 10 undef, tm.getD 11 undef, tm.getD 12 undef, tm.getD 13 undef, tm.getD 14 undef, tm.getD 15 undef, tm.getD 16 undef, tm.getD 17 undef, tm.getD 18 undef, tm.getD 19 undef, tm.getD 20 undef, tm.getD 21 undef, tm.getD 22 undef, tm.getD 23 undef, tm.getD 24 undef, tm.getD 25 undef, tm.getD 26 undef] := arr_eq tm 27 hsz
    rw [d5] at e
    clear d5 hsz
    generalize tm.getD 0 undef = v0 at e
    generalize tm.getD 1 undef = v1 at e
    generalize tm.getD 2 undef = v2 at e
    generalize tm.getD 3 undef = v3 at e
    generalize tm.getD 4 undef = v4 at e
    generalize tm.getD 6 undef = v6 at e
    generalize tm.getD 7 undef = v7 at e
    generalize tm.getD 8 undef = v8 at e
    generalize tm.getD 9 undef = v9 at e
    generalize tm.getD 10 undef = v10 at e
    generalize tm.getD 11 undef = v11 at e
    generalize tm.getD 12 undef = v12 at e
    generalize tm.getD 13 undef = v13 at e
    generalize tm.getD 14 undef = v14 at e
    generalize tm.getD 15 undef = v15 at e
    generalize tm.getD 16 undef = v16 at e
    generalize tm.getD 17 undef = v17 at e
    generalize tm.getD 18 undef = v18 at e
    generalize tm.getD 19 undef = v19 at e
    generalize tm.getD 20 undef = v20 at e
    generalize tm.getD 21 undef = v21 at e
    generalize tm.getD 22 undef = v22 at e
    generalize tm.getD 23 undef = v23 at e
    generalize tm.getD 24 undef = v24 at e
    generalize tm.getD 25 undef = v25 at e
    generalize tm.getD 26 undef = v26 at e
    subst e
    have hll := lostS_len M.n M.scr k
    have hsl := hss.2
    have HSS := Lib.hid hss
    clear hss
    have HS1 := Lib.hid (sort12 _ _ W w.heap.size _ hown (by rw [List.length_append]) (by omega))
    have HOB := Lib.hid (ownD_block hown)
    have HBW := Lib.hid hbw
    have HSL := Lib.hid hsl
    have HLL := Lib.hid hll
    clear hown hbw HCW HLK HIX hu5 hsl hll
    go_wp2_with fail
    refine HS1.out.mono ?_
    rintro e w2 ⟨rfl, ho2, hg2⟩
    have hb2 := HBW.out.grown hg2 HBW.out.size HOB.out
    have HB2 := Lib.hid hb2
    have HOB2 := Lib.hid (ownD_block ho2)
    have HC2 := Lib.hid (compact12 _ _ w2 w.heap.size _ ho2 (by rw [List.length_mergeSort, List.length_append]) (by have := HSL.out; have := HLL.out; omega))
    clear ho2 hg2 hb2
    go_wp2_with fail
    refine HC2.out.mono ?_
    rintro e w3 ⟨v3, rfl, ho3, hg3⟩
    have HB3 := Lib.hid (HB2.out.grown hg3 HB2.out.size HOB2.out)
    have hsp := compact_spec (M := (ss ++ lostS M.n M.scr k).mergeSort fun x y => decide (x ≤ y)) (by
      have := List.pairwise_mergeSort (le := fun x y : Int => decide (x ≤ y)) (fun a b c h1 h2 => by simp only [decide_eq_true_eq] at *; omega) (fun a b => by simp only [Bool.or_eq_true, decide_eq_true_eq]; omega) (ss ++ lostS M.n M.scr k)
      exact this.imp fun h => of_decide_eq_true h)
    have hgo : Lib.compact ((ss ++ lostS M.n M.scr k).mergeSort fun x y => decide (x ≤ y)) = M.gone k := by
      refine sorted_eq hsp.1 (gone_sorted M k) fun z => ?_
      rw [hsp.2, (List.mergeSort_perm _ _).mem_iff, List.mem_append, HSS.out.1, mem_gone]
      unfold lostS
      simp only [List.mem_map, List.mem_filter, List.mem_range]
      unfold Med.goneP
      constructor
      · rintro (⟨h1, h2⟩ | ⟨j, ⟨h1, h2⟩, rfl⟩)
        · exact ⟨z.toNat, HFB.out _ h2, by rw [h2]; rfl, by omega⟩
        · exact ⟨j, h1, by rw [h2, Bool.or_true], rfl⟩
      · rintro ⟨j, h1, h2, rfl⟩
        rw [Bool.or_eq_true] at h2
        rcases h2 with h2 | h2
        · exact .inl ⟨by omega, by simpa using h2⟩
        · exact .inr ⟨j, ⟨h1, h2⟩, rfl⟩
    rw [hgo] at ho3
    have HO3 := Lib.hid ho3
    clear ho3 hg3 hsp hgo
    go_wp2_with fail
    go_ret
    exact ⟨_, rfl, HO3.out, HB3.out⟩
end Go.Proofs.YtflmjdjkfognjaaGreat.D12
