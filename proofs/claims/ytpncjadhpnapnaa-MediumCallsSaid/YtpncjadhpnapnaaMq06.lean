/- Chapter 12: Scratch of a medium walked. -/
import Derived.Test.YtpncjadhpnapnaaMq05
import Derived.Test.YtpncjadhpnapnaaSeq
import Derived.Deep.Cut
namespace Go.Proofs.Ytpncjadhpnapnaa.D12
open Go.RowKit Go.Maps C9
open D13 (RdI ixI is)
open Go.ChangeShapes (lits)
set_option linter.unusedVariables false

/-- a medium that scratches have been added to -/
theorem MedC.scratched {w w' : World} {g : Nat} {L : Lay} {M : Med} {X R : Nat → Prop} (h : MedC w g L M X R) {v : Value} {b : Nat} {l : List Sc}
    (hx : Bx w' g 88 [.int .i64 M.kind, .int .i64 M.endu, .slice (some ⟨L.gs, 0, none⟩) L.S.length L.cap, v, .map (some b)]) (hb : w.grownBy w' (some g))
    (hs : ∀ w2, Same (fun b => R b ∨ (w.heap.size ≤ b ∧ b < w'.heap.size)) w' w2 → RdSc w2 v (M.scr ++ l)) (hl : ∀ w2, Same (fun b => R b ∨ (w.heap.size ≤ b ∧ b < w'.heap.size)) w' w2 → LoM w2 (some b) M.n (M.scr ++ l)) (hw : ∀ s ∈ l, Wf s) (hbR : w.heap.size ≤ b ∧ b < w'.heap.size) :
    WrP (0, { M with scr := M.scr ++ l }) g X R w (.returned (.int .i64 0)) w' := by
  have hk : ∀ k, k < w.heap.size → k ≠ g → w'.heap[k]? = w.heap[k]? := fun k h1 h2 => hb.block k h1 (fun e => h2 (Option.some.inj e))
  refine ⟨rfl, X, fun b => R b ∨ (w.heap.size ≤ b ∧ b < w'.heap.size), ⟨{ L with vs := v, lo := some b }, h.secs, hx, (hk _ (h.lt _ (.inl h.xs)) (Ne.symm h.ne)).trans h.sec, h.cap, fun i p hi => (h.maps i p hi).kept fun c hc => hk c (h.lt c (.inl (h.xm i p c hi hc))) (h.map_ne hi hc).1, h.inj, hs, hl, h.xg, h.xs, h.xm, ?_, ?_, ?_, fun k hk => by obtain rfl := Option.some.inj hk; exact .inr hbR⟩, hb.os, hb.tape, hb.output, hb.size, fun k h1 h2 => hk k h1 (fun e => h2 (e ▸ h.xg)), fun _ h => .inl h, fun _ h => h.imp id And.left⟩
  · rintro k (h1 | h1 | h1)
    · exact Nat.lt_of_lt_of_le (h.lt k (.inl h1)) hb.size
    · exact Nat.lt_of_lt_of_le (h.lt k (.inr h1)) hb.size
    · exact h1.2
  · rintro k h1 (h2 | h2)
    · exact h.dis k h1 h2
    · have := h.lt k (.inl h1); omega
  · intro s hs
    rcases List.mem_append.1 hs with h1 | h1
    · exact h.wf s h1
    · exact hw s h1
def ChainW (wd wa w2 w3 : World) (r : Nat) (W : World) : Prop := W = (match r with | 0 => wd | 1 => wa | 2 => w2 | _ => w3)
/-- while the lost bytes are dealt out: the medium's block, the groups, what else stays -/
structure DealW (wl : World) (g b : Nat) (cs : List Value) (L : List Int) (W : World) : Prop where
  x : Bx W g 88 cs
  gr : ∃ D : DataW Unit, W.ownsGroups Try.prog 3 wl.heap.size 3 .i64 b L.length D ∧ GrD D (part L)
  le : wl.grownBy W (some b)
  lt : b < wl.heap.size ∧ g < wl.heap.size ∧ g ≠ b
theorem cellI_new (W : World) (t : TypeId) (x : Int) : ∀ j u, [Value.int .i64 x][j]? = some u → (W.alloc (.cells #[.int .i64 x] t)).cell? ((⟨W.heap.size, 0, none⟩ : Addr).add j) = some u := cell_one_new W _ t
set_option maxRecDepth 100000 in
/-- one lost byte dealt out: the worlds that the round comes through -/
theorem DealW.step {wl wr : World} {g b : Nat} {cs : List Value} {L : List Int} (h : DealW wl g b cs L wr) {i : Nat} (hi : i < 5000) (x : Int) (hx : x / 2352 = (i : Int)) (h0 : 0 ≤ x) (hL : L.length ≤ 20000000) (ty : TypeId) :
    ∃ v v' w2 w3, (Instr.lookup 86 (.map (some b)) (.int .i64 (i : Nat)) false).run Try.prog wr.drew = .ok v wr.drew ∧
      (Instr.lookup 86 (.map (some b)) (.int .i64 (i : Nat)) false).run Try.prog (wr.drew.alloc (.cells #[.int .i64 (x % 2352)] 3)) = .ok v (wr.drew.alloc (.cells #[.int .i64 (x % 2352)] 3)) ∧
      (Builtin.append_ #[30, 30] ty #[v, .slice (some ⟨wr.heap.size, 0, none⟩) 1 1]).run Try.prog (wr.drew.alloc (.cells #[.int .i64 (x % 2352)] 3)) = .ok v' w2 ∧
      (Instr.mapUpdate 86 (.map (some b)) (.int .i64 (i : Nat)) v').run Try.prog w2 = .ok () w3 ∧ DealW wl g b cs (L ++ [x]) w3 ∧ w2.cell? ⟨g, 4, none⟩ = wr.cell? ⟨g, 4, none⟩ := by
  obtain ⟨D, hg, hD⟩ := h.gr
  have hkey := keyOf_int_mk Try.underlying3 (wfK12 hi)
  obtain ⟨i0, hi0, hz0, hz1, hz2⟩ := info_parts Try.infoInt9
  have hgd : wr.drew.ownsGroups Try.prog 3 wl.heap.size 3 .i64 b L.length D := hg
  obtain ⟨v, zs, hrun, hat, hown, hzl, hback⟩ := hgd.at lawI12 Try.underlying86 (zeroLo wr.drew) (by unfold maxLen; omega) hkey
  have hxx := h.x.lt
  have hlook := lookup_move (w' := wr.drew.alloc (.cells #[.int .i64 (x % 2352)] 3)) hgd (by
    have hb : b < wr.drew.heap.size := by
      obtain ⟨es, clock, hb, _⟩ := hgd
      exact (Array.getElem?_eq_some_iff.1 hb).1
    exact heap_alloc_old wr.drew _ hb) hi hrun
  have hsz : wl.heap.size ≤ wr.heap.size := h.le.size
  obtain ⟨v', w2, hrunA, r1, r2, r3, r4⟩ := run_append_own_at (P := Try.prog) (wr.drew.alloc (.cells #[.int .i64 (x % 2352)] 3)) wl.heap.size 30 ty 3 i0 (.int .i64 0) 1 8 Try.underlying30 hi0 hz0 hz1 hz2 rfl (by decide) v zs.length (zs.map (Value.int .i64)) (hown.1.alloc _) ⟨wr.heap.size, 0, none⟩ 1 1 [.int .i64 (x % 2352)] rfl (cellI_new wr.drew 3 (x % 2352)) (ints_oneCell .i64 [x % 2352]) (by unfold maxLen; omega) (by omega) (by simp; omega)
  have hgb : wr.drew.grownBy w2 v.ownBlock := (World.grownBy_alloc _ _ _).trans r2
  have hwf : (Lit.int .i64 (x % 2352)).wf = true := by simp [Lit.wf, IntKind.min, IntKind.max, IntKind.signed, IntKind.bits]; omega
  have hap := hown.appended r1 hwf
  obtain ⟨w3, hrunU, k1, k2⟩ := hback w2 v' (zs ++ [x % 2352]) hgb hap (by simp; omega) (r4.imp id fun h => ⟨_, h, by simp⟩)
  have hzs : zs = part L i := by
    rcases hD i hi with ⟨h3, h4⟩ | h3
    · rw [h3] at hat
      rcases hown.datum (H := Unit) with ⟨_, h5⟩ | h5
      · rw [h5, h4]
      · rw [h5] at hat; cases hat
    · rw [h3] at hat
      rcases hown.datum (H := Unit) with ⟨h5, _⟩ | h5
      · rw [h5] at hat; cases hat
      · rw [h5] at hat
        injection hat with e1 _
        exact (lits_inj e1).symm
  subst hzs
  have hlt := h.lt
  have hvb : ∀ k, v.ownBlock = some k → wl.heap.size ≤ k := fun k hk => (hown.1.lt k hk).1
  have hg2 : w2.heap[g]? = wr.heap[g]? := hgb.block g hxx (fun e => by have := hvb g e.symm; omega)
  have hx2 : Bx w2 g 88 cs := hg2.trans h.x
  have hx3 : Bx w3 g 88 cs := (k2.block g hx2.lt (fun e => hlt.2.2 (Option.some.inj e))).trans hx2
  refine ⟨v, v', w2, w3, hrun, hlook, hrunA, hrunU, ⟨hx3, ⟨_, by rw [List.length_append]; exact k1, GrD.snoc hD ?_ hi hx (hap.datum_pos (by simp))⟩, ?_, hlt⟩, World.cell?_of_block hg2⟩
  · obtain ⟨es, clock, _, _, _, rfl, _⟩ := hg
    exact ⟨_, rfl⟩
  · refine ⟨?_, ?_, ?_, Nat.le_trans hsz (Nat.le_trans hgb.size k2.size), fun k h1 h2 => ?_⟩
    · exact k2.os.trans (hgb.os.trans h.le.os)
    · exact k2.tape.trans (hgb.tape.trans h.le.tape)
    · exact k2.output.trans (hgb.output.trans h.le.output)
    · have e1 : w2.heap[k]? = wr.heap[k]? := hgb.block k (Nat.lt_of_lt_of_le h1 hsz) (fun e => by have := hvb k e.symm; omega)
      have e2 : w3.heap[k]? = w2.heap[k]? := k2.block k (Nat.lt_of_lt_of_le h1 (Nat.le_trans hsz hgb.size)) h2
      exact e2.trans (e1.trans (h.le.block k h1 h2))
theorem frN_nat {n : Nat} (h1 : 1 ≤ n) (h2 : n ≤ 4096) : frN (98 * (n : Int)) = ((98 * n + 108 : Nat) : Int) := by unfold frN; rw [if_neg (by omega)]; omega
theorem lostL_len {n : Nat} (h : n ≤ 4096) (l : List Sc) : (lostL n l).length ≤ 20000000 := by
  have := lostN_length l (98 * n)
  have e : (lostL n l).length = (lostN l (98 * n)).length := rfl
  omega
def anyR (_ : Nat) (_ _ : World) : Prop := True
theorem anyR_mk (r : Nat) (w w' : World) : anyR r w w' := trivial
theorem scrR_code (F : List (List UInt8)) (l : List Sc) : (scrR F l).2 = if fitA F.length l = false then 1 else 0 := by unfold scrR; split <;> rfl
theorem lostR_all {n : Nat} (h1 : 1 ≤ n) (h2 : n ≤ 4096) {l : List Sc} (hf : fitA (98 * n + 108) l = true) : lostR (98 * (n : Int)) l = (lostL n l, 0) := by
  unfold lostR lostL
  have e : (98 * (n : Int)).toNat = 98 * n := by omega
  rw [if_neg (by omega), e, if_neg (by rw [hf]; decide)]
def scrV (g b ia hz : Nat) (x : Int) (vv v2 : Value) (i : Nat) (v : Value) (W : World) : Prop := match i with
  | 0 => v = .pointer (some ⟨g, 0, none⟩)
  | 1 => v = .pointer (some ⟨g, 0, none⟩)
  | 2 => v = .pointer (some ⟨g, 4, none⟩)
  | 3 => v = .map (some b)
  | 4 => v = .int .i64 (ia : Nat)
  | 5 => v = .pointer (some ⟨g, 0, none⟩)
  | 6 => v = .pointer (some ⟨g, 0, none⟩)
  | 7 => v = .pointer (some ⟨g, 4, none⟩)
  | 8 => v = .map (some b)
  | 9 => v = .int .i64 (ia : Nat)
  | 10 => v = vv
  | 11 => v = .int .i64 x
  | 12 => v = .int .i64 (x % 2352)
  | 13 => v = .slice (some ⟨hz, 0, none⟩) 1 1
  | 14 => v = v2
  | _ => True
def scrVE : Nat → Option Nat
  | 13 => some 0
  | 14 => some 1
  | 15 => some 2
  | _ => none
theorem scrV_keep (g b ia hz : Nat) (x : Int) (vv v2 : Value) (i r : Nat) (v : Value) (W W' : World) (hk : ∀ k, scrVE i = some k → k < r) (hR : (anyR) r W W') (h : scrV g b ia hz x vv v2 i v W) : scrV g b ia hz x vv v2 i v W' := by
  unfold scrV at h ⊢
  split at h <;> first | exact h
set_option maxRecDepth 100000 in
set_option maxHeartbeats 4000000 in
theorem scratch12 {w : World} {g : Nat} {M : Med} {X R : Nat → Prop} {N : Nat} (h : MedW w g M X R) (ho : M.Ok N) (vl : Value) (l : List Sc) (hl : CameSc w vl l) (hl2 : l.length ≤ 1000000) :
    Calls Try.prog 13 #[.pointer (some ⟨g, 0, none⟩), vl] w (WrP (M.scratch l) g X R w) := by
  obtain ⟨L, hc⟩ := h
  obtain ⟨c0, c1, c2, c3, c4⟩ := hc.cells
  have hsc := hc.scr w fun _ _ => rfl
  obtain ⟨asc, csc, hvs, hcs⟩ := RdD.form hsc
  rw [hvs] at c3 hsc
  obtain ⟨hv3, hcut⟩ := cut3_form Try.underlying22 Try.sizeSc hsc M.scr.length (Nat.le_refl _)
  have hnl : asc = none → M.scr = [] := fun e => by
    obtain ⟨b, off, hcell⟩ := RdD.at hsc
    by_cases h3 : M.scr.length = 0
    · exact List.length_eq_zero_iff.1 h3
    · have := (hcell 0 (by omega)).1; rw [e] at this; cases this
  have hsA : Hid (∀ w', Same R w w' → RdSc w' (.slice asc M.scr.length M.scr.length) M.scr) := Lib.hid fun w' h' => by
    have := hc.scr w' h'
    rw [hvs] at this
    exact (cut3_form (P := Try.prog) Try.underlying22 Try.sizeSc this M.scr.length (Nat.le_refl _)).1
  have hRl : Hid (∀ b, R b → b < w.heap.size) := Lib.hid fun b hb => hc.lt b (.inr hb)
  obtain ⟨al, cl, rfl, hcl⟩ := RdD.form hl.1
  have HLW : Hid (∀ s ∈ l, Wf s) := Lib.hid fun s hs => by
    obtain ⟨i, hi, rfl⟩ := List.getElem_of_mem hs
    have := hl.2.1 i hi
    rwa [scA_get hi] at this
  have HMW := Lib.hid hc.wf
  have HSL := Lib.hid ho.scr
  have HFIT := Lib.hid ho.fit
  obtain ⟨n1, n2⟩ := ho.n
  have HC := Lib.hid hc
  have HL := Lib.hid hl
  have HN := Lib.hid hc.n
  have HBX := Lib.hid hc.box
  have hsl := ho.scr
  clear hc hsc hcs hvs c0 c1 c4 hv3 ho hcl hl
  have HNL := Lib.hid hnl
  clear hnl
  rw [HN.out] at c2
  go_enter Try.func13, Try.ntmps13
  go_upto_region 3 with (at_builtin; refine wpList_scAny rfl _ _ rfl hsA.out hRl.out HL.out.1 (by omega) HNL.out rfl rfl ?_; intro v4 w4 hs4 hg4)
  have hb4 : Below w.heap.size w w4 := (Below.refl _ _).grown hg4 (Nat.le_refl _) (fun k hk => by cases hk)
  have HS4 := Lib.hid hs4
  obtain ⟨av4, cv4, hv4, hc4⟩ := RdD.form (hs4 w4 fun _ _ => rfl)
  subst hv4
  have HB4 := Lib.hid hb4
  have k2 := (HC.out.below hb4).cells.2.2.1
  rw [HN.out] at k2
  have HL4 := Lib.hid (HL.out.keep hb4)
  clear hs4 hg4 hb4 hc4 hcut c2 c3
  go_wp2_with fail
  refine (frames_any _ _).mono ?_
  rintro e w5 ⟨rfl, rfl⟩
  rw [frN_nat n1 n2]
  go_wp2_with (refine wpList_mkStr rfl _ _ rfl (98 * M.n + 108) rfl rfl rfl rfl (by omega) ?_; intro w5 v5 hv5 hr5 hb5)
  subst hv5
  have HL5 := Lib.hid (HL4.out.keep hb5)
  have HB5 := Lib.hid (HB4.out.trans (hb5.mono HB4.out.size))
  refine (pscratch_any _ _ _ l _ hr5 (by rw [List.length_replicate]; omega) HL5.out).mono ?_
  rintro e w6 ⟨v6, rfl, ho6, hb6⟩
  have HB56 := Lib.hid (hb5.trans (hb6.mono hb5.size))
  have HB6 := Lib.hid (HB5.out.trans (hb6.mono HB5.out.size))
  rw [scrR_code, List.length_replicate]
  clear ho6 hb6 hb5 hr5 HL4 HL5 k2
  by_cases hf : fitA (98 * M.n + 108) l = false
  · rw [if_pos hf]
    have HW := Lib.hid (show WrP (M.scratch l) g X R w (.returned (.int .i64 1)) w6 from by
      have e : M.scratch l = (1, M) := by unfold Med.scratch; rw [if_pos hf]
      rw [e]
      exact ⟨rfl, X, R, ⟨L, HC.out.below HB6.out⟩, .of HB6.out⟩)
    go_wp2_with fail
    go_ret
    exact HW.out
  rw [if_neg hf]
  by_cases h256 : M.scr.length + l.length > 256
  · have HW := Lib.hid (show WrP (M.scratch l) g X R w (.returned (.int .i64 7)) w6 from by
      have e : M.scratch l = (7, M) := by unfold Med.scratch; rw [if_neg hf, if_pos h256]
      rw [e]
      exact ⟨rfl, X, R, ⟨L, HC.out.below HB6.out⟩, .of HB6.out⟩)
    go_wp2_with fail
    go_ret
    exact HW.out
  have HZ : Hid (M.scratch l = (0, { M with scr := M.scr ++ l })) := Lib.hid (by unfold Med.scratch; rw [if_neg hf, if_neg h256])
  have hfa : fitA (98 * M.n + 108) (M.scr ++ l) = true := by rw [fitA_append, HFIT.out, Bool.true_and]; simpa using hf
  have HF := Lib.hid hfa
  have HX6 := Lib.hid (HBX.out.call HB6.out)
  have q3 := HX6.out.free 3
  have q4 := HX6.out.free 4
  have m2 := HX6.out.cell (i := 2) rfl
  have m3 := HX6.out.cell (i := 3) rfl
  have m4 := HX6.out.cell (i := 4) rfl
  rw [HN.out] at m2
  have hmm := @run_makeMap Try.prog
  clear hfa hf
  go_upto_region 9 with (fail)
  have hx7 := HX6.out.set 3 (.slice av4 (M.scr.length + l.length) cv4)
  generalize hw7 : w6.setCell ⟨g, 3, none⟩ (.slice av4 (M.scr.length + l.length) cv4) = w7 at *
  have HW7 := Lib.hid hw7
  clear hw7 q3 q4 m2 m3 m4
  have HX7 : Hid (Bx w7 g 88 [.int .i64 M.kind, .int .i64 M.endu, .slice (some ⟨L.gs, 0, none⟩) L.S.length L.cap, .slice av4 (M.scr.length + l.length) cv4, .map L.lo]) := Lib.hid hx7
  have q4 := HX7.out.free 4
  have m4 := HX7.out.cell (i := 4) rfl
  clear hx7
  have q5 := (HX7.out.alloc (.map #[] 0)).free 4
  have m5 := (HX7.out.alloc (.map #[] 0)).cell (i := 4) rfl
  go_upto_region 10 with (fail)
  have hx8 := (HX7.out.alloc (.map #[] 0)).set 4 (.map (some w7.heap.size))
  have hm8 : ((w7.alloc (.map #[] 0)).setCell ⟨g, 4, none⟩ (.map (some w7.heap.size))).heap[w7.heap.size]? = some (.map #[] 0) := (Below.heap_setCell _ _ _ _ (by have := HX7.out.lt; simp only [ne_eq]; omega)).trans (heap_alloc_new _ _)
  have hz8 : ((w7.alloc (.map #[] 0)).setCell ⟨g, 4, none⟩ (.map (some w7.heap.size))).heap.size = w7.heap.size + 1 := by simp
  have hg8 : w7.grownBy ((w7.alloc (.map #[] 0)).setCell ⟨g, 4, none⟩ (.map (some w7.heap.size))) (some g) := ⟨rfl, rfl, rfl, by simp, fun k h1 h2 => (Below.heap_setCell _ _ _ k (fun e => h2 (by rw [e]))).trans (heap_alloc_old _ _ h1)⟩
  generalize ((w7.alloc (.map #[] 0)).setCell ⟨g, 4, none⟩ (.map (some w7.heap.size))) = w8 at *
  obtain ⟨b, hb⟩ : ∃ b, b = w7.heap.size := ⟨_, rfl⟩
  rw [← hb] at hx8 hm8 hz8 ⊢
  have HX8 : Hid (Bx w8 g 88 [.int .i64 M.kind, .int .i64 M.endu, .slice (some ⟨L.gs, 0, none⟩) L.S.length L.cap, .slice av4 (M.scr.length + l.length) cv4, .map (some b)]) := Lib.hid hx8
  have HM8 := Lib.hid hm8
  have HZ8 := Lib.hid hz8
  have HB := Lib.hid hb
  have hzz : w6.heap.size = w7.heap.size := by rw [← HW7.out]; simp
  have hg68 : w6.grownBy w8 (some g) := by
    have h67 : w6.grownBy w7 (some g) := by rw [← HW7.out]; exact ⟨rfl, rfl, rfl, by simp, fun k h1 h2 => Below.heap_setCell _ _ _ k (fun e => h2 (by rw [e]))⟩
    exact h67.trans hg8
  have hgw : w.grownBy w8 (some g) := ⟨hg68.os.trans HB6.out.os, hg68.tape.trans HB6.out.tape, hg68.output.trans HB6.out.output, Nat.le_trans HB6.out.size hg68.size, fun k h1 h2 => (hg68.block k (Nat.lt_of_lt_of_le h1 HB6.out.size) h2).trans (HB6.out.block k h1)⟩
  have HG := Lib.hid hgw
  have HS8 : Hid (∀ w2, Same (fun b => R b ∨ (w.heap.size ≤ b ∧ b < w4.heap.size)) w8 w2 → RdSc w2 (.slice av4 (M.scr.length + l.length) cv4) (M.scr ++ l)) := Lib.hid fun w2 h2 => by
    rw [← List.length_append]
    refine HS4.out w2 fun k hk => (h2 k hk).trans ?_
    have hk4 : k < w4.heap.size := hk.elim (fun h => Nat.lt_of_lt_of_le (hRl.out k h) HB4.out.size) And.right
    refine (hg68.block k (Nat.lt_of_lt_of_le hk4 HB56.out.size) fun e => ?_).trans (HB56.out.block k hk4)
    obtain rfl := Option.some.inj e
    rcases hk with h1 | h1
    · exact HC.out.dis _ HC.out.xg h1
    · have := HBX.out.lt; omega
  have m2 := HX8.out.cell (i := 2) rfl
  rw [HN.out] at m2
  have HCS : Hid (∀ w2, Same (fun b => R b ∨ (w.heap.size ≤ b ∧ b < w4.heap.size)) w8 w2 → CameSc w2 (.slice av4 (M.scr.length + l.length) cv4) (M.scr ++ l)) := Lib.hid fun w2 h2 => ⟨HS8.out w2 h2, fun i hi => by
    rw [scA_get hi]
    rcases List.mem_append.1 (List.getElem_mem hi) with h1 | h1
    · exact HMW.out _ h1
    · exact HLW.out _ h1, by rw [List.length_append]; omega⟩
  clear q4 m4 q5 m5 hx8 hm8 hz8 hg8 hb hgw hg68
  have HZZ := Lib.hid hzz
  clear hzz
  go_wp2_with fail
  refine (plost_any _ _ _ _ (HCS.out _ fun _ _ => rfl)).mono ?_
  rintro e w9 ⟨v9, rfl, ho9, hb9⟩
  rw [lostR_all n1 n2 HF.out] at ho9 ⊢
  obtain ⟨O, hO⟩ : ∃ O, O = lostL M.n (M.scr ++ l) := ⟨_, rfl⟩
  rw [← hO] at ho9 ⊢
  have hOl : O.length ≤ 20000000 := by rw [hO]; exact lostL_len n2 _
  have HOb : Hid (∀ x ∈ O, 0 ≤ x ∧ x < 2352 * (M.n : Int)) := Lib.hid fun x hx => by
    rw [hO] at hx
    have := lostN_bd (M.scr ++ l) (98 * M.n) x hx
    omega
  have HO := Lib.hid hO
  clear hO
  change w9.ownsRow w8.heap.size 3 1 v9 O.length (is O) at ho9
  obtain ⟨a9, c9, hv9⟩ := ownD_form ho9
  subst hv9
  have hdeal : DealW w9 g b [.int .i64 M.kind, .int .i64 M.endu, .slice (some ⟨L.gs, 0, none⟩) L.S.length L.cap, .slice av4 (M.scr.length + l.length) cv4, .map (some b)] [] w9 := by
    have h8 := HZ8.out
    have h9 := hb9.size
    have hg := HX8.out.lt
    have hgl := HBX.out.lt
    have hws := HB6.out.size
    have hzz := HZZ.out
    have hbb := HB.out
    refine ⟨HX8.out.call hb9, ⟨.map [], ownsGroups_none ((hb9.block b (by omega)).trans HM8.out) (by omega), fun i _ => .inl ⟨rfl, rfl⟩⟩, World.grownBy.refl _ _, by omega, by omega, by omega⟩
  have HB9 := Lib.hid hb9
  have HO9 := Lib.hid ho9
  clear hb9 ho9 m2 hmm
  go_wp2_with fail
  generalize hcs : ([.int .i64 M.kind, .int .i64 M.endu, .slice (some ⟨L.gs, 0, none⟩) L.S.length L.cap, .slice av4 (M.scr.length + l.length) cv4, .map (some b)] : List Value) = cs at hdeal
  have HCSE := Lib.hid hcs
  clear hcs
  go_loopw [68] (fun vk wr => ∃ k : Nat, k ≤ O.length ∧ vk = .int .i64 k ∧ DealW w9 g b cs (O.take k) wr) (fun vk _ => O.length - (RowKit.intOf vk).toNat)
  case atStart => exact ⟨0, by omega, rfl, hdeal⟩
  case round =>
    clear hdeal
    obtain ⟨k, hk, rfl, hd⟩ := hrel
    by_cases hlt : k < O.length
    · have hoW : wr.ownsRow w8.heap.size 3 1 (.slice a9 O.length c9) O.length (is O) := HO9.out.kept hd.le (.inr fun e => by
        have := ownD_block HO9.out b e
        have := HZ8.out
        omega)
      obtain ⟨ga, ca, hva, hga1, hga2⟩ := ownD_addr hoW (by omega)
      simp only [Value.slice.injEq] at hva
      obtain ⟨hva, _, _⟩ := hva
      subst hva
      have hcl : wr.cell? ⟨ga, k, none⟩ = some (.int .i64 (ixI O k)) := by
        have := hoW.cells (g := ga) rfl k _ (D13.is_get hlt)
        rwa [Addr.add_lit, Nat.zero_add] at this
      have hxb := HOb.out _ (D13.ixI_mem hlt)
      have hix := fun w' => run_idxS Try.underlying30 Try.sizeInt9 (cap := c9) (n := O.length) (k := k) (b := ga) (off := 0) rfl hlt _ rfl w'
      simp only [Nat.mul_one, Nat.zero_add] at hix
      have HTK : Hid (O.take (k + 1) = O.take k ++ [ixI O k]) := Lib.hid (by rw [List.take_succ_eq_append_getElem hlt, ← D13.ixI_get hlt])
      generalize ixI O k = x at *
      obtain ⟨ia, hi⟩ : ∃ i : Nat, x / 2352 = (i : Int) := ⟨(x / 2352).toNat, by omega⟩
      have hi5 : ia < 5000 := by omega
      have HD := Lib.hid (fun ty => hd.step hi5 x hi hxb.1 (by rw [List.length_take]; omega) ty)
      have HDD := Lib.hid hd
      have HI := Lib.hid hi
      clear hd hoW hga1 hga2
      go_upto_region 15 with (fail)
      rw [hi]
      obtain ⟨vv, v2, w2, w3, r1, r2, r3, r4, hd3, e4⟩ := HD.out 30
      obtain ⟨hz, hhz⟩ : ∃ hz, hz = wr.heap.size := ⟨_, rfl⟩
      rw [← hhz] at r3
      have HHZ := Lib.hid hhz
      clear HD hhz
      have HR1 := Lib.hid r1
      have HR2 := Lib.hid r2
      have HR3 := Lib.hid r3
      have HR4 := Lib.hid r4
      have HD3 := Lib.hid hd3
      have HE4 : Hid (∀ r W, ChainW wr.drew (wr.drew.alloc (.cells #[.int .i64 (x % 2352)] 3)) w2 w3 r W → W.cell? ⟨g, 4, none⟩ = some (.map (some b))) := Lib.hid fun r W hc => by
        have q0 : wr.cell? ⟨g, 4, none⟩ = some (.map (some b)) := HDD.out.x.cell (i := 4) (by rw [← HCSE.out]; rfl)
        have q1 : (wr.drew.alloc (.cells #[.int .i64 (x % 2352)] 3)).cell? ⟨g, 4, none⟩ = some (.map (some b)) := ((show Bx wr.drew g 88 cs from HDD.out.x).alloc _).cell (i := 4) (by rw [← HCSE.out]; rfl)
        have q3 : w3.cell? ⟨g, 4, none⟩ = some (.map (some b)) := HD3.out.x.cell (i := 4) (by rw [← HCSE.out]; rfl)
        unfold ChainW at hc
        subst hc
        split
        · exact q0
        · exact q1
        · exact e4.trans q0
        · exact q3
      clear r1 r2 r3 r4 hd3 e4 hcl hix
      refine wp_region_seq (by kernel_rfl) (anyR) (ChainW wr.drew (wr.drew.alloc (.cells #[.int .i64 (x % 2352)] 3)) w2 w3) (scrV g b ia hz x vv v2) (fun _ => false) scrVE 3 (by kernel_rfl) (by kernel_rfl) (.inl (by kernel_rfl)) (scrV_keep g b ia hz x vv v2) (rfl) ⟨?_, ?_, ?_, ?_, ?_, ?_, ?_, ?_, ?_, ?_, ?_, ?_, ?_, ?_, ?_, ?_, trivial⟩ ?_
      · intro r a W hc hsz hold hdep hnot hlo hhi hrk
        have o0 : a.tmps.getD 0 undef = .pointer (some ⟨g, 0, none⟩) := hold 0 (by kernel_rfl)
        clear hsz hold hdep hnot hlo hhi hrk
        refine stepR_do rfl (wanted_none rfl) ?_
        refine stepS_val (v := .pointer (some ⟨g, 0, none⟩)) (anyR_mk _ _ _) hc rfl fun K hK => ?_
        go_simp
        exact hK
      · intro r a W hc hsz hold hdep hnot hlo hhi hrk
        have d0 : a.tmps.getD 74 undef = .pointer (some ⟨g, 0, none⟩) := hdep 0 (by kernel_rfl) rfl _ rfl
        clear hsz hold hdep hnot hlo hhi hrk
        refine stepR_do rfl (wanted_none rfl) ?_
        refine stepS_val (v := .pointer (some ⟨g, 0, none⟩)) (anyR_mk _ _ _) hc rfl fun K hK => ?_
        go_simp
        exact hK
      · intro r a W hc hsz hold hdep hnot hlo hhi hrk
        have d1 : a.tmps.getD 75 undef = .pointer (some ⟨g, 0, none⟩) := hdep 1 (by kernel_rfl) rfl _ rfl
        clear hsz hold hdep hnot hlo hhi hrk
        refine stepR_do rfl (wanted_none rfl) ?_
        refine stepS_val (v := .pointer (some ⟨g, 4, none⟩)) (anyR_mk _ _ _) hc rfl fun K hK => ?_
        go_simp
        exact hK
      · intro r a W hc hsz hold hdep hnot hlo hhi hrk
        have d2 : a.tmps.getD 76 undef = .pointer (some ⟨g, 4, none⟩) := hdep 2 (by kernel_rfl) rfl _ rfl
        have q4 := HE4.out r W hc
        clear hsz hold hdep hnot hlo hhi hrk
        refine stepR_do rfl (wanted_none rfl) ?_
        refine stepS_val (v := .map (some b)) (anyR_mk _ _ _) hc rfl fun K hK => ?_
        go_simp
        exact hK
      · intro r a W hc hsz hold hdep hnot hlo hhi hrk
        have o13 : a.tmps.getD 13 undef = .int .i64 (ia : Nat) := hold 13 (by kernel_rfl)
        clear hsz hold hdep hnot hlo hhi hrk
        refine stepR_do rfl (wanted_none rfl) ?_
        refine stepS_val (v := .int .i64 (ia : Nat)) (anyR_mk _ _ _) hc rfl fun K hK => ?_
        go_simp
        exact hK
      · intro r a W hc hsz hold hdep hnot hlo hhi hrk
        have o0 : a.tmps.getD 0 undef = .pointer (some ⟨g, 0, none⟩) := hold 0 (by kernel_rfl)
        clear hsz hold hdep hnot hlo hhi hrk
        refine stepR_do rfl (wanted_none rfl) ?_
        refine stepS_val (v := .pointer (some ⟨g, 0, none⟩)) (anyR_mk _ _ _) hc rfl fun K hK => ?_
        go_simp
        exact hK
      · intro r a W hc hsz hold hdep hnot hlo hhi hrk
        have d5 : a.tmps.getD 79 undef = .pointer (some ⟨g, 0, none⟩) := hdep 5 (by kernel_rfl) rfl _ rfl
        clear hsz hold hdep hnot hlo hhi hrk
        refine stepR_do rfl (wanted_none rfl) ?_
        refine stepS_val (v := .pointer (some ⟨g, 0, none⟩)) (anyR_mk _ _ _) hc rfl fun K hK => ?_
        go_simp
        exact hK
      · intro r a W hc hsz hold hdep hnot hlo hhi hrk
        have d6 : a.tmps.getD 80 undef = .pointer (some ⟨g, 0, none⟩) := hdep 6 (by kernel_rfl) rfl _ rfl
        clear hsz hold hdep hnot hlo hhi hrk
        refine stepR_do rfl (wanted_none rfl) ?_
        refine stepS_val (v := .pointer (some ⟨g, 4, none⟩)) (anyR_mk _ _ _) hc rfl fun K hK => ?_
        go_simp
        exact hK
      · intro r a W hc hsz hold hdep hnot hlo hhi hrk
        have d7 : a.tmps.getD 81 undef = .pointer (some ⟨g, 4, none⟩) := hdep 7 (by kernel_rfl) rfl _ rfl
        have q4 := HE4.out r W hc
        clear hsz hold hdep hnot hlo hhi hrk
        refine stepR_do rfl (wanted_none rfl) ?_
        refine stepS_val (v := .map (some b)) (anyR_mk _ _ _) hc rfl fun K hK => ?_
        go_simp
        exact hK
      · intro r a W hc hsz hold hdep hnot hlo hhi hrk
        have o13 : a.tmps.getD 13 undef = .int .i64 (ia : Nat) := hold 13 (by kernel_rfl)
        clear hsz hold hdep hnot hlo hhi hrk
        refine stepR_do rfl (wanted_none rfl) ?_
        refine stepS_val (v := .int .i64 (ia : Nat)) (anyR_mk _ _ _) hc rfl fun K hK => ?_
        go_simp
        exact hK
      · intro r a W hc hsz hold hdep hnot hlo hhi hrk
        have d8 : a.tmps.getD 82 undef = .map (some b) := hdep 8 (by kernel_rfl) rfl _ rfl
        have d9 : a.tmps.getD 83 undef = .int .i64 (ia : Nat) := hdep 9 (by kernel_rfl) rfl _ rfl
        have hr2 := hhi 14 1 rfl (by kernel_rfl)
        clear hsz hold hdep hnot hlo hhi hrk
        refine stepR_do rfl (wanted_none rfl) ?_
        have hL : (Instr.lookup 86 (.map (some b)) (.int .i64 (ia : Nat)) false).run Try.prog W = .ok vv W := by
          have hc' := hc
          unfold ChainW at hc'
          subst hc'
          have h01 : r = 0 ∨ r = 1 := by omega
          rcases h01 with rfl | rfl
          · exact HR1.out
          · exact HR2.out
        refine stepS_val (v := vv) (anyR_mk _ _ _) hc rfl fun K hK => ?_
        clear hc
        go_simp
        exact hK
      · intro r a W hc hsz hold hdep hnot hlo hhi hrk
        have o12 : a.tmps.getD 12 undef = .int .i64 x := hold 12 (by kernel_rfl)
        clear hsz hold hdep hnot hlo hhi hrk
        refine stepR_do rfl (wanted_none rfl) ?_
        refine stepS_val (v := .int .i64 x) (anyR_mk _ _ _) hc rfl fun K hK => ?_
        go_simp
        exact hK
      · intro r a W hc hsz hold hdep hnot hlo hhi hrk
        have d11 : a.tmps.getD 85 undef = .int .i64 x := hdep 11 (by kernel_rfl) rfl _ rfl
        clear hsz hold hdep hnot hlo hhi hrk
        refine stepR_do rfl (wanted_none rfl) ?_
        refine stepS_val (v := .int .i64 (x % 2352)) (anyR_mk _ _ _) hc rfl fun K hK => ?_
        go_simp
        rw [Int.tmod_eq_emod_of_nonneg hxb.1]
        exact hK
      · intro r a W hc hsz hold hdep hnot hlo hhi hrk
        have hr := hrk 0 rfl
        subst hr
        have d12 : a.tmps.getD 86 undef = .int .i64 (x % 2352) := hdep 12 (by kernel_rfl) rfl _ rfl
        have e12 : a.tmps[86]?.getD undef = .int .i64 (x % 2352) := by rw [← Array.getD_eq_getD_getElem?]; exact d12
        clear hsz hold hdep hnot hlo hhi hrk
        refine stepR_do rfl (wanted_none rfl) ?_
        refine stepS_new (v := .slice (some ⟨hz, 0, none⟩) 1 1) (w' := wr.drew.alloc (.cells #[.int .i64 (x % 2352)] 3)) (anyR_mk _ _ _) (show ChainW _ _ _ _ 1 _ from rfl) rfl fun K hK => ?_
        obtain rfl : W = wr.drew := hc
        go_simp
        rw [← HHZ.out]
        exact hK
      · intro r a W hc hsz hold hdep hnot hlo hhi hrk
        have hr := hrk 1 rfl
        subst hr
        have d10 : a.tmps.getD 84 undef = vv := hdep 10 (by kernel_rfl) rfl _ rfl
        have e10 : a.tmps[84]?.getD undef = vv := by rw [← Array.getD_eq_getD_getElem?]; exact d10
        have d13 : a.tmps.getD 87 undef = .slice (some ⟨hz, 0, none⟩) 1 1 := hdep 13 (by kernel_rfl) rfl _ rfl
        have e13 : a.tmps[87]?.getD undef = .slice (some ⟨hz, 0, none⟩) 1 1 := by rw [← Array.getD_eq_getD_getElem?]; exact d13
        clear hsz hold hdep hnot hlo hhi hrk
        refine stepR_do rfl (wanted_none rfl) ?_
        obtain rfl : W = _ := hc
        have hA := HR3.out
        have v84 : a.eval (.tmp 84) = vv := d10
        have v87 : a.eval (.tmp 87) = .slice (some ⟨hz, 0, none⟩) 1 1 := d13
        refine stepS_new (v := v2) (w' := w2) (anyR_mk _ _ _) (show ChainW _ _ _ _ 2 _ from rfl) rfl fun K hK => ?_
        unfold Oper.wp execOp
        simp only [resolve, invoke, builtin, Sem.run_bind, Sem.run_pure, Result.andThen_ok, List.map_toArray, List.map_cons, List.map_nil, v84, v87, hA]
        exact hK
      · intro r a W hc hsz hold hdep hnot hlo hhi hrk
        have hr := hrk 2 rfl
        subst hr
        have d3 : a.tmps.getD 77 undef = .map (some b) := hdep 3 (by kernel_rfl) rfl _ rfl
        have d4 : a.tmps.getD 78 undef = .int .i64 (ia : Nat) := hdep 4 (by kernel_rfl) rfl _ rfl
        have d14 : a.tmps.getD 88 undef = v2 := hdep 14 (by kernel_rfl) rfl _ rfl
        clear hsz hold hdep hnot hlo hhi hrk
        refine stepR_do rfl (wanted_none rfl) ?_
        obtain rfl : W = _ := hc
        have hA := HR4.out
        refine stepS_new (v := undef) (w' := w3) (anyR_mk _ _ _) (show ChainW _ _ _ _ 3 _ from rfl) trivial fun K hK => ?_
        go_simp
        exact hK
      · intro a W hC hd hsz hold hval
        have d0 : a.tmps.getD 0 undef = .pointer (some ⟨g, 0, none⟩) := hold 0 (by kernel_rfl)
        have d1 : a.tmps.getD 1 undef = .slice al l.length cl := hold 1 (by kernel_rfl)
        have d2 : a.tmps.getD 2 undef = undef := hold 2 (by kernel_rfl)
        have d3 : a.tmps.getD 3 undef = undef := hold 3 (by kernel_rfl)
        have d4 : a.tmps.getD 4 undef = .int .i64 0 := hold 4 (by kernel_rfl)
        have d5 : a.tmps.getD 5 undef = .int .i64 ↑M.scr.length := hold 5 (by kernel_rfl)
        have d6 : a.tmps.getD 6 undef = .slice av4 (M.scr.length + l.length) cv4 := hold 6 (by kernel_rfl)
        have d7 : a.tmps.getD 7 undef = v6 := hold 7 (by kernel_rfl)
        have d8 : a.tmps.getD 8 undef = .int .i64 0 := hold 8 (by kernel_rfl)
        have d9 : a.tmps.getD 9 undef = .slice (some ⟨ga, 0, none⟩) O.length c9 := hold 9 (by kernel_rfl)
        have d10 : a.tmps.getD 10 undef = .int .i64 0 := hold 10 (by kernel_rfl)
        have d11 : a.tmps.getD 11 undef = undef := hold 11 (by kernel_rfl)
        have d14 : a.tmps.getD 14 undef = .pointer (some ⟨g, 0, none⟩) := hold 14 (by kernel_rfl)
        have d15 : a.tmps.getD 15 undef = .pointer (some ⟨g, 0, none⟩) := hold 15 (by kernel_rfl)
        have d16 : a.tmps.getD 16 undef = .pointer (some ⟨g, 3, none⟩) := hold 16 (by kernel_rfl)
        have d17 : a.tmps.getD 17 undef = .slice asc M.scr.length csc := hold 17 (by kernel_rfl)
        have d18 : a.tmps.getD 18 undef = .int .i64 ↑M.scr.length := hold 18 (by kernel_rfl)
        have d19 : a.tmps.getD 19 undef = .pointer (some ⟨g, 0, none⟩) := hold 19 (by kernel_rfl)
        have d20 : a.tmps.getD 20 undef = .pointer (some ⟨g, 0, none⟩) := hold 20 (by kernel_rfl)
        have d21 : a.tmps.getD 21 undef = .pointer (some ⟨g, 3, none⟩) := hold 21 (by kernel_rfl)
        have d22 : a.tmps.getD 22 undef = .slice asc M.scr.length csc := hold 22 (by kernel_rfl)
        have d23 : a.tmps.getD 23 undef = .int .i64 ↑M.scr.length := hold 23 (by kernel_rfl)
        have d24 : a.tmps.getD 24 undef = .int .i64 ↑M.scr.length := hold 24 (by kernel_rfl)
        have d25 : a.tmps.getD 25 undef = .slice asc M.scr.length M.scr.length := hold 25 (by kernel_rfl)
        have d26 : a.tmps.getD 26 undef = .slice al l.length cl := hold 26 (by kernel_rfl)
        have d27 : a.tmps.getD 27 undef = .slice av4 (M.scr.length + l.length) cv4 := hold 27 (by kernel_rfl)
        have d28 : a.tmps.getD 28 undef = .tuple #[v6, .int .i64 0] := hold 28 (by kernel_rfl)
        have d29 : a.tmps.getD 29 undef = .pointer (some ⟨g, 0, none⟩) := hold 29 (by kernel_rfl)
        have d30 : a.tmps.getD 30 undef = .pointer (some ⟨g, 0, none⟩) := hold 30 (by kernel_rfl)
        have d31 : a.tmps.getD 31 undef = .pointer (some ⟨g, 2, none⟩) := hold 31 (by kernel_rfl)
        have d32 : a.tmps.getD 32 undef = .slice (some ⟨L.gs, 0, none⟩) M.n L.cap := hold 32 (by kernel_rfl)
        have d33 : a.tmps.getD 33 undef = .int .i64 ↑M.n := hold 33 (by kernel_rfl)
        have d34 : a.tmps.getD 34 undef = .int .i64 (98 * ↑M.n) := hold 34 (by kernel_rfl)
        have d35 : a.tmps.getD 35 undef = .int .i64 (98 * ↑M.n + 108) := hold 35 (by kernel_rfl)
        have d36 : a.tmps.getD 36 undef = .slice (some ⟨w4.heap.size, 0, none⟩) (98 * M.n + 108) (98 * M.n + 108) := hold 36 (by kernel_rfl)
        have d37 : a.tmps.getD 37 undef = .slice al l.length cl := hold 37 (by kernel_rfl)
        have d38 : a.tmps.getD 38 undef = .tuple #[v6, .int .i64 0] := hold 38 (by kernel_rfl)
        have d39 : a.tmps.getD 39 undef = v6 := hold 39 (by kernel_rfl)
        have d40 : a.tmps.getD 40 undef = .int .i64 0 := hold 40 (by kernel_rfl)
        have d41 : a.tmps.getD 41 undef = .int .i64 0 := hold 41 (by kernel_rfl)
        have d42 : a.tmps.getD 42 undef = .bool false := hold 42 (by kernel_rfl)
        have d43 : a.tmps.getD 43 undef = undef := hold 43 (by kernel_rfl)
        have d44 : a.tmps.getD 44 undef = .slice av4 (M.scr.length + l.length) cv4 := hold 44 (by kernel_rfl)
        have d45 : a.tmps.getD 45 undef = .int .i64 (↑M.scr.length + ↑l.length) := hold 45 (by kernel_rfl)
        have d46 : a.tmps.getD 46 undef = .bool (decide ((256 : Int) < (M.scr.length : Int) + (l.length : Int))) := hold 46 (by kernel_rfl)
        have d47 : a.tmps.getD 47 undef = .pointer (some ⟨g, 0, none⟩) := hold 47 (by kernel_rfl)
        have d48 : a.tmps.getD 48 undef = .slice av4 (M.scr.length + l.length) cv4 := hold 48 (by kernel_rfl)
        have d49 : a.tmps.getD 49 undef = .pointer (some ⟨g, 0, none⟩) := hold 49 (by kernel_rfl)
        have d50 : a.tmps.getD 50 undef = .pointer (some ⟨g, 3, none⟩) := hold 50 (by kernel_rfl)
        have d51 : a.tmps.getD 51 undef = .pointer (some ⟨g, 0, none⟩) := hold 51 (by kernel_rfl)
        have d52 : a.tmps.getD 52 undef = .map (some b) := hold 52 (by kernel_rfl)
        have d53 : a.tmps.getD 53 undef = .pointer (some ⟨g, 0, none⟩) := hold 53 (by kernel_rfl)
        have d54 : a.tmps.getD 54 undef = .pointer (some ⟨g, 4, none⟩) := hold 54 (by kernel_rfl)
        have d55 : a.tmps.getD 55 undef = .tuple #[.slice (some ⟨ga, 0, none⟩) O.length c9, .int .i64 0] := hold 55 (by kernel_rfl)
        have d56 : a.tmps.getD 56 undef = .pointer (some ⟨g, 0, none⟩) := hold 56 (by kernel_rfl)
        have d57 : a.tmps.getD 57 undef = .pointer (some ⟨g, 0, none⟩) := hold 57 (by kernel_rfl)
        have d58 : a.tmps.getD 58 undef = .pointer (some ⟨g, 2, none⟩) := hold 58 (by kernel_rfl)
        have d59 : a.tmps.getD 59 undef = .slice (some ⟨L.gs, 0, none⟩) M.n L.cap := hold 59 (by kernel_rfl)
        have d60 : a.tmps.getD 60 undef = .int .i64 ↑M.n := hold 60 (by kernel_rfl)
        have d61 : a.tmps.getD 61 undef = .int .i64 (98 * ↑M.n) := hold 61 (by kernel_rfl)
        have d62 : a.tmps.getD 62 undef = .slice av4 (M.scr.length + l.length) cv4 := hold 62 (by kernel_rfl)
        have d63 : a.tmps.getD 63 undef = .tuple #[.slice (some ⟨ga, 0, none⟩) O.length c9, .int .i64 0] := hold 63 (by kernel_rfl)
        have d64 : a.tmps.getD 64 undef = .slice (some ⟨ga, 0, none⟩) O.length c9 := hold 64 (by kernel_rfl)
        have d65 : a.tmps.getD 65 undef = .int .i64 0 := hold 65 (by kernel_rfl)
        have d66 : a.tmps.getD 66 undef = .slice (some ⟨ga, 0, none⟩) O.length c9 := hold 66 (by kernel_rfl)
        have d67 : a.tmps.getD 67 undef = .int .i64 ↑O.length := hold 67 (by kernel_rfl)
        have d68 : a.tmps.getD 68 undef = .int .i64 ↑k := hold 68 (by kernel_rfl)
        clear hold
        obtain ⟨tm, df⟩ := a
        replace hd : df = [] := hd
        replace hsz : tm.size = 90 := hsz
        replace d0 : tm.getD 0 undef = .pointer (some ⟨g, 0, none⟩) := d0
        replace d1 : tm.getD 1 undef = .slice al l.length cl := d1
        replace d2 : tm.getD 2 undef = undef := d2
        replace d3 : tm.getD 3 undef = undef := d3
        replace d4 : tm.getD 4 undef = .int .i64 0 := d4
        replace d5 : tm.getD 5 undef = .int .i64 ↑M.scr.length := d5
        replace d6 : tm.getD 6 undef = .slice av4 (M.scr.length + l.length) cv4 := d6
        replace d7 : tm.getD 7 undef = v6 := d7
        replace d8 : tm.getD 8 undef = .int .i64 0 := d8
        replace d9 : tm.getD 9 undef = .slice (some ⟨ga, 0, none⟩) O.length c9 := d9
        replace d10 : tm.getD 10 undef = .int .i64 0 := d10
        replace d11 : tm.getD 11 undef = undef := d11
        replace d14 : tm.getD 14 undef = .pointer (some ⟨g, 0, none⟩) := d14
        replace d15 : tm.getD 15 undef = .pointer (some ⟨g, 0, none⟩) := d15
        replace d16 : tm.getD 16 undef = .pointer (some ⟨g, 3, none⟩) := d16
        replace d17 : tm.getD 17 undef = .slice asc M.scr.length csc := d17
        replace d18 : tm.getD 18 undef = .int .i64 ↑M.scr.length := d18
        replace d19 : tm.getD 19 undef = .pointer (some ⟨g, 0, none⟩) := d19
        replace d20 : tm.getD 20 undef = .pointer (some ⟨g, 0, none⟩) := d20
        replace d21 : tm.getD 21 undef = .pointer (some ⟨g, 3, none⟩) := d21
        replace d22 : tm.getD 22 undef = .slice asc M.scr.length csc := d22
        replace d23 : tm.getD 23 undef = .int .i64 ↑M.scr.length := d23
        replace d24 : tm.getD 24 undef = .int .i64 ↑M.scr.length := d24
        replace d25 : tm.getD 25 undef = .slice asc M.scr.length M.scr.length := d25
        replace d26 : tm.getD 26 undef = .slice al l.length cl := d26
        replace d27 : tm.getD 27 undef = .slice av4 (M.scr.length + l.length) cv4 := d27
        replace d28 : tm.getD 28 undef = .tuple #[v6, .int .i64 0] := d28
        replace d29 : tm.getD 29 undef = .pointer (some ⟨g, 0, none⟩) := d29
        replace d30 : tm.getD 30 undef = .pointer (some ⟨g, 0, none⟩) := d30
        replace d31 : tm.getD 31 undef = .pointer (some ⟨g, 2, none⟩) := d31
        replace d32 : tm.getD 32 undef = .slice (some ⟨L.gs, 0, none⟩) M.n L.cap := d32
        replace d33 : tm.getD 33 undef = .int .i64 ↑M.n := d33
        replace d34 : tm.getD 34 undef = .int .i64 (98 * ↑M.n) := d34
        replace d35 : tm.getD 35 undef = .int .i64 (98 * ↑M.n + 108) := d35
        replace d36 : tm.getD 36 undef = .slice (some ⟨w4.heap.size, 0, none⟩) (98 * M.n + 108) (98 * M.n + 108) := d36
        replace d37 : tm.getD 37 undef = .slice al l.length cl := d37
        replace d38 : tm.getD 38 undef = .tuple #[v6, .int .i64 0] := d38
        replace d39 : tm.getD 39 undef = v6 := d39
        replace d40 : tm.getD 40 undef = .int .i64 0 := d40
        replace d41 : tm.getD 41 undef = .int .i64 0 := d41
        replace d42 : tm.getD 42 undef = .bool false := d42
        replace d43 : tm.getD 43 undef = undef := d43
        replace d44 : tm.getD 44 undef = .slice av4 (M.scr.length + l.length) cv4 := d44
        replace d45 : tm.getD 45 undef = .int .i64 (↑M.scr.length + ↑l.length) := d45
        replace d46 : tm.getD 46 undef = .bool (decide ((256 : Int) < (M.scr.length : Int) + (l.length : Int))) := d46
        replace d47 : tm.getD 47 undef = .pointer (some ⟨g, 0, none⟩) := d47
        replace d48 : tm.getD 48 undef = .slice av4 (M.scr.length + l.length) cv4 := d48
        replace d49 : tm.getD 49 undef = .pointer (some ⟨g, 0, none⟩) := d49
        replace d50 : tm.getD 50 undef = .pointer (some ⟨g, 3, none⟩) := d50
        replace d51 : tm.getD 51 undef = .pointer (some ⟨g, 0, none⟩) := d51
        replace d52 : tm.getD 52 undef = .map (some b) := d52
        replace d53 : tm.getD 53 undef = .pointer (some ⟨g, 0, none⟩) := d53
        replace d54 : tm.getD 54 undef = .pointer (some ⟨g, 4, none⟩) := d54
        replace d55 : tm.getD 55 undef = .tuple #[.slice (some ⟨ga, 0, none⟩) O.length c9, .int .i64 0] := d55
        replace d56 : tm.getD 56 undef = .pointer (some ⟨g, 0, none⟩) := d56
        replace d57 : tm.getD 57 undef = .pointer (some ⟨g, 0, none⟩) := d57
        replace d58 : tm.getD 58 undef = .pointer (some ⟨g, 2, none⟩) := d58
        replace d59 : tm.getD 59 undef = .slice (some ⟨L.gs, 0, none⟩) M.n L.cap := d59
        replace d60 : tm.getD 60 undef = .int .i64 ↑M.n := d60
        replace d61 : tm.getD 61 undef = .int .i64 (98 * ↑M.n) := d61
        replace d62 : tm.getD 62 undef = .slice av4 (M.scr.length + l.length) cv4 := d62
        replace d63 : tm.getD 63 undef = .tuple #[.slice (some ⟨ga, 0, none⟩) O.length c9, .int .i64 0] := d63
        replace d64 : tm.getD 64 undef = .slice (some ⟨ga, 0, none⟩) O.length c9 := d64
        replace d65 : tm.getD 65 undef = .int .i64 0 := d65
        replace d66 : tm.getD 66 undef = .slice (some ⟨ga, 0, none⟩) O.length c9 := d66
        replace d67 : tm.getD 67 undef = .int .i64 ↑O.length := d67
        replace d68 : tm.getD 68 undef = .int .i64 ↑k := d68
        subst hd
        have e : tm = List.toArray (tm.getD 0 undef :: tm.getD 1 undef :: tm.getD 2 undef :: tm.getD 3 undef :: tm.getD 4 undef :: tm.getD 5 undef :: tm.getD 6 undef :: tm.getD 7 undef :: tm.getD 8 undef :: tm.getD 9 undef :: tm.getD 10 undef :: tm.getD 11 undef :: tm.getD 12 undef :: tm.getD 13 undef :: tm.getD 14 undef :: tm.getD 15 undef :: tm.getD 16 undef :: tm.getD 17 undef :: tm.getD 18 undef :: tm.getD 19 undef :: tm.getD 20 undef :: tm.getD 21 undef :: tm.getD 22 undef :: tm.getD 23 undef :: tm.getD 24 undef :: tm.getD 25 undef :: tm.getD 26 undef :: tm.getD 27 undef :: tm.getD 28 undef :: tm.getD 29 undef :: tm.getD 30 undef :: tm.getD 31 undef :: tm.getD 32 undef :: tm.getD 33 undef :: tm.getD 34 undef :: tm.getD 35 undef :: tm.getD 36 undef :: tm.getD 37 undef :: tm.getD 38 undef :: tm.getD 39 undef :: tm.getD 40 undef :: tm.getD 41 undef :: tm.getD 42 undef :: tm.getD 43 undef :: tm.getD 44 undef :: tm.getD 45 undef :: tm.getD 46 undef :: tm.getD 47 undef :: tm.getD 48 undef :: tm.getD 49 undef :: tm.getD 50 undef :: tm.getD 51 undef :: tm.getD 52 undef :: tm.getD 53 undef :: tm.getD 54 undef :: tm.getD 55 undef :: tm.getD 56 undef :: tm.getD 57 undef :: tm.getD 58 undef :: tm.getD 59 undef :: tm.getD 60 undef :: tm.getD 61 undef :: tm.getD 62 undef :: tm.getD 63 undef :: tm.getD 64 undef :: tm.getD 65 undef :: tm.getD 66 undef :: tm.getD 67 undef :: tm.getD 68 undef :: tm.getD 69 undef :: tm.getD 70 undef :: tm.getD 71 undef :: tm.getD 72 undef :: tm.getD 73 undef :: tm.getD 74 undef :: tm.getD 75 undef :: tm.getD 76 undef :: tm.getD 77 undef :: tm.getD 78 undef :: tm.getD 79 undef :: tm.getD 80 undef :: tm.getD 81 undef :: tm.getD 82 undef :: tm.getD 83 undef :: tm.getD 84 undef :: tm.getD 85 undef :: tm.getD 86 undef :: tm.getD 87 undef :: tm.getD 88 undef :: tm.getD 89 undef :: []) := arr_eq tm 90 hsz
        rw [d0, d1, d2, d3, d4, d5, d6, d7, d8, d9, d10, d11, d14, d15, d16, d17, d18, d19, d20, d21, d22, d23, d24, d25, d26, d27, d28, d29, d30, d31, d32, d33, d34, d35, d36, d37, d38, d39, d40, d41, d42, d43, d44, d45, d46, d47, d48, d49, d50, d51, d52, d53, d54, d55, d56, d57, d58, d59, d60, d61, d62, d63, d64, d65, d66, d67, d68] at e
        clear d0 d1 d2 d3 d4 d5 d6 d7 d8 d9 d10 d11 d14 d15 d16 d17 d18 d19 d20 d21 d22 d23 d24 d25 d26 d27 d28 d29 d30 d31 d32 d33 d34 d35 d36 d37 d38 d39 d40 d41 d42 d43 d44 d45 d46 d47 d48 d49 d50 d51 d52 d53 d54 d55 d56 d57 d58 d59 d60 d61 d62 d63 d64 d65 d66 d67 d68 hsz
        generalize tm.getD 12 undef = v12 at e
        generalize tm.getD 13 undef = v13 at e
        generalize tm.getD 69 undef = v69 at e
        generalize tm.getD 70 undef = v70 at e
        generalize tm.getD 71 undef = v71 at e
        generalize tm.getD 72 undef = v72 at e
        generalize tm.getD 73 undef = v73 at e
        generalize tm.getD 74 undef = v74 at e
        generalize tm.getD 75 undef = v75 at e
        generalize tm.getD 76 undef = v76 at e
        generalize tm.getD 77 undef = v77 at e
        generalize tm.getD 78 undef = v78 at e
        generalize tm.getD 79 undef = v79 at e
        generalize tm.getD 80 undef = v80 at e
        generalize tm.getD 81 undef = v81 at e
        generalize tm.getD 82 undef = v82 at e
        generalize tm.getD 83 undef = v83 at e
        generalize tm.getD 84 undef = v84 at e
        generalize tm.getD 85 undef = v85 at e
        generalize tm.getD 86 undef = v86 at e
        generalize tm.getD 87 undef = v87 at e
        generalize tm.getD 88 undef = v88 at e
        generalize tm.getD 89 undef = v89 at e
        subst e
        have hW : W = w3 := hC
        subst hW
        clear hval hC
        go_wp2_with fail
        have HD4 := HD3.out
        rw [← HTK.out] at HD4
        refine ⟨⟨k + 1, by omega, by go_num, HD4⟩, ?_⟩
        simp [RowKit.intOf]; omega
    · obtain rfl : k = O.length := by omega
      have hdo := hd
      rw [List.take_length] at hdo
      obtain ⟨D, hgr, hD⟩ := hdo.gr
      rw [HO.out] at hD
      have hD2 : GrD D (lostS M.n (M.scr ++ l)) := fun i hi => by
        have := hD i hi
        rwa [part_lost] at this
      have hz7 := HB.out
      have hz6 := HZZ.out
      have hwb : w.heap.size ≤ b := by have := HB6.out.size; omega
      have h48 : w4.heap.size ≤ b := by have := HB56.out.size; omega
      have hz8 := HZ8.out
      have h89 := HB9.out.size
      have h9r := hdo.le.size
      have hfin := MedC.scratched HC.out (w' := wr) (v := .slice av4 (M.scr.length + l.length) cv4) (b := b) (l := l) (by rw [HCSE.out]; exact hdo.x)
        ⟨hdo.le.os.trans (HB9.out.os.trans HG.out.os), hdo.le.tape.trans (HB9.out.tape.trans HG.out.tape), hdo.le.output.trans (HB9.out.output.trans HG.out.output), by omega, fun k h1 h2 => (hdo.le.block k (by omega) (fun e => by have := Option.some.inj e; omega)).trans ((HB9.out.block k (by omega)).trans (HG.out.block k h1 h2))⟩
        (fun w2 h2 => HS8.out w2 fun k hk => by
          have hk4 : k < w4.heap.size := hk.elim (fun h => Nat.lt_of_lt_of_le (hRl.out k h) HB4.out.size) And.right
          exact (h2 k (hk.imp id fun h => ⟨h.1, by omega⟩)).trans ((hdo.le.block k (by omega) (fun e => by have := Option.some.inj e; omega)).trans (HB9.out.block k (by omega))))
        (fun w2 h2 => LoM.move hgr (by omega) n2 hD2 fun k hk hlt => h2 k (.inr ⟨by omega, hlt⟩)) HLW.out ⟨hwb, by omega⟩
      rw [← HZ.out] at hfin
      have HFIN := Lib.hid hfin
      clear hfin hD2 hD hgr hdo hd hz7 hz6 hwb h48 hz8 h89 h9r
      go_wp2_with fail
      go_ret
      exact HFIN.out
end Go.Proofs.Ytpncjadhpnapnaa.D12
