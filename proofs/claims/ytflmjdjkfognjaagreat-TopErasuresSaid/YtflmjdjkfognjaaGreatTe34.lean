/- Parts: XJc XFg XFi -/
import Derived.Test.YtflmjdjkfognjaaGreatTe33
namespace Go.Proofs.YtflmjdjkfognjaaGreat.T7
open Go Go.RowKit C9 D12
set_option linter.unusedVariables false
def recs (l : List (List UInt8)) (k : Nat) : List (List UInt8) := (List.range k).map fun i => rec (i : Nat) (atD [] l i)
theorem recs_len (l : List (List UInt8)) (k : Nat) : (recs l k).length = k := by simp [recs]
theorem recs_succ (l : List (List UInt8)) (k : Nat) : recs l (k + 1) = recs l k ++ [rec (k : Nat) (atD [] l k)] := by simp [recs, List.range_succ]
theorem recs_at (l : List (List UInt8)) {k i : Nat} (h : i < k) : atD [] (recs l k) i = rec (i : Nat) (atD [] l i) := by simp [recs, atD, h]
theorem dpress1 (x : List UInt8) (hx : x.length ≤ 9223372036854775807) (W : World) : Calls Tryz.prog 55 #[.string (str x)] W fun e w' => e = .returned (.bool (lenP 2048 x)) ∧ W = w' := by
  have hsz := str_size x
  have hsz2 : (str x).data.size = x.length := hsz
  unfold lenP
  generalize str x = s at *
  generalize x.length = n at *
  go_enter Tryz.func55, Tryz.ntmps55
  go_wp2_with fail
  go_ret
  exact ⟨retB (by by_cases h : n = 2048 <;> simp [h] <;> omega), rfl⟩
def drvC (kind n : Int) (pm : Nat) (df : Option Addr) (cl : Int) (fin : Bool) (vt : Value) (A B : ByteArray) (vc : Value) : List Value :=
  [.int .i64 kind, .int .i64 n, .pointer (some ⟨pm, 0, none⟩), .pointer df, .int .i64 cl, .bool fin, vt, .string A, .string B, vc]
structure PrsP (l : List (List UInt8)) (w w' : World) (p pm : Nat) (X R : Nat → Prop) : Prop where
  box : ∃ vt, Bx w' p 139 (drvC 0 l.length pm none 1 true vt ⟨#[]⟩ ⟨#[]⟩ (.slice none 0 0))
  med : MedW w' pm (medPress (recs l l.length)) X R
  new : ∀ b, X b ∨ R b → w.heap.size ≤ b ∧ b ≠ p
  p : w.heap.size ≤ p
  bl : Below w.heap.size w w'
set_option maxRecDepth 100000 in
set_option maxHeartbeats 4000000 in
theorem dpress7_bad (v : Value) (l : List (List UInt8)) (w : World) (hr : RdStr w v l) (h1 : 1 ≤ l.length) (h2 : l.length ≤ 4096) (hz : ∀ x ∈ l, x.length ≤ 9223372036854775807) (hl : anyS (lenP 2048) l = true) :
    Calls Tryz.prog 15 #[v] w fun e w' => e = .returned (.tuple #[.pointer none, .int .i64 1]) ∧ w = w' := by
  have HF := Lib.hid (contf7 55 (fun _ _ => by kernel_rfl) (lenP 2048) v l w hr (by omega) (fun x W hx => dpress1 x (hz x hx) W))
  rw [hl] at HF
  obtain ⟨a, c, rfl, _⟩ := RdD.form hr
  clear hr hl hz
  go_enter Tryz.func15, Tryz.ntmps15
  go_wp2_with fail
  refine HF.out.mono ?_
  rintro e w1 ⟨rfl, rfl⟩
  clear HF
  go_wp2_with fail
  go_ret2
  exact ⟨rfl, rfl⟩
set_option maxRecDepth 100000 in
set_option maxHeartbeats 4000000 in
theorem dpress7 (v : Value) (l : List (List UInt8)) (w : World) (hr : RdStr w v l) (h1 : 1 ≤ l.length) (h2 : l.length ≤ 4096) (hl : ∀ i, i < l.length → (atD [] l i).length = 2048) :
    Calls Tryz.prog 15 #[v] w fun e w' => ∃ p pm X R, e = .returned (.tuple #[.pointer (some ⟨p, 0, none⟩), .int .i64 0]) ∧ PrsP l w w' p pm X R := by
  have hl' : ∀ x ∈ l, x.length = 2048 := fun x hx => by
    obtain ⟨i, hi, rfl⟩ := List.getElem_of_mem hx
    have := hl i hi
    simpa [atD, hi] using this
  have HF := Lib.hid (contf7 55 (fun _ _ => by kernel_rfl) (lenP 2048) v l w hr (by omega) (fun x W hx => dpress1 x (by rw [hl' x hx]; omega) W))
  have hany : anyS (lenP 2048) l = false := anyS_no fun i hi => by unfold lenP; rw [hl i hi]; decide
  rw [hany] at HF
  obtain ⟨a, c, rfl, _⟩ := RdD.form hr
  obtain ⟨b, o, k⟩ := RdD.at hr
  have HK := Lib.hid k
  have HL := Lib.hid hl
  clear hr k hany hl hl'
  go_enter Tryz.func15, Tryz.ntmps15
  go_wp2_with fail
  refine HF.out.mono ?_
  rintro e w1 ⟨rfl, rfl⟩
  clear HF
  go_wp2_with fail
  go_loopw [4, 25] (fun vs vi wr => ∃ i : Nat, i ≤ l.length ∧ vi = .int .i64 i ∧ wr.ownsRow w.heap.size 9 1 vs i (flD ssD (recs l i)) ∧ Below w.heap.size w wr) (fun _ vi _ => l.length - (intOf vi).toNat)
  case atStart => exact ⟨0, by omega, rfl, ⟨rfl, .inl ⟨rfl, rfl⟩⟩, Below.refl _ _⟩
  case round =>
    obtain ⟨i, hi, rfl, ho, hb⟩ := hrel
    by_cases hlt : i < l.length
    · obtain ⟨ha, hrange⟩ := HK.out i hlt
      have hix := fun w' => run_idxS Tryz.underlying47 (by kernel_rfl : (Tryz.prog.info? 9).map (·.size) = some 1) (cap := c) ha hlt (i : Int) rfl w'
      have hcl : wr.cell? ⟨b, o + i * 1, none⟩ = some (.string (str (atD [] l i))) := (hb.cell (p := ⟨b, o + i * 1, none⟩) (World.block_lt_of_cell? w _ (hrange 0 _ rfl))).trans (hrange 0 _ rfl)
      simp only [Nat.mul_one] at hix hcl
      have HR := Lib.hid (fun W => raw7 (i : Nat) (atD [] l i) W (by omega) (by omega) (HL.out i hlt))
      have HT := Lib.hid (recs_succ l i)
      obtain ⟨x, hxx⟩ : ∃ x, x = rec (i : Nat) (atD [] l i) := ⟨_, rfl⟩
      rw [← hxx] at HR HT
      obtain ⟨va, vc, rfl⟩ := ownD_form ho
      generalize str (atD [] l i) = s at *
      have HO := Lib.hid ho
      have HB := Lib.hid hb
      have Ha := Lib.hid ha
      clear ho hb hxx ha hrange
      go_wp2_with fail
      refine (HR.out wr).mono ?_
      rintro e w2 ⟨rfl, hb2⟩
      have HB2 := Lib.hid (HB.out.trans (hb2.mono HB.out.size))
      have HO2 := Lib.hid (ownD_keep HO.out hb2)
      have hal := (Below.refl w2.heap.size w2).alloc (Nat.le_refl _) (.cells #[.string (str x)] 9)
      have hoa := ownD_keep HO2.out hal
      have HBA := Lib.hid (HB2.out.trans (hal.mono HB2.out.size))
      have hbas : w.heap.size ≤ (w2.alloc (.cells #[.string (str x)] 9)).heap.size := HBA.out.size
      clear hb2 hal
      go_wp2_with (at_builtin; refine wpList_ap1 rfl _ _ rfl Tryz.underlying47 Tryz.infoStr9 rfl hoa rfl (g := w2.heap.size) (y := .string (str x)) rfl (by simp) rfl (by unfold maxLen; omega) (by omega) hbas ?_; intro v8 w8 hown8 hgr8 hno8; obtain ⟨a8, c8, rfl⟩ := ownD_form hown8; have HB8 := Lib.hid (HBA.out.grown hgr8 hbas (fun q hq => ownD_block hoa q hq)); clear hoa hbas hgr8 hno8)
      go_roundw
      case rel => exact ⟨i + 1, by omega, by go_num, by rw [HT.out, ss_append]; exact hown8, HB8.out⟩
      case measure => simp [intOf]; omega
    · obtain rfl : i = l.length := by omega
      have hrd : ∀ va, wr.ownsRow w.heap.size 9 1 va l.length (flD ssD (recs l l.length)) → RdStr wr va (recs l l.length) := fun va h => RdD.ofOwn ssD_len (by rw [recs_len]; exact h)
      obtain ⟨va, vc, rfl⟩ := ownD_form ho
      have hrd := hrd _ ho
      have HM := Lib.hid (mpress7 _ (recs l l.length) wr hrd (by rw [recs_len]; exact h1) (by rw [recs_len]; exact h2) (fun i hi => by rw [recs_at l (by rw [recs_len] at hi; exact hi)]; exact rec_len _ _))
      have HB := Lib.hid hb
      clear hb ho hrd
      go_wp2_with fail
      refine HM.out.mono ?_
      rintro e w2 ⟨pm, X, R, rfl, hm, hb2, hxr⟩
      have HM2 := Lib.hid hm
      have HB2 := Lib.hid (HB.out.trans (hb2.mono HB.out.size))
      have HXR := Lib.hid (fun b h => Nat.le_trans HB.out.size (hxr b h))
      clear hm hb2 hxr
      go_wp2_with fail
      go_ret2
      have hA1 := (Below.refl w2.heap.size w2).alloc (Nat.le_refl _) (.cells #[.int .i64 1, .int .i64 1, .int .i64 0, .int .i64 l.length, .int .i64 l.length, .int .i64 2, .int .i64 0] 28)
      have hA2 := hA1.alloc hA1.size (.cells #[.int .i64 1, .bool true, .slice (some ⟨w2.heap.size, 0, none⟩) 1 1] 24)
      have hA3 := hA2.alloc hA2.size (.cells (drvC 0 l.length pm none 1 true (.slice (some ⟨w2.heap.size, 0, none⟩) 1 1) ⟨#[]⟩ ⟨#[]⟩ (.slice none 0 0)).toArray 139)
      have hN := Bx.new ((w2.alloc (.cells #[.int .i64 1, .int .i64 1, .int .i64 0, .int .i64 l.length, .int .i64 l.length, .int .i64 2, .int .i64 0] 28)).alloc (.cells #[.int .i64 1, .bool true, .slice (some ⟨w2.heap.size, 0, none⟩) 1 1] 24)) 139 (drvC 0 l.length pm none 1 true (.slice (some ⟨w2.heap.size, 0, none⟩) 1 1) ⟨#[]⟩ ⟨#[]⟩ (.slice none 0 0))
      simp only [World.size_alloc] at hN
      refine ⟨_, pm, X, R, rfl, ⟨⟨_, hN⟩, HM2.out.below hA3, fun b9 hb9 => ⟨HXR.out b9 hb9, ?_⟩, ?_, HB2.out.trans (hA3.mono HB2.out.size)⟩⟩
      · obtain ⟨L, hm⟩ := HM2.out
        have := hm.lt b9 hb9
        omega
      · have := HB2.out.size
        omega
end Go.Proofs.YtflmjdjkfognjaaGreat.T7
namespace Go.Proofs.YtflmjdjkfognjaaGreat.D12
open Go.RowKit Go.Maps C9
open W8 (is)
set_option linter.unusedVariables false
set_option maxRecDepth 100000 in
theorem offset12 (x : Int) (w : World) : Calls Tryz.prog 127 #[.int .i64 x] w fun e w' => e = .returned (.bool (decide (0 ≤ x ∧ x < 2352))) ∧ w = w' := by
  by_cases h0 : 0 ≤ x
  · by_cases h1 : x < 2352
    · rw [decide_eq_true ⟨h0, h1⟩]
      go_enter Tryz.func127, Tryz.ntmps127
      go_wp2_with fail
      go_ret
      exact ⟨retB12 (by simp), rfl⟩
    · rw [decide_eq_false fun e => h1 e.2]
      go_enter Tryz.func127, Tryz.ntmps127
      go_wp2_with fail
      go_ret
      exact ⟨retB12 (by simp), rfl⟩
  · rw [decide_eq_false fun e => h0 e.1]
    go_enter Tryz.func127, Tryz.ntmps127
    go_wp2_with fail
    go_ret
    exact ⟨retB12 (by simp), rfl⟩
def chc (c : Int × Int) : List Value := [.int .i64 c.1, .int .i64 c.2]
def RdCh (w : World) (v : Value) (l : List (Int × Int)) : Prop := RdD (0, 0) chc 2 w v l
def chA (l : List (Int × Int)) (i : Nat) : Int × Int := atD (0, 0) l i
def In64 (x : Int) : Prop := -9223372036854775808 ≤ x ∧ x ≤ 9223372036854775807
structure DamV (w : World) (vE vC : Value) (d : Dam) : Prop where
  er : RdI w vE d.er
  ch : RdCh w vC d.ch
  lba : In64 d.lba
  len : d.ch.length ≤ 1000000000000
  wf : ∀ i, i < d.ch.length → In64 (chA d.ch i).1 ∧ In64 (chA d.ch i).2
def damv (vE vC : Value) (d : Dam) : Value := .agg #[.int .i64 d.lba, vE, vC]
def erK (l : List Int) (k : Nat) : Prop := (∀ i, i < k → 0 ≤ ixI l i ∧ ixI l i < 2352) ∧ ∀ i, i + 1 < k → ixI l i < ixI l (i + 1)
theorem erK_all {l : List Int} (h : erK l l.length) : (∀ x ∈ l, 0 ≤ x ∧ x < 2352) ∧ l.Pairwise (· < ·) := by
  refine ⟨fun x hx => ?_, ?_⟩
  · obtain ⟨i, hi, rfl⟩ := List.getElem_of_mem hx
    have := h.1 i hi
    rwa [W8.ixI_get hi] at this
  · rw [List.pairwise_iff_getElem]
    have key : ∀ d i, i + d + 1 < l.length → ixI l i < ixI l (i + d + 1) := by
      intro d
      induction d with
      | zero => intro i hi; exact h.2 i hi
      | succ d ih =>
        intro i hi
        have h1 := ih i (by omega)
        have h2 := h.2 (i + d + 1) (by omega)
        have e : i + (d + 1) + 1 = i + d + 1 + 1 := by omega
        rw [e]
        omega
    intro i j hi hj hij
    have := key (j - i - 1) i (by omega)
    have e : i + (j - i - 1) + 1 = j := by omega
    rw [e, W8.ixI_get hi, W8.ixI_get hj] at this
    exact this
theorem erK_not {l : List Int} {k : Nat} (hk : k < l.length) (h : ¬ erK l (k + 1)) (h0 : erK l k) : ¬ ((∀ x ∈ l, 0 ≤ x ∧ x < 2352) ∧ l.Pairwise (· < ·)) := by
  rintro ⟨h1, h2⟩
  refine h ⟨fun i hi => h1 _ (W8.ixI_mem (by omega)), fun i hi => ?_⟩
  rw [List.pairwise_iff_getElem] at h2
  have := h2 i (i + 1) (by omega) (by omega) (by omega)
  rw [W8.ixI_get (by omega), W8.ixI_get (by omega)]
  exact this
theorem erK_step {l : List Int} {k : Nat} (h : erK l k) : erK l (k + 1) ↔ (0 ≤ ixI l k ∧ ixI l k < 2352) ∧ (0 < k → ixI l (k - 1) < ixI l k) := by
  constructor
  · rintro ⟨h1, h2⟩
    refine ⟨h1 k (by omega), fun h0 => ?_⟩
    have := h2 (k - 1) (by omega)
    have e : k - 1 + 1 = k := by omega
    rwa [e] at this
  · rintro ⟨h1, h2⟩
    refine ⟨fun i hi => ?_, fun i hi => ?_⟩
    · by_cases e : i = k
      · rw [e]; exact h1
      · exact h.1 i (by omega)
    · by_cases e : i + 1 = k
      · have := h2 (by omega)
        have e2 : k - 1 = i := by omega
        rw [e2] at this
        rw [e]; exact this
      · exact h.2 i (by omega)
end Go.Proofs.YtflmjdjkfognjaaGreat.D12
namespace Go.Proofs.YtflmjdjkfognjaaGreat.D12
open Go.RowKit Go.Maps C9
open W8 (is)
set_option linter.unusedVariables false
theorem ErM.made (w : World) (f : Nat → Bool) (hf : ∀ k, f k = false) : ErM (w.alloc (.map #[] 0)) (some w.heap.size) f :=
  ⟨.map [], (World.ownsMap_made _ _ _ _).mono (by omega), fun x => by rw [hf]; simp [Maps.has]⟩
theorem ChM.made (w : World) (f : Nat → UInt8) (hf : ∀ k, f k = 0) : ChM (w.alloc (.map #[] 0)) (some w.heap.size) f :=
  ⟨.map [], (World.ownsMap_made _ _ _ _).mono (by omega), fun x h => by simp [Maps.has] at h, fun k _ => by rw [hf]; rfl⟩
theorem Med.put_self (M : Med) {i : Nat} (h : i < M.n) : M.put i (M.sec i) = M := by
  unfold Med.put Med.sec
  have : M.secs.set i (atD blank M.secs i) = M.secs := by
    apply List.ext_getElem?
    intro k
    rw [List.getElem?_set]
    split
    · rename_i e
      subst e
      have h' : i < M.secs.length := h
      simp [atD, h']
    · rfl
  rw [this]
section
variable {X R : Nat → Prop} {w w' : World} {g : Nat} {L : Lay} {M : Med}
theorem MedC.newMap (h : MedC w g L M X R) {i : Nat} (hi : i < L.S.length) (p : Bool) (hp : (atD sm0 L.S i).bk p = none) :
    ∃ L2 X2, MedC ((w.alloc (.map #[] 0)).setCell ⟨L.gs, i * 5 + (if p = true then 3 else 4), none⟩ (.map (some w.heap.size))) g L2 M X2 R ∧ L2.gs = L.gs ∧ L2.S.length = L.S.length ∧ (atD sm0 L2.S i).bk p = some w.heap.size ∧ (atD sm0 L2.S i).bk (!p) = (atD sm0 L.S i).bk (!p) ∧
      Ch X R X2 R w ((w.alloc (.map #[] 0)).setCell ⟨L.gs, i * 5 + (if p = true then 3 else 4), none⟩ (.map (some w.heap.size))) := by
  have ha := (Below.refl w.heap.size w).alloc (Nat.le_refl _) (.map #[] 0)
  have h1 := h.below ha
  have hn : i < M.n := by rw [← h.n]; exact hi
  have hm := fun q => h1.maps i q hi
  have hs := h.at_ i
  have hXl : ∀ b, X b → b ≠ w.heap.size := fun b hb e => by have := h.lt b (.inl hb); omega
  have hRl : ∀ b, R b → b ≠ w.heap.size := fun b hb e => by have := h.lt b (.inr hb); omega
  have hbl : ∀ q b, (atD sm0 L.S i).bk q = some b → b ≠ w.heap.size := fun q b hb => hXl b (h.xm i q b hi hb)
  have hsz : w.heap.size < (w.alloc (.map #[] 0)).heap.size := by simp
  generalize hxx : atD sm0 L.S i = x at *
  have hself : M.put i x.s = M := by rw [hs]; exact Med.put_self M hn
  have hcx : ∀ (X2 : Nat → Prop) (a : Addr) (u : Value), a.block = L.gs → (∀ b, X2 b → X b ∨ w.heap.size ≤ b) → Ch X R X2 R w ((w.alloc (.map #[] 0)).setCell a u) := fun X2 a u hab hX2 =>
    ⟨rfl, rfl, rfl, by simp, fun b hb hX => (Below.heap_setCell (w.alloc (.map #[] 0)) a u b fun e => hX (by rw [e, hab]; exact h.xs)).trans (ha.block b hb), hX2, fun _ h => .inl h⟩
  cases p with
  | true =>
    have he : x.e = none := hp
    have he0 : ErM (w.alloc (.map #[] 0)) none x.s.er := by have := hm true; unfold SM.W at this; rw [if_pos rfl, he] at this; exact this
    have k := h1.store hi (j := 3) (by decide) (.map (some w.heap.size)) { x with e := some w.heap.size } (by rw [hxx]; rfl) (fun q => by cases q with
      | true => exact ErM.made w _ he0
      | false => exact hm false) (fun q b hb => by
        rw [hxx]
        cases q with
        | true => right; obtain rfl : w.heap.size = b := Option.some.inj hb; exact ⟨fun h2 => hXl _ h2 rfl, fun h2 => hRl _ h2 rfl, hsz⟩
        | false => left; exact hb) (fun b h2 h3 => by obtain rfl : w.heap.size = b := Option.some.inj h2; exact hbl false _ h3 rfl)
    rw [show ({ x with e := some w.heap.size } : SM).s = x.s from rfl, hself] at k
    refine ⟨_, _, k, rfl, by simp, ?_, ?_, hcx _ _ _ rfl ?_⟩
    · simp only [atD_set_eq _ _ _ hi]; rfl
    · simp only [atD_set_eq _ _ _ hi]; rfl
    · rintro b (h2 | h2 | h2)
      · exact .inl h2
      · exact .inr (by have := Option.some.inj h2; omega)
      · exact .inl (h.xm i false b hi (by rw [hxx]; exact h2))
  | false =>
    have he : x.c = none := hp
    have he0 : ChM (w.alloc (.map #[] 0)) none x.s.ch := by have := hm false; unfold SM.W at this; rw [if_neg (by decide), he] at this; exact this
    have k := h1.store hi (j := 4) (by decide) (.map (some w.heap.size)) { x with c := some w.heap.size } (by rw [hxx]; rfl) (fun q => by cases q with
      | true => exact hm true
      | false => exact ChM.made w _ he0) (fun q b hb => by
        rw [hxx]
        cases q with
        | false => right; obtain rfl : w.heap.size = b := Option.some.inj hb; exact ⟨fun h2 => hXl _ h2 rfl, fun h2 => hRl _ h2 rfl, hsz⟩
        | true => left; exact hb) (fun b h2 h3 => by obtain rfl : w.heap.size = b := Option.some.inj h3; exact hbl true _ h2 rfl)
    rw [show ({ x with c := some w.heap.size } : SM).s = x.s from rfl, hself] at k
    refine ⟨_, _, k, rfl, by simp, ?_, ?_, hcx _ _ _ rfl ?_⟩
    · simp only [atD_set_eq _ _ _ hi]; rfl
    · simp only [atD_set_eq _ _ _ hi]; rfl
    · rintro b (h2 | h2 | h2)
      · exact .inl h2
      · exact .inl (h.xm i true b hi (by rw [hxx]; exact h2))
      · exact .inr (by have := Option.some.inj h2; omega)
end
theorem lawI12 : Keyed Tryz.prog 3 := int_keyed Tryz.underlying3
theorem wfI12 {x : Int} (h0 : 0 ≤ x) (h1 : x < 2352) : (Lit.int .i64 x).wf = true := by simp [Lit.wf, IntKind.min, IntKind.max, IntKind.signed, IntKind.bits]; omega
theorem wfU12 (x : UInt8) : (Lit.int .u8 x.toNat).wf = true := by have := x.toNat_lt; simp [Lit.wf, IntKind.min, IntKind.max, IntKind.signed, IntKind.bits]; omega
theorem fun_zero : ∀ w, (zeroValue 5).run Tryz.prog w = .ok (.int .u8 0) w := fun _ => by kernel_rfl
theorem wpList_erPut {w : World} {ops : Array Oper} {rest : List Oper} {o : Oper} {a : Act} {Q : Exit → Act → World → Prop}
    (hg : o.guard = none) (m x v : Operand) (hop : o.op = Op.mapUpdate 52 m x v) {b : Nat} {f : Nat → Bool} (hown : ErM w (some b) f) (hm : a.eval m = .map (some b)) {X : Int} (hx : a.eval x = .int .i64 X) (hv : a.eval v = .bool true)
    (h0 : 0 ≤ X) (h1 : X < 2352) (hf : ∀ k, f k = true → k < 2352)
    (hK : ∀ w', ErM w' (some b) (fun k : Nat => if (k : Int) = X then true else f k) → w.grownBy w' (some b) → wpList Tryz.prog ops Q rest (a.put o.dst undef) w') : wpList Tryz.prog ops Q (o :: rest) a w := by
  obtain ⟨D, hown, hh⟩ := hown
  refine wpList_mapUpdate_own _ hg m x v 52 hop 3 4 lawI12 Tryz.underlying52 _ b 2352 D hm hown (by unfold maxLen; omega) _ _ _ hx hv (keyOf_int_mk Tryz.underlying3 (wfI12 h0 h1)) _ [] (plainElem_bool Tryz.underlying4 true) ?_
  intro w' ho hgr
  have hput : ∀ y : Int, Maps.has (D.put (.int .i64 X) (.lit (.bool true))) (.int .i64 y) = (decide (0 ≤ y) && (if ((y.toNat : Nat) : Int) = X then true else f y.toNat)) := fun y => by
    by_cases e : y = X
    · subst e
      rw [has_put_same hown.isMap (by trivial)]
      have e1 : ((y.toNat : Nat) : Int) = y := by omega
      rw [if_pos e1, decide_eq_true h0]
      rfl
    · rw [has_put_other (by simpa using e), hh y]
      by_cases h2 : 0 ≤ y
      · rw [if_neg (by omega)]
      · rw [decide_eq_false h2]
        rfl
  refine hK w' ⟨_, Mp.tight ho fun y hy => ?_, hput⟩ hgr
  rw [hput y] at hy
  simp only [Bool.and_eq_true, decide_eq_true_eq] at hy
  obtain ⟨h2, h3⟩ := hy
  split at h3
  · omega
  · have := hf _ h3
    omega
theorem ChM.run {w : World} {b : Nat} {f : Nat → UInt8} (h : ChM w (some b) f) (x : Int) (h0 : 0 ≤ x) (h1 : x < 2352) :
    (Instr.lookup 201 (.map (some b)) (.int .i64 x) false).run Tryz.prog w = .ok (.int .u8 (f x.toNat).toNat) w := by
  obtain ⟨D, hown, _, hf⟩ := h
  obtain ⟨v, ps, hrun, hv⟩ := hown.lookup lawI12 Tryz.underlying201 (z := .int .u8 0) (fun_zero w) (plainElem_int Tryz.underlying5 (a := 0) (by decide)) (keyOf_int_mk Tryz.underlying3 (wfI12 h0 h1))
  obtain ⟨c, rfl, hc, _⟩ := plainElem_int_inv Tryz.underlying5 hv
  simp only [Prod.mk.injEq] at hc
  have h2 := hf x.toNat (by omega)
  rw [show ((x.toNat : Nat) : Int) = x by omega] at h2
  rw [h2] at hc
  have : c = (f x.toNat).toNat := by simpa using hc.1.symm
  rw [hrun, this]
theorem wpList_chPut {w : World} {ops : Array Oper} {rest : List Oper} {o : Oper} {a : Act} {Q : Exit → Act → World → Prop}
    (hg : o.guard = none) (m x v : Operand) (hop : o.op = Op.mapUpdate 201 m x v) {b : Nat} {f : Nat → UInt8} (hown : ChM w (some b) f) (hm : a.eval m = .map (some b)) {X : Int} (hx : a.eval x = .int .i64 X) (V : UInt8) (hv : a.eval v = .int .u8 V.toNat)
    (h0 : 0 ≤ X) (h1 : X < 2352)
    (hK : ∀ w', ChM w' (some b) (fun k : Nat => if (k : Int) = X then V else f k) → w.grownBy w' (some b) → wpList Tryz.prog ops Q rest (a.put o.dst undef) w') : wpList Tryz.prog ops Q (o :: rest) a w := by
  obtain ⟨D, hown, hb, hh⟩ := hown
  refine wpList_mapUpdate_own _ hg m x v 201 hop 3 5 lawI12 Tryz.underlying201 _ b 2352 D hm hown (by unfold maxLen; omega) _ _ _ hx hv (keyOf_int_mk Tryz.underlying3 (wfI12 h0 h1)) _ [] (plainElem_int Tryz.underlying5 (wfU12 V)) ?_
  intro w' ho hgr
  have hbd : ∀ y : Int, Maps.has (D.put (.int .i64 X) (.lit (.int .u8 V.toNat))) (.int .i64 y) = true → 0 ≤ y ∧ y < 2352 := fun y hy => by
    by_cases e : y = X
    · subst e; exact ⟨h0, h1⟩
    · rw [has_put_other (by simpa using e)] at hy
      exact hb y hy
  refine hK w' ⟨_, Mp.tight ho hbd, hbd, fun k hk => ?_⟩ hgr
  show _ = DataW.lit (.int .u8 ((if (k : Int) = X then V else f k).toNat : Nat))
  by_cases e : (k : Int) = X
  · subst e
    rw [if_pos rfl, atKey_put_same hown.isMap (by trivial)]
  · rw [if_neg e, atKey_put_other (by simpa using e)]
    exact hh k hk
section
variable {X R : Nat → Prop} {w w' : World} {g : Nat} {L : Lay} {M : Med}
theorem MedC.erStep (h : MedC w g L M X R) {i b : Nat} (hi : i < L.S.length) (he : (atD sm0 L.S i).e = some b) (hg : w.grownBy w' (some b)) {f : Nat → Bool} (hm : ErM w' (some b) f) :
    ∃ L2, MedC w' g L2 (M.put i { M.sec i with er := f }) X R ∧ L2.gs = L.gs ∧ L2.S.length = L.S.length ∧ (atD sm0 L2.S i).e = some b ∧ (atD sm0 L2.S i).c = (atD sm0 L.S i).c ∧ Ch X R X R w w' := by
  have hs := h.at_ i
  have k := h.grown hi (p := true) he hg { (atD sm0 L.S i) with s := { (atD sm0 L.S i).s with er := f } } rfl rfl rfl (by show ErM w' (atD sm0 L.S i).e f; rw [he]; exact hm) (h.maps i false hi)
  obtain ⟨k1, k2⟩ := k
  simp only [hs] at k1
  exact ⟨_, k1, rfl, by simp, by simp only [atD_set_eq _ _ _ hi]; exact he, by simp only [atD_set_eq _ _ _ hi], k2⟩
theorem MedC.chStep (h : MedC w g L M X R) {i b : Nat} (hi : i < L.S.length) (he : (atD sm0 L.S i).c = some b) (hg : w.grownBy w' (some b)) {f : Nat → UInt8} (hm : ChM w' (some b) f) :
    ∃ L2, MedC w' g L2 (M.put i { M.sec i with ch := f }) X R ∧ L2.gs = L.gs ∧ L2.S.length = L.S.length ∧ (atD sm0 L2.S i).c = some b ∧ (atD sm0 L2.S i).e = (atD sm0 L.S i).e ∧ Ch X R X R w w' := by
  have hs := h.at_ i
  have k := h.grown hi (p := false) he hg { (atD sm0 L.S i) with s := { (atD sm0 L.S i).s with ch := f } } rfl rfl rfl (by show ChM w' (atD sm0 L.S i).c f; rw [he]; exact hm) (h.maps i true hi)
  obtain ⟨k1, k2⟩ := k
  simp only [hs] at k1
  exact ⟨_, k1, rfl, by simp, by simp only [atD_set_eq _ _ _ hi]; exact he, by simp only [atD_set_eq _ _ _ hi], k2⟩
end
end Go.Proofs.YtflmjdjkfognjaaGreat.D12
