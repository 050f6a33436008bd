/- Chapter 13: the law DefectStores walked. -/
import Derived.Test.YtjnedcncfdpjoaaEf
import Derived.Test.YtjnedcncfdpjoaaOpS
namespace Go.Proofs.Ytjnedcncfdpjoaa.D13
open Go.ChangeShapes Go.WideShapes Go.ChangeAt Go.RowKit Go.Maps
set_option linter.unusedVariables false

def dB (b : Bool) : List Value := [.bool b]
/-- a slice of bools that came in -/
def CameB (w : World) (v : Value) (l : List Bool) : Prop := RdD false dB 1 w v l ∧ l.length ≤ 9223372036854775807
theorem Try.cellsBool13 : Try.prog.cellsOf 4 = 1 := by kernel_rfl
theorem Try.sizeBool13 : (Try.prog.info? 4).map (·.size) = some 1 := by kernel_rfl
section
variable {H : Type} {enc : TypeId × Value → H} {w : World} {base b0 : Nat} {held : Bool}
set_option maxRecDepth 100000 in
theorem open_cbools {v : Value} {d : DataW H} {ps : List MemPlace} {r : Reach} (hval : Value.okWide Try.prog w r b0 35 v) (hd : DataW.Trod enc Try.prog w base (fun _ => true) held 35 v d ps) : ∃ l, CameB w v l := by
  obtain ⟨a, len, cap, rfl⟩ := okWide_slice Try.underlying35 hval
  obtain ⟨fuel, hf⟩ := hd
  obtain ⟨l, h1, h2, _⟩ := open_rdS false dB (fun _ => True) Try.underlying35 Try.cellsBool13 (by omega) (fun n cs x h => by
    obtain ⟨a, ha⟩ := leaf_bool Try.underlying4 h (by simp)
    exact ⟨a, ha, trivial⟩) (by simpa [Value.cells] using hf)
  exact ⟨l, h1, h2⟩
end
/-- nothing but the block 'g' turns -/
structure Turn1 (g : Nat) (w w' : World) : Prop where
  os : w'.os = w.os
  tape : w'.tape = w.tape
  output : w'.output = w.output
  size : w.heap.size ≤ w'.heap.size
  block : ∀ k, k < w.heap.size → k ≠ g → w'.heap[k]? = w.heap[k]?
theorem TabW.turn {w w' : World} {g gm gd n : Nat} {vp : Value} {T : Tab} {f : Int → Option Int} (h : TabW w g gm vp T) (ht : Turn1 gd w w') (h1 : g ≠ gd) (h2 : gm ≠ gd) (hd : MapO w gd n f) : TabW w' g gm vp T :=
  ⟨h.ok, (ht.block g h.box.lt h1).trans h.box, (Turn.own (g := gd) (gm := gd) ⟨ht.os, ht.tape, ht.output, ht.size, fun k hk h1 _ => ht.block k hk h1⟩ h.pri (map13 h.pri hd) (map13 h.pri hd)), h.map.kept (ht.block gm h.map.lt h2), h.ne⟩
/-- what the disc holds is what was wanted, but for the block 'x' -/
def StoredBut (x : Int) (T : Tab) (fd fw : Int → Option Int) : Prop := ∀ b k, fw b = some k → 0 ≤ b ∧ b < T.blocks ∧ (b ≠ x → fd (T.phys b) = some k)
def Stored (T : Tab) (fd fw : Int → Option Int) : Prop := ∀ b k, fw b = some k → 0 ≤ b ∧ b < T.blocks ∧ fd (T.phys b) = some k
theorem Stored.but {T : Tab} {fd fw : Int → Option Int} (h : Stored T fd fw) (x : Int) : StoredBut x T fd fw := fun b k hb => ⟨(h b k hb).1, (h b k hb).2.1, fun _ => (h b k hb).2.2⟩
theorem StoredBut.repl {x : Int} {T : Tab} {fd fw : Int → Option Int} (h : StoredBut x T fd fw) : StoredBut x (T.repl x) fd fw := fun b k hb => ⟨(h b k hb).1, (h b k hb).2.1, fun hn => by rw [Tab.repl_phys, if_neg hn]; exact (h b k hb).2.2 hn⟩
theorem StoredBut.store {x : Int} {T : Tab} {fd fw : Int → Option Int} (h : StoredBut x T fd fw) (hok : T.Ok) (h0 : 0 ≤ x) (h1 : x < T.blocks) (k : Int) : Stored T (setO fd (T.phys x) k) (setO fw x k) := fun b c hb => by
  unfold setO at hb ⊢
  by_cases e : b = x
  · subst e
    rw [if_pos rfl] at hb ⊢
    exact ⟨h0, h1, hb⟩
  · rw [if_neg e] at hb
    obtain ⟨g0, g1, g2⟩ := h b c hb
    refine ⟨g0, g1, ?_⟩
    rw [if_neg (fun e2 => e (hok.phys_inj g0 g1 h0 h1 e2))]
    exact g2 e
def usedOf (g : Nat) (w : World) : Nat := match w.cell? ⟨g, 2, none⟩ with
  | some v => (RowKit.intOf v).toNat
  | none => 0
theorem TabW.usedOf {w : World} {g gm : Nat} {vp : Value} {T : Tab} (h : TabW w g gm vp T) : D13.usedOf g w = T.used := by
  unfold D13.usedOf
  rw [h.cells.2.2.1]
  simp [RowKit.intOf]
set_option maxRecDepth 100000 in
set_option maxHeartbeats 4000000 in
theorem stores_skip (w : World) (b s : Int) (hb : In64 b) (hs : In64 s) (v1 : Value) (l1 : List Int) (h1 : CameI w v1 l1) (vf : Value) (lf : List Bool) (hf : CameB w vf lf) (v2 : Value) (l2 : List Int) (h2 : CameI w v2 l2) (hno : 40 < b ∨ 20 < l1.length ∨ 80 < l2.length) :
    Calls Try.prog 4 #[.int .i64 b, .int .i64 s, v1, vf, v2] w fun e w' => e = .returned (.bool true) ∧ Below w.heap.size w w' := by
  obtain ⟨_, hl1, a1, c1, rfl⟩ := h1
  obtain ⟨_, hl2, a2, c2, rfl⟩ := h2
  obtain ⟨hfr, hfl⟩ := hf
  obtain ⟨af, cf, rfl, _⟩ := RdD.form hfr
  clear hfr
  obtain ⟨b1, b2⟩ := hb
  have hcase : 40 < b ∨ (¬ 40 < b ∧ 20 < l1.length) ∨ (¬ 40 < b ∧ ¬ 20 < l1.length ∧ 80 < l2.length) := by omega
  clear hno
  rcases hcase with g1 | ⟨g1, g2⟩ | ⟨g1, g2, g3⟩
  all_goals
    go_enter Try.func4, Try.ntmps4
    go_wp2_with fail
    refine (awake13_any _).mono ?_
    rintro e w1 ⟨rfl, hb1⟩
    go_wp2_with fail
    go_ret
    exact ⟨rfl, hb1⟩
set_option maxRecDepth 100000 in
set_option maxHeartbeats 4000000 in
theorem stores_bad (w : World) (b s : Int) (hb : In64 b) (hs : In64 s) (v1 : Value) (l1 : List Int) (h1 : RdI w v1 l1) (vf : Value) (lf : List Bool) (hf : CameB w vf lf) (v2 : Value) (l2 : List Int) (h2 : RdI w v2 l2) (g1 : b ≤ 40) (g2 : l1.length ≤ 20) (g3 : l2.length ≤ 80) (hno : ¬ shp b s l1) :
    Calls Try.prog 4 #[.int .i64 b, .int .i64 s, v1, vf, v2] w fun e w' => e = .returned (.bool true) ∧ Below w.heap.size w w' := by
  have HNW := Lib.hid (fun W hv => new_any b s hb hs v1 l1 W hv)
  have H1 := Lib.hid h1
  obtain ⟨a1, c1, rfl⟩ := RdI.formD h1
  obtain ⟨a2, c2, rfl⟩ := RdI.formD h2
  have HS := Lib.hid hno
  clear h1 h2 hno
  obtain ⟨hfr, hfl⟩ := hf
  obtain ⟨af, cf, rfl, _⟩ := RdD.form hfr
  clear hfr
  go_enter Try.func4, Try.ntmps4
  go_wp2_with fail
  refine (awake13_any _).mono ?_
  rintro e w1 ⟨rfl, hb1⟩
  have HB1 := Lib.hid hb1
  have HN1 := Lib.hid (HNW.out w1 (H1.out.keep hb1))
  clear hb1
  go_wp2_with fail
  refine HN1.out.mono ?_
  rintro e w2 ⟨hb2, h2'⟩
  have HB2 := Lib.hid (HB1.out.trans (hb2.mono HB1.out.size))
  clear hb2
  rcases h2' with ⟨hn, _⟩ | ⟨hn, rfl⟩
  · exact absurd hn HS.out
  · clear hn
    go_wp2_with fail
    go_ret
    exact ⟨rfl, HB2.out⟩
set_option maxRecDepth 100000 in
set_option maxHeartbeats 8000000 in
theorem stores_main (w : World) (b s : Int) (hb : In64 b) (hs : In64 s) (v1 : Value) (l1 : List Int) (h1 : RdI w v1 l1) (vf : Value) (lf : List Bool) (hf : CameB w vf lf) (v2 : Value) (l2 : List Int) (h2 : RdI w v2 l2) (g1 : b ≤ 40) (g2 : l1.length ≤ 20) (g3 : l2.length ≤ 80) (hsh : shp b s l1) :
    Calls Try.prog 4 #[.int .i64 b, .int .i64 s, v1, vf, v2] w fun e w' => e = .returned (.bool true) ∧ Below w.heap.size w w' := by
  have HNW := Lib.hid (fun W hv => new_any b s hb hs v1 l1 W hv)
  have H1 := Lib.hid h1
  have H2 := Lib.hid h2
  obtain ⟨a1, c1, rfl⟩ := RdI.formD h1
  obtain ⟨a2, c2, rfl⟩ := RdI.formD h2
  have HS := Lib.hid hsh
  have b1 := hsh.1.1
  have s1 := hsh.1.2.2.1
  have s2 := hsh.1.2.2.2.1
  clear h1 h2 hsh hb hs
  obtain ⟨hfr, hfl⟩ := hf
  have HFA := Lib.hid hfr
  obtain ⟨af, cf, rfl, _⟩ := RdD.form hfr
  clear hfr
  have hmm := @run_makeMap Try.prog
  go_enter Try.func4, Try.ntmps4
  go_wp2_with fail
  refine (awake13_any _).mono ?_
  rintro e w1 ⟨rfl, hb1⟩
  have HB1 := Lib.hid hb1
  have HN1 := Lib.hid (HNW.out w1 (H1.out.keep hb1))
  clear hb1
  go_wp2_with fail
  refine HN1.out.mono ?_
  rintro e w2 ⟨hb2, h2'⟩
  have HB2 := Lib.hid (HB1.out.trans (hb2.mono HB1.out.size))
  have hb1s := HB1.out.size
  clear hb2
  rcases h2' with ⟨_, g, gm, vp, rfl, hT, hg, hgm⟩ | ⟨hn, _⟩
  rotate_left
  · exact absurd HS.out hn
  have HT := Lib.hid hT
  have HG : Hid (w.heap.size ≤ g ∧ w.heap.size ≤ gm) := Lib.hid ⟨by omega, by omega⟩
  clear hT hg hgm hb1s
  have HM0 := Lib.hid ((MapO.made w2).below ((Below.refl _ _).alloc (Nat.le_refl _) (.map #[] 0)))
  have HM1 := Lib.hid (MapO.made (w2.alloc (.map #[] 0)))
  have hs1 : (w2.alloc (.map #[] 0)).heap.size = w2.heap.size + 1 := by simp
  rw [hs1] at HM1
  have HT1 := Lib.hid ((HT.out.below ((Below.refl _ _).alloc (Nat.le_refl _) (.map #[] 0))).below ((Below.refl _ _).alloc (Nat.le_refl _) (.map #[] 0)))
  have HB1' := Lib.hid ((HB2.out.alloc HB2.out.size (.map #[] 0)).alloc (HB2.out.alloc HB2.out.size (.map #[] 0)).size (.map #[] 0))
  have HGS : Hid (g < w2.heap.size ∧ gm < w2.heap.size) := Lib.hid ⟨HT.out.box.lt, HT.out.map.lt⟩
  clear hs1
  go_wp2_with fail
  obtain ⟨w3, hw3⟩ : ∃ w3 : World, w3 = (w2.alloc (.map #[] 0)).alloc (.map #[] 0) := ⟨_, rfl⟩
  rw [← hw3] at HT1 HM0 HM1 HB1' ⊢
  have HGD : Hid (w.heap.size ≤ w2.heap.size ∧ w2.heap.size + 1 < w3.heap.size) := Lib.hid ⟨HB2.out.size, by rw [hw3]; simp⟩
  clear hw3
  obtain ⟨gd, hgd⟩ : ∃ gd, gd = w2.heap.size := ⟨_, rfl⟩
  obtain ⟨gw, hgw⟩ : ∃ gw, gw = w2.heap.size + 1 := ⟨_, rfl⟩
  have HNE : Hid (g ≠ gd ∧ gm ≠ gd ∧ g ≠ gw ∧ gm ≠ gw ∧ gd ≠ gw ∧ w.heap.size ≤ gd ∧ w.heap.size ≤ gw) := Lib.hid (by have := HGS.out; have := HGD.out; omega)
  rw [← hgw] at HM1
  rw [← hgd] at HM0
  have e1 : (⟨w2.heap.size, 0, none⟩ : Addr) = ⟨gd, 0, none⟩ := by rw [hgd]
  clear e1
  rw [← hgw, ← hgd]
  clear hgd hgw HT HB2 HGS HGD
  go_loopw [58] (fun vk wr => ∃ (k : Nat) (T : Tab) (fd fw : Int → Option Int), k ≤ l2.length ∧ vk = .int .i64 k ∧ TabW wr g gm vp T ∧ Left b s l1 T ∧ MapO wr gd k fd ∧ MapO wr gw k fw ∧ Hid (Stored T fd fw) ∧ Below w.heap.size w wr) (fun vk _ => l2.length - (RowKit.intOf vk).toNat)
  case atStart => exact ⟨0, tab0 b s l1, _, _, by omega, rfl, HT1.out, Left.zero HS.out, HM0.out, HM1.out, Lib.hid (fun b k h => by cases h), HB1'.out⟩
  case round =>
    obtain ⟨k, T, fd, fw, hk, rfl, hT, hL, hD, hW, HST, hb⟩ := hrel
    have HT3 := Lib.hid hT
    have HB3 := Lib.hid hb
    have HL3 := Lib.hid hL
    have HD3 := Lib.hid hD
    have HW3 := Lib.hid hW
    clear hL hD hW
    by_cases hlt : k < l2.length
    · obtain ⟨bl, off, hcell⟩ := RdI.at (H2.out.keep hb)
      obtain ⟨ha, hcl⟩ := hcell k hlt
      have hix := fun w' => run_idxS Try.underlying22 Try.sizeInt13 (cap := c2) ha hlt (k : Int) rfl w'
      simp only [Nat.mul_one] at hix
      have hxr : In64 (ixI l2 k) := H2.out.2.2 k hlt
      generalize ixI l2 k = x at *
      have HXR := Lib.hid hxr
      have HA := Lib.hid ha
      have HP := Lib.hid (physical_any hT x hxr)
      clear ha hT hb hcell hxr
      by_cases hv : 0 ≤ x ∧ x < (T.blocks : Int)
      · have hPR : physR T x = (T.phys x, 0) := by unfold physR; rw [if_pos hv]
        rw [hPR] at HP
        clear hPR
        have HXV := Lib.hid hv
        obtain ⟨nb, hnb⟩ : ∃ nb, nb = T.blocks := ⟨_, rfl⟩
        have HNB := Lib.hid hnb
        clear hv hnb
        go_wp2_with fail
        refine HP.out.mono ?_
        rintro e w4 ⟨rfl, q4, rfl⟩
        have hq4 := Below.drewN (Below.refl wr.heap.size wr) q4
        have HT4 := Lib.hid (HT3.out.below hq4)
        have HB4 := Lib.hid (HB3.out.trans (hq4.mono HB3.out.size))
        have HD4 := Lib.hid (HD3.out.below hq4)
        have HW4 := Lib.hid (HW3.out.below hq4)
        clear hq4
        generalize wr.drewN q4 = w4 at *
        go_wp2_with fail
        go_loopw [17, 18] (fun vs ve wq => ∃ (T' : Tab) (e' s' : Int), ve = .int .i64 e' ∧ vs = .int .i64 s' ∧ TabW wq g gm vp T' ∧ Left b s l1 T' ∧ Hid (StoredBut x T' fd fw) ∧ MapO wq gd k fd ∧ MapO wq gw k fw ∧ Below w.heap.size w wq ∧ Hid ((e' = 0 ∧ s' = T'.phys x) ∨ (e' = 12 ∧ s' = 0 ∧ T'.used = T'.spares))) (fun _ ve wq => (65 - usedOf g wq) + (if RowKit.intOf ve = 0 then 1 else 0))
        case atStart => exact ⟨T, 0, _, rfl, rfl, HT4.out, HL3.out, Lib.hid (HST.out.but x), HD4.out, HW4.out, HB4.out, Lib.hid (.inl ⟨rfl, rfl⟩)⟩
        case round =>
          obtain ⟨T', e', s', rfl, rfl, hT6, hL6, HSB, hD6, hW6, hB6, HC⟩ := hrel
          have HT6 := Lib.hid hT6
          have HL6 := Lib.hid hL6
          have HB6 := Lib.hid hB6
          have HD6 := Lib.hid hD6
          have HW6 := Lib.hid hW6
          have HXV' : Hid (0 ≤ x ∧ x < T'.blocks) := Lib.hid (by have h1 := hL6.hb; have h2 := HL3.out.hb; have := HXV.out; omega)
          replace HXV := HXV'
          clear HXV'
          obtain ⟨w6, rfl⟩ : ∃ w6 : World, w6 = wr := ⟨_, rfl⟩
          rcases HC.out with ⟨he, hs'⟩ | ⟨he, hs', hus⟩
          · subst he
            have hpr := hT6.ok.phys_range HXV.out.1 HXV.out.2
            have hpr : 0 ≤ s' ∧ s' ≤ 10000 := by have := hT6.ok.us; have := hT6.ok.sp; have := hT6.ok.pl; have := hT6.ok.b2; have := first_int T'; omega
            have HPH := Lib.hid hs'
            have HR := Lib.hid (replace_any hT6 x HXR.out)
            obtain ⟨ba, oa, hfc⟩ := RdD.at (HFA.out.keep hB6)
            have HFC := Lib.hid hfc
            clear hs' hT6 hL6 hB6 hfc
            obtain ⟨p, rfl⟩ : ∃ p : Nat, s' = p := ⟨s'.toNat, by omega⟩
            by_cases hpl : p < lf.length
            · obtain ⟨haf, hrg⟩ := HFC.out p hpl
              have hfx := fun w' => run_idxS Try.underlying35 Try.sizeBool13 (cap := cf) haf hpl (p : Int) rfl w'
              have hcf := hrg 0 _ rfl
              simp only [Nat.mul_one, Nat.add_zero] at hfx hcf
              have hpl' : (p : Int) < (lf.length : Int) := by omega
              have HAF := Lib.hid haf
              clear haf hrg
              cases hfl2 : atD false lf p with
              | false =>
                rw [hfl2] at hcf
                clear hfl2
                obtain ⟨p0, p1⟩ := hpr
                go_wp2_with (first
                  | (refine wpList_setO rfl _ _ _ rfl hD6 rfl rfl rfl (by unfold In64; omega) (by unfold In64; omega) (by omega) ?_; intro w8 hD8 hg8; have hW8 := hW6.kept (hg8.block _ hW6.lt (fun e => HNE.out.2.2.2.2.1 (Option.some.inj e).symm)); have HB8 := Lib.hid (HB6.out.grown hg8 HB6.out.size (fun j hj => by cases hj; exact HNE.out.2.2.2.2.2.1)); have HT8 := Lib.hid (HT6.out.turn (⟨hg8.os, hg8.tape, hg8.output, hg8.size, fun j hj h2 => hg8.block j hj (fun e => h2 (Option.some.inj e))⟩ : Turn1 gd w6 w8) HNE.out.1 HNE.out.2.1 HD6.out))
                  | (refine wpList_setO rfl _ _ _ rfl hW8 rfl rfl rfl HXR.out (by unfold In64; omega) (by omega) ?_; intro w9 hW9 hg9; have HD9 := Lib.hid (hD8.kept (hg9.block _ hD8.lt (fun e => HNE.out.2.2.2.2.1 (Option.some.inj e)))); have HB9 := Lib.hid (HB8.out.grown hg9 HB8.out.size (fun j hj => by cases hj; exact HNE.out.2.2.2.2.2.2)); have HT9 := Lib.hid (HT8.out.turn (⟨hg9.os, hg9.tape, hg9.output, hg9.size, fun j hj h2 => hg9.block j hj (fun e => h2 (Option.some.inj e))⟩ : Turn1 gw w8 w9) HNE.out.2.2.1 HNE.out.2.2.2.1 hW8))
                  | fail)
                go_roundw
                case rel => exact ⟨k + 1, T', _, _, by omega, by go_num, HT9.out, HL6.out, HD9.out, hW9, Lib.hid (by rw [HPH.out]; exact HSB.out.store HT6.out.ok HXV.out.1 HXV.out.2 k), HB9.out⟩
                case measure => simp [RowKit.intOf]; omega

              | true =>
                rw [hfl2] at hcf
                clear hfl2
                obtain ⟨p0, p1⟩ := hpr
                have hTU := HT6.out.usedOf
                rcases replR_cases HT6.out.ok.us x with ⟨hn, _⟩ | ⟨_, hu, he⟩ | ⟨_, hu, he⟩
                · exact absurd HXV.out hn
                · rw [he] at HR
                  have HU := Lib.hid hu
                  clear he hu
                  go_wp2_with fail
                  refine HR.out.mono ?_
                  rintro e w7 ⟨rfl, hT7, htu⟩
                  dsimp only at hT7
                  have hTU7 := hT7.usedOf
                  have hB7 := HB6.out.trans (htu.below HG.out.1 HG.out.2 HB6.out.size)
                  have hD7 := htu.mapO hD6 (Ne.symm HNE.out.1) (Ne.symm HNE.out.2.1)
                  have hW7 := htu.mapO hW6 (Ne.symm HNE.out.2.2.1) (Ne.symm HNE.out.2.2.2.1)
                  go_wp2_with fail
                  go_roundw
                  case rel => exact ⟨T', 12, 0, rfl, rfl, hT7, HL6.out, HSB, hD7, hW7, hB7, Lib.hid (.inr ⟨rfl, rfl, HU.out⟩)⟩
                  case measure => rw [hTU, hTU7]; simp [RowKit.intOf]
                · rw [he] at HR
                  have HU := Lib.hid hu
                  clear he hu
                  go_wp2_with fail
                  refine HR.out.mono ?_
                  rintro e w7 ⟨rfl, hT7, htu⟩
                  dsimp only at hT7
                  have hTU7 := hT7.usedOf
                  have hB7 := HB6.out.trans (htu.below HG.out.1 HG.out.2 HB6.out.size)
                  have hD7 := htu.mapO hD6 (Ne.symm HNE.out.1) (Ne.symm HNE.out.2.1)
                  have hW7 := htu.mapO hW6 (Ne.symm HNE.out.2.2.1) (Ne.symm HNE.out.2.2.2.1)
                  go_wp2_with fail
                  go_roundw
                  case rel => exact ⟨T'.repl x, 0, _, rfl, rfl, hT7, ⟨HL6.out.hb, HL6.out.hs, HL6.out.hp⟩, Lib.hid HSB.out.repl, hD7, hW7, hB7, Lib.hid (.inl ⟨rfl, by rw [Tab.repl_phys, if_pos rfl]⟩)⟩
                  case measure =>
                    have h1 := HU.out
                    have h2 := HT6.out.ok.sp
                    have h3 : (T'.repl x).used = T'.used + 1 := rfl
                    rw [hTU, hTU7, h3]; simp [RowKit.intOf]; omega
            · have hpl' : ¬ ((p : Int) < (lf.length : Int)) := by omega
              obtain ⟨p0, p1⟩ := hpr
              go_wp2_with (first
                | (refine wpList_setO rfl _ _ _ rfl hD6 rfl rfl rfl (by unfold In64; omega) (by unfold In64; omega) (by omega) ?_; intro w8 hD8 hg8; have hW8 := hW6.kept (hg8.block _ hW6.lt (fun e => HNE.out.2.2.2.2.1 (Option.some.inj e).symm)); have HB8 := Lib.hid (HB6.out.grown hg8 HB6.out.size (fun j hj => by cases hj; exact HNE.out.2.2.2.2.2.1)); have HT8 := Lib.hid (HT6.out.turn (⟨hg8.os, hg8.tape, hg8.output, hg8.size, fun j hj h2 => hg8.block j hj (fun e => h2 (Option.some.inj e))⟩ : Turn1 gd w6 w8) HNE.out.1 HNE.out.2.1 HD6.out))
                | (refine wpList_setO rfl _ _ _ rfl hW8 rfl rfl rfl HXR.out (by unfold In64; omega) (by omega) ?_; intro w9 hW9 hg9; have HD9 := Lib.hid (hD8.kept (hg9.block _ hD8.lt (fun e => HNE.out.2.2.2.2.1 (Option.some.inj e)))); have HB9 := Lib.hid (HB8.out.grown hg9 HB8.out.size (fun j hj => by cases hj; exact HNE.out.2.2.2.2.2.2)); have HT9 := Lib.hid (HT8.out.turn (⟨hg9.os, hg9.tape, hg9.output, hg9.size, fun j hj h2 => hg9.block j hj (fun e => h2 (Option.some.inj e))⟩ : Turn1 gw w8 w9) HNE.out.2.2.1 HNE.out.2.2.2.1 hW8))
                | fail)
              go_roundw
              case rel => exact ⟨k + 1, T', _, _, by omega, by go_num, HT9.out, HL6.out, HD9.out, hW9, Lib.hid (by rw [HPH.out]; exact HSB.out.store HT6.out.ok HXV.out.1 HXV.out.2 k), HB9.out⟩
              case measure => simp [RowKit.intOf]; omega

          · subst he hs'
            have HF := Lib.hid (free_any hT6)
            have hz : (T'.spares : Int) - T'.used = 0 := by omega
            rw [hz] at HF
            clear hT6 hL6 hB6 hD6 hW6 hus hz
            go_wp2_with fail
            refine HF.out.mono ?_
            rintro e w7 ⟨rfl, q7, rfl⟩
            go_wp2_with fail
            go_ret
            exact ⟨rfl, Below.drewN HB6.out q7⟩
      · have hPR : physR T x = (0, 2) := by unfold physR; rw [if_neg hv]
        rw [hPR] at HP
        clear hPR hv
        go_wp2_with fail
        refine HP.out.mono ?_
        rintro e w4 ⟨rfl, q4, rfl⟩
        have hq4 := Below.drewN (Below.refl wr.heap.size wr) q4
        go_wp2_with fail
        go_roundw
        case rel => exact ⟨k + 1, T, fd, fw, by omega, by go_num, HT3.out.below hq4, HL3.out, (HD3.out.below hq4).more (Nat.le_succ _), (HW3.out.below hq4).more (Nat.le_succ _), HST, HB3.out.trans (hq4.mono HB3.out.size)⟩
        case measure => simp [RowKit.intOf]; omega
    · obtain rfl : k = l2.length := by omega
      have hblk : T.blocks ≤ 40 := by have := HL3.out.hb; omega
      obtain ⟨D, hown1, hf⟩ := HW3.out
      have HDF := Lib.hid hf
      have hown2 := hown1
      clear hT hb hf
      go_wp2_with (first
        | (at_range; refine wpList_range_own _ rfl _ 36 rfl 3 3 lawI Try.underlying36 _ gw l2.length _ rfl hown2 ?_; intro w4 hrg4 hg4 hs4)
        | fail)
      go_frame
      have hb4 : Below wr.heap.size wr w4 := (Below.refl _ _).grown hg4 (Nat.le_refl _) (fun k hk => by cases hk)
      have HRG := Lib.hid hrg4
      have HB4 := Lib.hid hb4
      clear hg4 hrg4 hs4 hb4 hown2
      obtain ⟨w3', hw3'⟩ : ∃ w3' : World, w3' = wr := ⟨_, rfl⟩
      rw [← hw3'] at HT3 HB3 HD3 HW3 HB4
      obtain ⟨r, hr⟩ : ∃ r, r = wr.heap.size := ⟨_, rfl⟩
      rw [← hr] at HRG ⊢
      have HRE : Hid (r = w3'.heap.size) := Lib.hid (by rw [hr, hw3'])
      clear hr hw3' hown1
      go_loopw [19] (fun _ wq => ∃ (left : Lit → Bool) (cnt : Nat), wq.ranges Try.prog 3 (plainElem Try.prog 3) gw r l2.length D left cnt ∧ Below w3'.heap.size w3' wq) (fun _ wq => wq.rangeLeft gw r)
      case atStart => exact ⟨_, _, HRG.out, HB4.out⟩
      case round =>
        obtain ⟨left, cnt, hrg, hb⟩ := hrel
        have HBq := Lib.hid hb
        clear hb HRG HB4
        go_wp2_with (first
          | (at_next; refine wpList_next_ranges_ii _ rfl _ rfl 3 3 .i64 .i64 lawI Try.underlying3 Try.underlying3 gw r l2.length _ _ _ rfl hrg ?_ ?_)
          | fail)
        · intro _ _
          go_wp2_with fail
          go_ret
          exact ⟨rfl, HB3.out.trans (HBq.out.mono HB3.out.size)⟩
        · intro z c w5 cnt1 hwk hwc hlk hat hrg1 hlt1 hg1 hs1 hen
          have hz := in64_of hwk
          have hfz : fw z = some c := by
            obtain ⟨h1, h2⟩ := HDF.out z hz
            rw [has_true_of_atKey hat] at h1
            rw [hat] at h2
            cases e : fw z with
            | none => rw [e] at h1; cases h1
            | some c' =>
              rw [e] at h2
              have h3 : c = c' := by simpa using h2
              rw [h3]
          obtain ⟨z0, z1, hdz⟩ := HST.out z c hfz
          have hb5 : Below w3'.heap.size w3' w5 := HBq.out.grown hg1 HBq.out.size (fun j hj => by cases hj; have := HRE.out; omega)
          have HP := Lib.hid (physical_any (HT3.out.below hb5) z hz)
          have hPR : physR T z = (T.phys z, 0) := by unfold physR; rw [if_pos ⟨z0, z1⟩]
          rw [hPR] at HP
          have hpr := HT3.out.ok.phys_range z0 z1
          have hpx : In64 (T.phys z) := by have := HT3.out.ok.us; have := HT3.out.ok.sp; have := HT3.out.ok.pl; have := HT3.out.ok.b2; have := first_int T; unfold In64; omega
          have HB5 := Lib.hid hb5
          have HR5 := Lib.hid hrg1
          have HLT := Lib.hid hlt1
          have HR0 := Lib.hid hrg
          have hcx := in64_of hwc
          clear hPR hpr hat hrg1 hlt1 hg1 hs1 hb5 hfz hrg hlk hwk hwc
          generalize T.phys z = y at *
          have HDZ := Lib.hid hdz
          have HPX := Lib.hid hpx
          clear hdz hpx
          go_wp2_with fail
          refine HP.out.mono ?_
          rintro e w6 ⟨rfl, q6, rfl⟩
          have hb6 := Below.drewN HB5.out q6
          have hm6 := (HD3.out.below hb6).run y HPX.out
          rw [HDZ.out] at hm6
          simp only [Option.getD_some, Option.isSome_some] at hm6
          have HB6 := Lib.hid hb6
          have HR6 := Lib.hid (HR5.out.kept (w' := w5.drewN q6) (row := none) ⟨rfl, rfl, rfl, Nat.le_refl _, fun _ _ _ => rfl⟩ (by simp) (by simp))
          clear hb6
          go_wp2_with fail
          go_roundw
          case rel => exact ⟨_, cnt1, HR6.out, HB6.out⟩
          case measure => rw [HR6.out.left_eq, HR0.out.left_eq]; exact HLT.out
theorem stores_law (w : World) (b : Int) (hb : (Lit.int .i64 b).wf = true) (s : Int) (hs : (Lit.int .i64 s).wf = true) (v1 : Value) (l1 : List Int) (h1 : CameI w v1 l1) (vf : Value) (lf : List Bool) (hf : CameB w vf lf) (v2 : Value) (l2 : List Int) (h2 : CameI w v2 l2) :
    Calls Try.prog 4 #[.int .i64 b, .int .i64 s, v1, vf, v2] w fun e w' => e = .returned (.bool true) ∧ Below w.heap.size w w' := by
  by_cases hno : 40 < b ∨ 20 < l1.length ∨ 80 < l2.length
  · exact stores_skip w b s (in64_of hb) (in64_of hs) v1 l1 h1 vf lf hf v2 l2 h2 hno
  · by_cases hsh : shp b s l1
    · exact stores_main w b s (in64_of hb) (in64_of hs) v1 l1 (h1.1 (by omega)) vf lf hf v2 l2 (h2.1 (by omega)) (by omega) (by omega) (by omega) hsh
    · exact stores_bad w b s (in64_of hb) (in64_of hs) v1 l1 (h1.1 (by omega)) vf lf hf v2 l2 (h2.1 (by omega)) (by omega) (by omega) (by omega) hsh
end Go.Proofs.Ytjnedcncfdpjoaa.D13
