/- Parts: XWz -/
import Derived.Outline
import Derived.Test.YtflmjdjkfognjaaGreatTe17
import Derived.Test.YtflmjdjkfognjaaGreatTe28
import Derived.Test.YtflmjdjkfognjaaGreatTe03
namespace Go.Proofs.YtflmjdjkfognjaaGreat.W8
open Go.RowKit Go.Shelf
set_option linter.unusedVariables false
attribute [local go_sem] Oper.semAt_some
def pass4V (g cap mb g1 n c1 B : Nat) (f : Int) (S1 D1 : ByteArray) (dn de : Int) (ps : List Int) (i : Nat) (v : Value) (d : Nat → Value) (W : World) : Prop := match i with
  | 0 => v = .slice (some ⟨g, 0, none⟩) 2352 cap
  | 1 => v = .slice (some ⟨g1, 0, none⟩) n c1
  | 2 => v = .int .i64 f
  | 3 => v = .string S1
  | 4 => v = .slice (some ⟨g1, 0, none⟩) n c1
  | 5 => v = .map (some mb)
  | 6 => ∃ a c, v = .slice a ps.length c ∧ W.ownsRow B 3 1 (.slice a ps.length c) ps.length (is ps)
  | 7 => v = .tuple #[.string D1, .int .i64 dn, .int .i64 de]
  | 8 => v = .tuple #[.string D1, .int .i64 dn, .int .i64 de]
  | 9 => v = .string D1
  | 10 => v = .int .i64 dn
  | 11 => v = .int .i64 de
  | 12 => ∃ b, v = .pointer (some ⟨b, 0, none⟩) ∧ B ≤ b ∧ ∃ cs : List Value, cs.length = [Value.string D1].length ∧ Bx W b 9 cs
  | 13 => ∃ b, d 12 = .pointer (some ⟨b, 0, none⟩) ∧ B ≤ b ∧ Bx W b 9 [.string D1]
  | 14 => v = .int .i64 dn
  | 15 => v = .int .i64 de
  | _ => True
theorem pass4V_keep (g cap mb g1 n c1 B : Nat) (f : Int) (S1 D1 : ByteArray) (dn de : Int) (ps : List Int) (i : Nat) (v : Value) (d : Nat → Value) (W W' : World) (hR : (RegT B 9 [.string D1]) W W') (h : pass4V g cap mb g1 n c1 B f S1 D1 dn de ps i v d W) : pass4V g cap mb g1 n c1 B f S1 D1 dn de ps i v d W' := by
  by_cases h6 : i = 6
  · subst h6
    obtain ⟨a, c, h1, h2⟩ := h
    exact ⟨a, c, h1, hR.own h2 (by decide)⟩
  by_cases h12 : i = 12
  · subst h12
    obtain ⟨b, h1, h2, h3⟩ := h
    exact ⟨b, h1, h2, hR.1.2.1 b h3⟩
  by_cases h13 : i = 13
  · subst h13
    obtain ⟨b, h1, h2, h3⟩ := h
    exact ⟨b, h1, h2, hR.1.2.2 b h3⟩
  unfold pass4V at h ⊢
  split at h <;> first | exact h | exact absurd rfl h6 | exact absurd rfl h12 | exact absurd rfl h13
theorem ownD_setO8 {w : World} {b e sz n : Nat} {v : Value} {xs : List Value} (h : w.ownsRow b e sz v n xs) {p : Addr} (hp : ∀ k, v.ownBlock = some k → k ≠ p.block) (u : Value) : (w.setCell p u).ownsRow b e sz v n xs := by
  refine ⟨h.1, ?_⟩
  rcases h.2 with h | ⟨g, cap, cur, rfl, hb, hh, rest⟩
  · exact .inl h
  · exact .inr ⟨g, cap, cur, rfl, hb, (Below.heap_setCell w p u g (hp g rfl)).trans hh, rest⟩
theorem own_int0 {w : World} {base e n : Nat} {v : Value} {l : List Int} (h : w.ownsRow base e 1 v n (is l)) (hn : 0 < n) : ∃ g c, v = .slice (some ⟨g, 0, none⟩) n c ∧ base ≤ g := by
  rcases h.2 with ⟨_, h0⟩ | ⟨g, cap, cur, rfl, hg, _⟩
  · omega
  · exact ⟨g, cap, rfl, hg⟩
theorem posS_bd (ws S : List Int) (h : ws.length ≤ 1000) : ∀ x ∈ posS ws S, -9223372036854775808 ≤ x ∧ x ≤ 9223372036854775807 := fun x hx => by
  have := posN8_bd ws S _ x hx
  omega
set_option maxRecDepth 100000 in
set_option maxHeartbeats 8000000 in
theorem pass_any (g cap mb n0 B0 : Nat) (raw : List UInt8) (S : List Int) (f : Int) (w : World) (hrow : Row w 5 g cap raw) (hl : raw.length = 2352) (hm : MS w mb n0 S) (hB1 : B0 ≤ g) (hB2 : B0 ≤ mb) (hB3 : B0 ≤ w.heap.size) :
    Calls Tryz.prog 175 #[.slice (some ⟨g, 0, none⟩) 2352 cap, .int .i64 f, .map (some mb)] w (PassP 5 g cap mb n0 B0 f raw S w) := by
  have HL := Lib.hid hl
  have HROW := Lib.hid hrow
  have HM := Lib.hid hm
  have hne := row_ne_ms hrow hm
  have hgl := hrow.lt
  have hml := hm.lt
  have hW3 : Below w.heap.size w (((w.alloc (.cells #[.slice (some ⟨g, 0, none⟩) 2352 cap] 123)).alloc (.cells #[.int .i64 f] 3)).alloc (.cells #[.map (some mb)] 52)) := (((Below.refl _ w).alloc (Nat.le_refl _) _).alloc (by simp) _).alloc (by simp; omega) _
  have hlen := (hm.below hW3).len 3
  clear hrow hl hm hW3
  refine (callsIn_wide (n := 5)).1 ?_
  refine callsIn_of_wp_marks Tryz.func175 rfl trivial ?_ rfl
  simp only [Tryz.ntmps175, List.size_toArray, List.length_cons, List.length_nil, Nat.reduceAdd, Nat.reduceSub, Array.replicate_succ, Array.replicate_zero, List.push_toArray, List.append_toArray, List.nil_append, List.cons_append]
  gi_wp2_with (refine ⟨trivial, ?_⟩; gi_at_call 61; refine (words_in 4 _).mono ?_; rintro e w' ⟨rfl, rfl⟩)
  obtain ⟨b3, hb3⟩ : ∃ b, b = w.heap.size := ⟨_, rfl⟩
  obtain ⟨b4, hb4⟩ : ∃ b, b = w.heap.size + 1 := ⟨_, rfl⟩
  obtain ⟨b5, hb5⟩ : ∃ b, b = w.heap.size + 1 + 1 := ⟨_, rfl⟩
  obtain ⟨b8, hb8⟩ : ∃ b, b = w.heap.size + 1 + 1 + 1 := ⟨_, rfl⟩
  have hbw : Below w.heap.size w ((((w.alloc (.cells #[.slice (some ⟨g, 0, none⟩) 2352 cap] 123)).alloc (.cells #[.int .i64 f] 3)).alloc (.cells #[.map (some mb)] 52)).alloc (.cells #[.bool false] 4)) := ((((Below.refl _ w).alloc (Nat.le_refl _) _).alloc (by simp) _).alloc (by simp; omega) _).alloc (by simp; omega) _
  have hP : PX ((((w.alloc (.cells #[.slice (some ⟨g, 0, none⟩) 2352 cap] 123)).alloc (.cells #[.int .i64 f] 3)).alloc (.cells #[.map (some mb)] 52)).alloc (.cells #[.bool false] 4)) b3 b4 b5 b8 g cap mb f false := by
    refine ⟨?_, ?_, ?_, ?_⟩
    · rw [hb3]; exact (((Bx.new w _ _).alloc _).alloc _).alloc _
    · have := (((Bx.new (w.alloc (.cells #[.slice (some ⟨g, 0, none⟩) 2352 cap] 123)) 3 [.int .i64 f]).alloc (.cells #[.map (some mb)] 52)).alloc (.cells #[.bool false] 4))
      rw [World.size_alloc] at this
      rw [hb4]; exact this
    · have := ((Bx.new ((w.alloc (.cells #[.slice (some ⟨g, 0, none⟩) 2352 cap] 123)).alloc (.cells #[.int .i64 f] 3)) 52 [.map (some mb)]).alloc (.cells #[.bool false] 4))
      rw [World.size_alloc, World.size_alloc] at this
      rw [hb5]; exact this
    · have := Bx.new (((w.alloc (.cells #[.slice (some ⟨g, 0, none⟩) 2352 cap] 123)).alloc (.cells #[.int .i64 f] 3)).alloc (.cells #[.map (some mb)] 52)) 4 [.bool false]
      rw [World.size_alloc, World.size_alloc, World.size_alloc] at this
      rw [hb8]; exact this
  have hsz : ((((w.alloc (.cells #[.slice (some ⟨g, 0, none⟩) 2352 cap] 123)).alloc (.cells #[.int .i64 f] 3)).alloc (.cells #[.map (some mb)] 52)).alloc (.cells #[.bool false] 4)).heap.size = b8 + 1 := by rw [hb8]; simp
  obtain ⟨W0, hW0⟩ : ∃ W0, W0 = ((((w.alloc (.cells #[.slice (some ⟨g, 0, none⟩) 2352 cap] 123)).alloc (.cells #[.int .i64 f] 3)).alloc (.cells #[.map (some mb)] 52)).alloc (.cells #[.bool false] 4)) := ⟨_, rfl⟩
  rw [← hW0] at hbw hP hsz
  rw [← hW0, ← hb8, ← hb5, ← hb4, ← hb3]
  have hord : g < b3 ∧ mb < b3 ∧ b3 < b4 ∧ b4 < b5 ∧ b5 < b8 := by omega
  have HORD := Lib.hid hord
  have HS0 := Lib.hid hsz
  have HW3 : Hid (w.heap.size = b3) := Lib.hid hb3.symm
  have hR0 := HROW.out.below hbw
  have hM0 := HM.out.below hbw
  have hbB := hbw.mono hB3
  have hBle : B0 ≤ W0.heap.size := by have := hbw.size; omega
  have hmlt : mb < W0.heap.size := by omega
  have hseq := words_gives 4 (by omega) W0
  clear hb3 hb4 hb5 hb8 hW0 hsz hord hlen hgl hml hbw
  refine wpIn_range_gives (n := 5) rfl (by omega) (gf := 122) (lb := #[]) rfl trivial (enters_of Tryz.func122 (by kernel_rfl) rfl) hseq rfl
    (fun k W => ((Row W 5 g cap (passN f raw S k).1 ∧ MS W mb n0 (passN f raw S k).2.1) ∧ PX W b3 b4 b5 b8 g cap mb f (passN f raw S k).2.2) ∧ Below B0 w W)
    (fun _ _ => False)
    (fun k v a' W => GW W0.heap.size k v W ∧ ∃ b10 : Nat, ((W0.heap.size ≤ b10 ∧ a' = { tmps := List.toArray (.slice (some ⟨g, 0, none⟩) 2352 cap :: .int .i64 f :: .map (some mb) :: .pointer (some ⟨b3, 0, none⟩) :: .pointer (some ⟨b4, 0, none⟩) :: .pointer (some ⟨b5, 0, none⟩) :: .bool false :: .bool false :: .pointer (some ⟨b8, 0, none⟩) :: .int .i64 (S.length : Int) :: .pointer (some ⟨b10, 0, none⟩) :: undef :: undef :: undef :: undef :: .map (some mb) :: .int .i64 (S.length : Int) :: .func (.func 122) #[] #[] :: v :: undef :: undef :: undef :: undef :: undef :: undef :: undef :: undef :: undef :: undef :: undef :: undef :: undef :: undef :: undef :: undef :: undef :: undef :: undef :: undef :: undef :: undef :: undef :: undef :: undef :: undef :: undef :: undef :: undef :: undef :: undef :: undef :: undef :: undef :: undef :: undef :: undef :: undef :: []), defers := [] }) ∧ Bx W b10 53 [v]))
    (fun k => (((stays_row _ _ _ _ _).and (stays_ms hmlt _)).and (PX.stays _ _ _ _ _ _ _ _ _ _)).and (stays_below hB3 hBle))
    (fun c => Stays.const _ _)
    (fun k v a' => (GW.stays _ _ _ _).and (Stays.ex fun b10 => (Stays.const _ _).and (stays_bx _ _ _ _)))
    ⟨⟨⟨hR0, hM0⟩, hP⟩, hbB⟩ ?assign ?body ?done ?stop
  case assign =>
    rintro l k v W K hk ⟨⟨⟨hr, hm⟩, hp⟩, hb⟩ hg hK
    have hal := (Below.refl W.heap.size W).alloc (Nat.le_refl _) (.cells #[v] 53)
    have h8 := hp.x8.lt
    have hle : W0.heap.size ≤ W.heap.size := by have := HS0.out; omega
    obtain ⟨gq, cq, rfl, _⟩ := own_int0 hg (by rw [wd_length]; split <;> omega)
    have HF := Lib.hid (hK { tmps := List.toArray (.slice (some ⟨g, 0, none⟩) 2352 cap :: .int .i64 f :: .map (some mb) :: .pointer (some ⟨b3, 0, none⟩) :: .pointer (some ⟨b4, 0, none⟩) :: .pointer (some ⟨b5, 0, none⟩) :: .bool false :: .bool false :: .pointer (some ⟨b8, 0, none⟩) :: .int .i64 (S.length : Int) :: .pointer (some ⟨W.heap.size, 0, none⟩) :: undef :: undef :: undef :: undef :: .map (some mb) :: .int .i64 (S.length : Int) :: .func (.func 122) #[] #[] :: .slice (some ⟨gq, 0, none⟩) (wd k).length cq :: undef :: undef :: undef :: undef :: undef :: undef :: undef :: undef :: undef :: undef :: undef :: undef :: undef :: undef :: undef :: undef :: undef :: undef :: undef :: undef :: undef :: undef :: undef :: undef :: undef :: undef :: undef :: undef :: undef :: undef :: undef :: undef :: undef :: undef :: undef :: undef :: undef :: undef :: []), defers := [] } _ (kf_below hal) ⟨⟨⟨hr.below hal, hm.below hal⟩, hp.keep hal (Nat.le_refl _)⟩, hb.trans (hal.mono (Nat.le_trans hB3 hb.size))⟩ ⟨own_keep' hg hal, W.heap.size, ⟨hle, rfl⟩, Bx.new _ _ _⟩)
    clear hK hr hm hp hb hg hal
    gi_wp2
    exact HF.out
  case body =>
    rintro l k v a' W1 hBl hrec hk ⟨⟨⟨hr, hm⟩, hp⟩, hb⟩ ⟨hg, b10, ⟨hb10, rfl⟩, hx10⟩
    clear hR0 hM0 hP hbB hseq hrec
    have hwb := wd_bd hk
    have hwl := wd_length k
    have hlen : (wd k).length ≤ 45 := by rw [hwl]; split <;> omega
    have hlen2 : 26 ≤ (wd k).length := by rw [hwl]; split <;> omega
    have hel := passN_length f raw S k
    rw [HL.out] at hel
    have hst : passN f raw S (k + 1) = passS f (passN f raw S k) k := rfl
    unfold passS at hst
    generalize passN f raw S k = st at *
    obtain ⟨R1, S1, C1⟩ := st
    dsimp only at hst hel hr hm hp
    obtain ⟨g1, c1, rfl, hg1⟩ := own_int0 hg (by omega)
    have hri := rdI_own (w := W1) hg rfl (by omega) (fun x hx => by have := hwb x hx; omega)
    have hord := HORD.out
    have hoffg := offI_own (g := g) (w := W1) hg (by have := HS0.out; omega) rfl (by omega) (fun x hx => by have := hwb x hx; omega)
    have hoffm := offI_own (g := mb) (w := W1) hg (by have := HS0.out; omega) rfl (by omega) (fun x hx => by have := hwb x hx; omega)
    have hrd := hr.rd (by omega)
    rw [hel] at hrd
    have hmne : g ≠ mb := row_ne_ms hr hm
    obtain ⟨B, hB⟩ : ∃ B, B = W1.heap.size := ⟨_, rfl⟩
    have HBB := Lib.hid hB
    have HT : Hid (∀ W, Below B W1 W → Calls Tryz.prog 147 #[.slice (some ⟨g, 0, none⟩) 2352 cap, .slice (some ⟨g1, 0, none⟩) (wd k).length c1, .int .i64 f] W fun e W' => e = .returned (.string (str (takeL R1 (wd k) f))) ∧ Below W.heap.size W W') := Lib.hid fun W hW =>
      take_any _ R1 _ (wd k) f W (hrd.keep (by rw [← hB]; exact hW)) (hri.keep (by rw [← hB]; exact hW)) (by omega) (fun x hx => by have := hwb x hx; rw [hel]; omega)
    have HPo : Hid (∀ W, Below B W1 W → Calls Tryz.prog 62 #[.slice (some ⟨g1, 0, none⟩) (wd k).length c1, .map (some mb)] W fun e w' => ∃ v, e = .returned v ∧ w'.ownsRow W.heap.size 3 1 v (posS (wd k) S1).length (is (posS (wd k) S1)) ∧ Below W.heap.size W w') := Lib.hid fun W hW =>
      positions8_any _ (wd k) mb n0 S1 W (hri.keep (by rw [← hB]; exact hW)) (hm.below (by rw [← hB]; exact hW)) (by omega)
    have HPL : Hid ((posS (wd k) S1).length ≤ 45) := Lib.hid (by have := posN8_len (wd k) S1 (wd k).length; unfold posS; omega)
    have HPB := Lib.hid (posS_bd (wd k) S1 (by omega))
    have HD : Hid (∀ W pv, RdI W pv (posS (wd k) S1) → Calls Tryz.prog 89 #[.string (str (takeL R1 (wd k) f)), .int .i64 2, pv] W fun e W' => e = .returned (.tuple #[.string (str (G.decode (takeL R1 (wd k) f) 2 (posS (wd k) S1)).1), .int .i64 (G.decode (takeL R1 (wd k) f) 2 (posS (wd k) S1)).2.1, .int .i64 (G.decode (takeL R1 (wd k) f) 2 (posS (wd k) S1)).2.2]) ∧ Below W.heap.size W W') := Lib.hid fun W pv hp =>
      decode_any _ 2 pv _ W (by rw [takeL_length]; omega) hp (by have := HPL.out; omega)
    have HDS : Hid ((G.decode (takeL R1 (wd k) f) 2 (posS (wd k) S1)).2.2 = 0 → (G.decode (takeL R1 (wd k) f) 2 (posS (wd k) S1)).1.length = (wd k).length) := Lib.hid fun h => by
      obtain ⟨_, _, h2, _⟩ := G.decode_sound _ _ _ h
      rw [h2, takeL_length]
    generalize G.decode (takeL R1 (wd k) f) 2 (posS (wd k) S1) = d at *
    obtain ⟨dl, dn, de⟩ := d
    dsimp only at hst HDS HD
    generalize str (takeL R1 (wd k) f) = TS at HT HD
    generalize posS (wd k) S1 = ps at *
    have HPut : Hid (∀ W, Below B W1 W → de = 0 → Calls Tryz.prog 148 #[.slice (some ⟨g, 0, none⟩) 2352 cap, .slice (some ⟨g1, 0, none⟩) (wd k).length c1, .int .i64 f, .string (str dl)] W (fun e W' => e = .returned (.bool (putB R1 (wd k) f dl)) ∧ Row W' 5 g cap (putL R1 (wd k) f dl) ∧ W.grownBy W' (some g))) := Lib.hid fun W hW h0 =>
      put_any g 2352 cap R1 _ (wd k) f dl W hel.symm (hr.below (by rw [← hB]; exact hW)) (fun W' hW' => hoffg W' fun j hj hjg => (hW' j (Nat.lt_of_lt_of_le hj hW.size) hjg).trans (hW.block j (by omega))) (by omega) (fun x hx => by have := hwb x hx; rw [hel]; omega) (by rw [HDS.out h0]; exact Nat.le_refl _)
    have HAll : Hid (∀ W b11, Below B W1 W → de = 0 → Bx W b11 9 [.string (str dl)] → Calls Tryz.prog 217 #[.int .i64 ((wd k).length : Int), .func (.func 216) #[] #[.pointer (some ⟨b10, 0, none⟩), .pointer (some ⟨b4, 0, none⟩), .pointer (some ⟨b11, 0, none⟩)]] W fun e w' => e = .returned (.bool (insB (wd k) f dl)) ∧ Below W.heap.size W w') := Lib.hid fun W b11 hW h0 hx =>
      (all_any (wd k).length b10 b4 b11 _ (wd k) f dl W (hx10.keepB hW (by rw [hB]; exact hx10.lt)) (hp.x4.keepB hW (by rw [hB]; exact hp.x4.lt)) hx (hri.keep (by rw [← hB]; exact hW)) rfl (by rw [HDS.out h0]; exact Nat.le_refl _) (by omega)).mono fun e w' ⟨h1, q, h2⟩ => ⟨h1, by rw [h2]; exact Below.drewN (Below.refl _ _) q⟩
    have HRel : Hid (∀ W3, W3.ownsRow W0.heap.size 3 1 (.slice (some ⟨g1, 0, none⟩) (wd k).length c1) (wd k).length (is (wd k)) → MS W3 mb n0 S1 → Calls Tryz.prog 63 #[.slice (some ⟨g1, 0, none⟩) (wd k).length c1, .map (some mb)] W3 (fun e W' => e = .returned (.tuple #[]) ∧ MS W' mb n0 (rel S1 (wd k)) ∧ W3.grownBy W' (some mb))) := Lib.hid fun W3 h3 hm3 =>
      release_any _ (wd k) mb n0 S1 W3 (offI_own (g := mb) (w := W3) h3 (by have := HS0.out; omega) rfl (by omega) (fun x hx => by have := hwb x hx; omega)) hm3 (by omega)
    generalize insB (wd k) f dl = ib at *
    generalize putB R1 (wd k) f dl = pb at *
    generalize putL R1 (wd k) f dl = R2 at *
    generalize rel S1 (wd k) = S2 at *
    have HX10 := Lib.hid hx10
    have HPX := Lib.hid hp
    have HR := Lib.hid hr; have HM1 := Lib.hid hm; have HB1 := Lib.hid hb; have HG1 := Lib.hid hg; have HST := Lib.hid hst; have HMN := Lib.hid hmne
    have HBX := Lib.hid hb10
    have HWL := Lib.hid (And.intro hlen hlen2)
    generalize hn : (wd k).length = n at HT HPo HPut HAll HRel HDS
    have HN := Lib.hid hn
    obtain ⟨D1, hD1⟩ : ∃ D1, D1 = str dl := ⟨_, rfl⟩
    rw [← hD1] at HD HPut HAll
    have HD1 := Lib.hid hD1
    clear hx10 hp hr hm hb hg hst hmne hb10 hwb hwl hlen hlen2 hel hri hoffg hoffm hrd hB hord hg1 hn hD1
    rw [HN.out] at HX10 HG1 HWL
    have HG2 : Hid (W1.ownsRow W0.heap.size 3 1 (.slice (some ⟨g1, 0, none⟩) n c1) n (is (wd k))) := Lib.hid (by have h := HG1.out; unfold GW at h; rw [HN.out] at h; exact h)
    gi_wp2
    refine wpIn_region_ind (by rintro ⟨_, _, h⟩; exact h) (by kernel_rfl) (by kernel_rfl) (RegT B 9 [.string D1]) (fun W => Below B W1 W) (pass4V g cap mb g1 n c1 B f TS D1 dn de ps) (fun _ => false) (by kernel_rfl) (fun W W' hR h => h.trans hR.1.1) (pass4V_keep g cap mb g1 n c1 B f TS D1 dn de ps) ((Below.refl _ _).drew) ⟨?_, ?_, ?_, ?_, ?_, ?_, ?_, ?_, ?_, ?_, ?_, ?_, ?_, ?_, ?_, ?_, trivial⟩ ?_
    · intro a W hc hsz hold hdep
      have o3 : a.tmps.getD 3 undef = .pointer (some ⟨b3, 0, none⟩) := hold 3 (by kernel_rfl)
      have q := (HPX.out.keep hc (by rw [HBB.out]; exact Nat.le_refl _)).x3.cell (i := 0) rfl
      clear hsz hold hdep
      refine stepR_do rfl (wanted_none rfl) ?_
      refine stepD_val (v := .slice (some ⟨g, 0, none⟩) 2352 cap) RegT.refl rfl fun K hK => ?_
      go_simp
      exact hK
    · intro a W hc hsz hold hdep
      have o10 : a.tmps.getD 10 undef = .pointer (some ⟨b10, 0, none⟩) := hold 10 (by kernel_rfl)
      have q := (HX10.out.keepB hc (by rw [HBB.out]; exact HX10.out.lt)).cell (i := 0) rfl
      clear hsz hold hdep
      refine stepR_do rfl (wanted_none rfl) ?_
      refine stepD_val (v := .slice (some ⟨g1, 0, none⟩) n c1) RegT.refl rfl fun K hK => ?_
      go_simp
      exact hK
    · intro a W hc hsz hold hdep
      have o4 : a.tmps.getD 4 undef = .pointer (some ⟨b4, 0, none⟩) := hold 4 (by kernel_rfl)
      have q := (HPX.out.keep hc (by rw [HBB.out]; exact Nat.le_refl _)).x4.cell (i := 0) rfl
      clear hsz hold hdep
      refine stepR_do rfl (wanted_none rfl) ?_
      refine stepD_val (v := .int .i64 f) RegT.refl rfl fun K hK => ?_
      go_simp
      exact hK
    · intro a W hc hsz hold hdep
      have d0 : a.tmps.getD 20 undef = .slice (some ⟨g, 0, none⟩) 2352 cap := hdep 0 (by kernel_rfl) rfl _ rfl
      have e0 : a.tmps[20]?.getD undef = .slice (some ⟨g, 0, none⟩) 2352 cap := by rw [← Array.getD_eq_getD_getElem?]; exact d0
      have d1 : a.tmps.getD 21 undef = .slice (some ⟨g1, 0, none⟩) n c1 := hdep 1 (by kernel_rfl) rfl _ rfl
      have e1 : a.tmps[21]?.getD undef = .slice (some ⟨g1, 0, none⟩) n c1 := by rw [← Array.getD_eq_getD_getElem?]; exact d1
      have d2 : a.tmps.getD 22 undef = .int .i64 f := hdep 2 (by kernel_rfl) rfl _ rfl
      have e2 : a.tmps[22]?.getD undef = .int .i64 f := by rw [← Array.getD_eq_getD_getElem?]; exact d2
      clear hsz hold hdep
      refine stepR_do rfl (wanted_none rfl) ?_
      refine stepD_call (v := .string TS) (fun W' hb => RegT.call (by rw [HBB.out]; exact hc.size) hb) (fun _ => rfl) fun K hK => ?_
      go_simp
      refine (HT.out W hc).mono ?_
      rintro e w' ⟨rfl, hb'⟩
      exact hK _ hb'
    · intro a W hc hsz hold hdep
      have o10 : a.tmps.getD 10 undef = .pointer (some ⟨b10, 0, none⟩) := hold 10 (by kernel_rfl)
      have q := (HX10.out.keepB hc (by rw [HBB.out]; exact HX10.out.lt)).cell (i := 0) rfl
      clear hsz hold hdep
      refine stepR_do rfl (wanted_none rfl) ?_
      refine stepD_val (v := .slice (some ⟨g1, 0, none⟩) n c1) RegT.refl rfl fun K hK => ?_
      go_simp
      exact hK
    · intro a W hc hsz hold hdep
      have o5 : a.tmps.getD 5 undef = .pointer (some ⟨b5, 0, none⟩) := hold 5 (by kernel_rfl)
      have q := (HPX.out.keep hc (by rw [HBB.out]; exact Nat.le_refl _)).x5.cell (i := 0) rfl
      clear hsz hold hdep
      refine stepR_do rfl (wanted_none rfl) ?_
      refine stepD_val (v := .map (some mb)) RegT.refl rfl fun K hK => ?_
      go_simp
      exact hK
    · intro a W hc hsz hold hdep
      have d4 : a.tmps.getD 24 undef = .slice (some ⟨g1, 0, none⟩) n c1 := hdep 4 (by kernel_rfl) rfl _ rfl
      have e4 : a.tmps[24]?.getD undef = .slice (some ⟨g1, 0, none⟩) n c1 := by rw [← Array.getD_eq_getD_getElem?]; exact d4
      have d5 : a.tmps.getD 25 undef = .map (some mb) := hdep 5 (by kernel_rfl) rfl _ rfl
      have e5 : a.tmps[25]?.getD undef = .map (some mb) := by rw [← Array.getD_eq_getD_getElem?]; exact d5
      clear hsz hold hdep
      refine stepR_do rfl (wanted_none rfl) ?_
      refine stepD_any fun K hK => ?_
      go_simp
      refine (HPo.out W hc).mono ?_
      rintro e w' ⟨v, rfl, ho, hb'⟩
      obtain ⟨a6, c6, rfl⟩ := ownD_form ho
      exact hK _ _ (RegT.call (by rw [HBB.out]; exact hc.size) hb') ⟨a6, c6, rfl, own_mono ho (by rw [HBB.out]; exact hc.size)⟩
    · intro a W hc hsz hold hdep
      have d3 : a.tmps.getD 23 undef = .string TS := hdep 3 (by kernel_rfl) rfl _ rfl
      have e3 : a.tmps[23]?.getD undef = .string TS := by rw [← Array.getD_eq_getD_getElem?]; exact d3
      have x6 := hdep 6 (by kernel_rfl) rfl _ rfl
      clear hsz hold hdep
      refine stepR_do rfl (wanted_none rfl) ?_
      obtain ⟨a6, c6, d6, ho⟩ := x6
      replace d6 : a.tmps.getD 26 undef = .slice a6 ps.length c6 := d6
      have e6 : a.tmps[26]?.getD undef = .slice a6 ps.length c6 := by rw [← Array.getD_eq_getD_getElem?]; exact d6
      have hdc := HD.out W _ (rdI_own ho rfl (by have := HPL.out; omega) HPB.out)
      clear ho
      refine stepD_call (v := .tuple #[.string D1, .int .i64 dn, .int .i64 de]) (fun W' hb => RegT.call (by rw [HBB.out]; exact hc.size) hb) (fun _ => rfl) fun K hK => ?_
      go_simp
      refine hdc.mono ?_
      rintro e w' ⟨rfl, hb'⟩
      exact hK _ hb'
    · intro a W hc hsz hold hdep
      have d7 : a.tmps.getD 27 undef = .tuple #[.string D1, .int .i64 dn, .int .i64 de] := hdep 7 (by kernel_rfl) rfl _ rfl
      clear hsz hold hdep
      refine stepR_do rfl (wanted_none rfl) ?_
      refine stepD_val (v := .tuple #[.string D1, .int .i64 dn, .int .i64 de]) RegT.refl rfl fun K hK => ?_
      go_simp
      exact hK
    · intro a W hc hsz hold hdep
      have d8 : a.tmps.getD 19 undef = .tuple #[.string D1, .int .i64 dn, .int .i64 de] := hdep 8 (by kernel_rfl) rfl _ rfl
      clear hsz hold hdep
      refine stepR_do rfl (wanted_none rfl) ?_
      refine stepD_val (v := .string D1) RegT.refl rfl fun K hK => ?_
      go_simp
      exact hK
    · intro a W hc hsz hold hdep
      have d8 : a.tmps.getD 19 undef = .tuple #[.string D1, .int .i64 dn, .int .i64 de] := hdep 8 (by kernel_rfl) rfl _ rfl
      clear hsz hold hdep
      refine stepR_do rfl (wanted_none rfl) ?_
      refine stepD_val (v := .int .i64 dn) RegT.refl rfl fun K hK => ?_
      go_simp
      exact hK
    · intro a W hc hsz hold hdep
      have d8 : a.tmps.getD 19 undef = .tuple #[.string D1, .int .i64 dn, .int .i64 de] := hdep 8 (by kernel_rfl) rfl _ rfl
      clear hsz hold hdep
      refine stepR_do rfl (wanted_none rfl) ?_
      refine stepD_val (v := .int .i64 de) RegT.refl rfl fun K hK => ?_
      go_simp
      exact hK
    · intro a W hc hsz hold hdep
      clear hsz hold hdep
      refine stepR_do rfl (wanted_none rfl) ?_
      refine stepD_new (v := .pointer (some ⟨W.heap.size, 0, none⟩)) (RegT.alloc (by rw [HBB.out]; exact hc.size) (.cells #[.string ⟨#[]⟩] 9)) ⟨W.heap.size, rfl, by rw [HBB.out]; exact hc.size, [.string ⟨#[]⟩], rfl, Bx.new _ _ _⟩ fun K hK => ?_
      go_simp
      exact hK
    · intro a W hc hsz hold hdep
      have x12 := hdep 12 (by kernel_rfl) rfl _ rfl
      have d9 : a.tmps.getD 28 undef = .string D1 := hdep 9 (by kernel_rfl) rfl _ rfl
      clear hsz hold hdep
      refine stepR_do rfl (wanted_none rfl) ?_
      obtain ⟨b, hg, hgB, cs, hl9, hB9⟩ := x12
      replace hg : a.tmps.getD 11 undef = .pointer (some ⟨b, 0, none⟩) := hg
      have hlt := hB9.lt
      have hf := hB9.free
      obtain ⟨u0, z0⟩ : ∃ v, W.cell? ⟨b, 0, none⟩ = some v := ⟨_, hB9.cell (List.getElem?_eq_getElem (by rw [hl9]; simp))⟩
      refine stepD_new (v := undef) (RegT.store hgB ⟨cs, hl9, hB9⟩) ⟨b, hg, hgB, hB9.full hl9⟩ fun K hK => ?_
      clear hB9 hl9
      go_simp
      exact hK
    · intro a W hc hsz hold hdep
      have d10 : a.tmps.getD 29 undef = .int .i64 dn := hdep 10 (by kernel_rfl) rfl _ rfl
      clear hsz hold hdep
      refine stepR_do rfl (wanted_none rfl) ?_
      refine stepD_val (v := .int .i64 dn) RegT.refl rfl fun K hK => ?_
      go_simp
      exact hK
    · intro a W hc hsz hold hdep
      have d11 : a.tmps.getD 30 undef = .int .i64 de := hdep 11 (by kernel_rfl) rfl _ rfl
      clear hsz hold hdep
      refine stepR_do rfl (wanted_none rfl) ?_
      refine stepD_val (v := .int .i64 de) RegT.refl rfl fun K hK => ?_
      go_simp
      exact hK
    · intro a W hC hd hsz hold hval
      obtain ⟨b11, hb11, hB11, hX11⟩ := hval 13 _ rfl rfl
      have d11 : a.tmps.getD 11 undef = .pointer (some ⟨b11, 0, none⟩) := hb11
      clear hb11
      have d13 : a.tmps.getD 13 undef = .int .i64 de := hval 15 _ rfl rfl
      have d3 : a.tmps.getD 3 undef = .pointer (some ⟨b3, 0, none⟩) := hold 3 (by kernel_rfl)
      have d4 : a.tmps.getD 4 undef = .pointer (some ⟨b4, 0, none⟩) := hold 4 (by kernel_rfl)
      have d5 : a.tmps.getD 5 undef = .pointer (some ⟨b5, 0, none⟩) := hold 5 (by kernel_rfl)
      have d8 : a.tmps.getD 8 undef = .pointer (some ⟨b8, 0, none⟩) := hold 8 (by kernel_rfl)
      have d10 : a.tmps.getD 10 undef = .pointer (some ⟨b10, 0, none⟩) := hold 10 (by kernel_rfl)
      clear hold
      obtain ⟨tm, df⟩ := a
      replace hd : df = [] := hd
      replace hsz : tm.size = 57 := hsz
      replace d13 : tm.getD 13 undef = .int .i64 de := d13
      replace d3 : tm.getD 3 undef = .pointer (some ⟨b3, 0, none⟩) := d3
      replace d4 : tm.getD 4 undef = .pointer (some ⟨b4, 0, none⟩) := d4
      replace d5 : tm.getD 5 undef = .pointer (some ⟨b5, 0, none⟩) := d5
      replace d8 : tm.getD 8 undef = .pointer (some ⟨b8, 0, none⟩) := d8
      replace d10 : tm.getD 10 undef = .pointer (some ⟨b10, 0, none⟩) := d10
      replace d11 : tm.getD 11 undef = .pointer (some ⟨b11, 0, none⟩) := d11
      subst hd
      have e : tm = List.toArray (tm.getD 0 undef :: tm.getD 1 undef :: tm.getD 2 undef :: tm.getD 3 undef :: tm.getD 4 undef :: tm.getD 5 undef :: tm.getD 6 undef :: tm.getD 7 undef :: tm.getD 8 undef :: tm.getD 9 undef :: tm.getD 10 undef :: tm.getD 11 undef :: tm.getD 12 undef :: tm.getD 13 undef :: tm.getD 14 undef :: tm.getD 15 undef :: tm.getD 16 undef :: tm.getD 17 undef :: tm.getD 18 undef :: tm.getD 19 undef :: tm.getD 20 undef :: tm.getD 21 undef :: tm.getD 22 undef :: tm.getD 23 undef :: tm.getD 24 undef :: tm.getD 25 undef :: tm.getD 26 undef :: tm.getD 27 undef :: tm.getD 28 undef :: tm.getD 29 undef :: tm.getD 30 undef :: tm.getD 31 undef :: tm.getD 32 undef :: tm.getD 33 undef :: tm.getD 34 undef :: tm.getD 35 undef :: tm.getD 36 undef :: tm.getD 37 undef :: tm.getD 38 undef :: tm.getD 39 undef :: tm.getD 40 undef :: tm.getD 41 undef :: tm.getD 42 undef :: tm.getD 43 undef :: tm.getD 44 undef :: tm.getD 45 undef :: tm.getD 46 undef :: tm.getD 47 undef :: tm.getD 48 undef :: tm.getD 49 undef :: tm.getD 50 undef :: tm.getD 51 undef :: tm.getD 52 undef :: tm.getD 53 undef :: tm.getD 54 undef :: tm.getD 55 undef :: tm.getD 56 undef :: []) := arr_eq tm 57 hsz
      rw [d13, d3, d4, d5, d8, d10, d11] at e
      clear d13 d3 d4 d5 d8 d10 d11 hsz
      generalize tm.getD 0 undef = v0 at e
      generalize tm.getD 1 undef = v1 at e
      generalize tm.getD 2 undef = v2 at e
      generalize tm.getD 6 undef = v6 at e
      generalize tm.getD 7 undef = v7 at e
      generalize tm.getD 9 undef = v9 at e
      generalize tm.getD 12 undef = v12 at e
      generalize tm.getD 14 undef = v14 at e
      generalize tm.getD 15 undef = v15 at e
      generalize tm.getD 16 undef = v16 at e
      generalize tm.getD 17 undef = v17 at e
      generalize tm.getD 18 undef = v18 at e
      generalize tm.getD 19 undef = v19 at e
      generalize tm.getD 20 undef = v20 at e
      generalize tm.getD 21 undef = v21 at e
      generalize tm.getD 22 undef = v22 at e
      generalize tm.getD 23 undef = v23 at e
      generalize tm.getD 24 undef = v24 at e
      generalize tm.getD 25 undef = v25 at e
      generalize tm.getD 26 undef = v26 at e
      generalize tm.getD 27 undef = v27 at e
      generalize tm.getD 28 undef = v28 at e
      generalize tm.getD 29 undef = v29 at e
      generalize tm.getD 30 undef = v30 at e
      generalize tm.getD 31 undef = v31 at e
      generalize tm.getD 32 undef = v32 at e
      generalize tm.getD 33 undef = v33 at e
      generalize tm.getD 34 undef = v34 at e
      generalize tm.getD 35 undef = v35 at e
      generalize tm.getD 36 undef = v36 at e
      generalize tm.getD 37 undef = v37 at e
      generalize tm.getD 38 undef = v38 at e
      generalize tm.getD 39 undef = v39 at e
      generalize tm.getD 40 undef = v40 at e
      generalize tm.getD 41 undef = v41 at e
      generalize tm.getD 42 undef = v42 at e
      generalize tm.getD 43 undef = v43 at e
      generalize tm.getD 44 undef = v44 at e
      generalize tm.getD 45 undef = v45 at e
      generalize tm.getD 46 undef = v46 at e
      generalize tm.getD 47 undef = v47 at e
      generalize tm.getD 48 undef = v48 at e
      generalize tm.getD 49 undef = v49 at e
      generalize tm.getD 50 undef = v50 at e
      generalize tm.getD 51 undef = v51 at e
      generalize tm.getD 52 undef = v52 at e
      generalize tm.getD 53 undef = v53 at e
      generalize tm.getD 54 undef = v54 at e
      generalize tm.getD 55 undef = v55 at e
      generalize tm.getD 56 undef = v56 at e
      subst e
      clear hval
      have hCs : B ≤ W.heap.size := by rw [HBB.out]; exact hC.size
      have hC1 : Below W1.heap.size W1 W := by rw [← HBB.out]; exact hC
      have hP := HPX.out.keep hC1 (Nat.le_refl _)
      have h10 := HX10.out.call hC1
      have q10 := h10.cell (i := 0) rfl
      have fin0 : passN f raw S (k + 1) = (R1, S1, C1) → ∀ W', Below W1.heap.size W1 W' → KeepsFrom W0.heap.size W1 W' ∧ ((Row W' 5 g cap (passN f raw S (k + 1)).1 ∧ MS W' mb n0 (passN f raw S (k + 1)).2.1) ∧ PX W' b3 b4 b5 b8 g cap mb f (passN f raw S (k + 1)).2.2) ∧ Below B0 w W' := fun e W' hW => by
        rw [e]
        exact ⟨kf_below hW, ⟨⟨HR.out.below hW, HM1.out.below hW⟩, HPX.out.keep hW (Nat.le_refl _)⟩, HB1.out.trans (hW.mono (Nat.le_trans hB3 HB1.out.size))⟩
      by_cases hde : de = 0
      · subst hde
        have HAll2 := Lib.hid (fun W b11 h1 h2 => HAll.out W b11 h1 rfl h2)
        have HPut2 := Lib.hid (fun W h1 => HPut.out W h1 rfl)
        clear HAll HPut HDS
        cases ib with
        | false =>
          have HE : Hid (passN f raw S (k + 1) = (R1, S1, C1)) := Lib.hid (by rw [HST.out, if_neg (fun h => by cases h.2)])
          have HFin := Lib.hid (fin0 HE.out)
          clear fin0
          gi_wp2_with (refine ⟨trivial, ?_⟩; gi_at_call 217; refine (CallsIn.inRound l (callsIn_wide.2 (HAll2.out _ b11 hC hX11))).mono ?_; rintro e W2 ⟨rfl, hb2⟩)
          exact HFin.out _ (hC1.trans (hb2.mono hC1.size))
        | true =>
          have HE : Hid (passN f raw S (k + 1) = (R2, S2, pb || C1)) := Lib.hid (by rw [HST.out, if_pos ⟨rfl, rfl⟩])
          clear fin0
          cases pb with
          | false =>
            gi_wp2
            refine ⟨trivial, ?_⟩
            refine (CallsIn.inRound l (callsIn_wide.2 (HAll2.out _ b11 hC hX11))).mono ?_
            rintro e W2 ⟨rfl, hb2⟩
            have hC2 := hC1.trans (hb2.mono hC1.size)
            have hP2 := HPX.out.keep hC2 (Nat.le_refl _)
            have hX2 := HX10.out.call hC2
            have q3 := hP2.x3.cell (i := 0) rfl
            have q4 := hP2.x4.cell (i := 0) rfl
            have q10' := hX2.cell (i := 0) rfl
            have q11 := (hX11.call hb2).cell (i := 0) rfl
            have hC2' : Below B W1 W2 := (by rw [HBB.out]; exact hC2)
            have HP2 := Lib.hid hP2
            have HX2 := Lib.hid hX2
            clear hP2 hX2
            gi_wp2
            refine ⟨trivial, ?_⟩
            refine (CallsIn.inRound l (callsIn_wide.2 (HPut2.out _ hC2'))).mono ?_
            rintro e W3 ⟨rfl, hr3, hg3⟩
            have hord := HORD.out
            have hbx := HBX.out
            have hs0 := HS0.out
            have hP3 := HP2.out.grown hg3 (by omega)
            have q8 := hP3.x8.cell (i := 0) rfl
            have f8 := hP3.x8.free 0
            have hX3 : Bx W3 b10 53 [.slice (some ⟨g1, 0, none⟩) n c1] := (hg3.block _ HX2.out.lt (fun e => by have := Option.some.inj e; omega)).trans HX2.out
            have h5 := (hP3.x5.far (p := ⟨b8, 0, none⟩) (show b8 ≠ b5 by omega) (.bool C1)).cell (i := 0) rfl
            have h10 := (hX3.far (p := ⟨b8, 0, none⟩) (show b8 ≠ b10 by omega) (.bool C1)).cell (i := 0) rfl
            have HR3 := Lib.hid hr3
            have HG3 := Lib.hid hg3
            have HP3 := Lib.hid hP3
            clear hr3 hg3 hP3 hX3 hord hbx hs0
            gi_wp2
            refine ⟨trivial, ?_⟩
            refine (CallsIn.inRound l (callsIn_wide.2 (HRel.out (W3.setCell ⟨b8, 0, none⟩ (.bool C1)) (ownD_setO8 (p := ⟨b8, 0, none⟩) (own_other (own_keep' HG2.out hC2) HG3.out (fun j hj e => by have := ownBlock_ge' HG2.out j hj; have := HORD.out; have := HS0.out; have := Option.some.inj e; omega)) (fun j hj => by have := ownBlock_ge' HG2.out j hj; have := HS0.out; show j ≠ b8; omega) _) (((HM1.out.below hC2).kept (HG3.out.block _ (HM1.out.below hC2).lt (fun e => HMN.out (Option.some.inj e).symm))).kept (Below.heap_setCell W3 ⟨b8, 0, none⟩ _ mb (show mb ≠ b8 by have := HORD.out; omega)))))).mono ?_
            rintro e W5 ⟨rfl, hm5, hg5⟩
            gi_wp2
            have hord := HORD.out
            have hg4 : W2.grownBy (W3.setCell ⟨b8, 0, none⟩ (.bool C1)) (some g) ∨ True := .inr trivial
            have hr5 : Row W5 5 g cap R2 := (HR3.out.keep (Below.heap_setCell W3 ⟨b8, 0, none⟩ (.bool C1) g (show g ≠ b8 by omega))).keep (hg5.block g (by have := HR3.out.lt; simpa using this) (fun e => HMN.out (Option.some.inj e)))
            have hP4 : PX (W3.setCell ⟨b8, 0, none⟩ (.bool C1)) b3 b4 b5 b8 g cap mb f (C1) := ⟨HP3.out.x3.far (show b8 ≠ b3 by omega) _, HP3.out.x4.far (show b8 ≠ b4 by omega) _, HP3.out.x5.far (show b8 ≠ b5 by omega) _, HP3.out.x8.set 0 _⟩
            have hP5 := hP4.grown hg5 (by omega)
            have hB2 := HB1.out.trans (hC2.mono (Nat.le_trans hB3 HB1.out.size))
            have hB3' := hB2.grown HG3.out (Nat.le_trans hB3 hB2.size) (fun j e => by have := Option.some.inj e; omega)
            have hB4 := hB3'.setCell (p := ⟨b8, 0, none⟩) (show B0 ≤ b8 by omega) (.bool C1)
            have hB5 := hB4.grown hg5 (Nat.le_trans hB3 hB4.size) (fun j e => by have := Option.some.inj e; omega)
            refine ⟨(((kf_below hC2).trans (KeepsFrom.of_grownBy HG3.out (fun j e => by have := Option.some.inj e; have := HS0.out; omega))).trans (kf_set _ _ _ _)).trans (KeepsFrom.of_grownBy hg5 (fun j e => by have := Option.some.inj e; have := HS0.out; omega)), ?_⟩
            show ((Row W5 5 g cap (passN f raw S (k + 1)).1 ∧ MS W5 mb n0 (passN f raw S (k + 1)).2.1) ∧ PX W5 b3 b4 b5 b8 g cap mb f (passN f raw S (k + 1)).2.2) ∧ Below B0 w W5
            rw [HE.out]
            exact ⟨⟨⟨hr5, hm5⟩, hP5⟩, hB5⟩
          | true =>
            gi_wp2
            refine ⟨trivial, ?_⟩
            refine (CallsIn.inRound l (callsIn_wide.2 (HAll2.out _ b11 hC hX11))).mono ?_
            rintro e W2 ⟨rfl, hb2⟩
            have hC2 := hC1.trans (hb2.mono hC1.size)
            have hP2 := HPX.out.keep hC2 (Nat.le_refl _)
            have hX2 := HX10.out.call hC2
            have q3 := hP2.x3.cell (i := 0) rfl
            have q4 := hP2.x4.cell (i := 0) rfl
            have q10' := hX2.cell (i := 0) rfl
            have q11 := (hX11.call hb2).cell (i := 0) rfl
            have hC2' : Below B W1 W2 := (by rw [HBB.out]; exact hC2)
            have HP2 := Lib.hid hP2
            have HX2 := Lib.hid hX2
            clear hP2 hX2
            gi_wp2
            refine ⟨trivial, ?_⟩
            refine (CallsIn.inRound l (callsIn_wide.2 (HPut2.out _ hC2'))).mono ?_
            rintro e W3 ⟨rfl, hr3, hg3⟩
            have hord := HORD.out
            have hbx := HBX.out
            have hs0 := HS0.out
            have hP3 := HP2.out.grown hg3 (by omega)
            have q8 := hP3.x8.cell (i := 0) rfl
            have f8 := hP3.x8.free 0
            have hX3 : Bx W3 b10 53 [.slice (some ⟨g1, 0, none⟩) n c1] := (hg3.block _ HX2.out.lt (fun e => by have := Option.some.inj e; omega)).trans HX2.out
            have h5 := (hP3.x5.far (p := ⟨b8, 0, none⟩) (show b8 ≠ b5 by omega) (.bool true)).cell (i := 0) rfl
            have h10 := (hX3.far (p := ⟨b8, 0, none⟩) (show b8 ≠ b10 by omega) (.bool true)).cell (i := 0) rfl
            have HR3 := Lib.hid hr3
            have HG3 := Lib.hid hg3
            have HP3 := Lib.hid hP3
            clear hr3 hg3 hP3 hX3 hord hbx hs0
            gi_wp2
            refine ⟨trivial, ?_⟩
            refine (CallsIn.inRound l (callsIn_wide.2 (HRel.out (W3.setCell ⟨b8, 0, none⟩ (.bool true)) (ownD_setO8 (p := ⟨b8, 0, none⟩) (own_other (own_keep' HG2.out hC2) HG3.out (fun j hj e => by have := ownBlock_ge' HG2.out j hj; have := HORD.out; have := HS0.out; have := Option.some.inj e; omega)) (fun j hj => by have := ownBlock_ge' HG2.out j hj; have := HS0.out; show j ≠ b8; omega) _) (((HM1.out.below hC2).kept (HG3.out.block _ (HM1.out.below hC2).lt (fun e => HMN.out (Option.some.inj e).symm))).kept (Below.heap_setCell W3 ⟨b8, 0, none⟩ _ mb (show mb ≠ b8 by have := HORD.out; omega)))))).mono ?_
            rintro e W5 ⟨rfl, hm5, hg5⟩
            gi_wp2
            have hord := HORD.out
            have hg4 : W2.grownBy (W3.setCell ⟨b8, 0, none⟩ (.bool true)) (some g) ∨ True := .inr trivial
            have hr5 : Row W5 5 g cap R2 := (HR3.out.keep (Below.heap_setCell W3 ⟨b8, 0, none⟩ (.bool true) g (show g ≠ b8 by omega))).keep (hg5.block g (by have := HR3.out.lt; simpa using this) (fun e => HMN.out (Option.some.inj e)))
            have hP4 : PX (W3.setCell ⟨b8, 0, none⟩ (.bool true)) b3 b4 b5 b8 g cap mb f (true) := ⟨HP3.out.x3.far (show b8 ≠ b3 by omega) _, HP3.out.x4.far (show b8 ≠ b4 by omega) _, HP3.out.x5.far (show b8 ≠ b5 by omega) _, HP3.out.x8.set 0 _⟩
            have hP5 := hP4.grown hg5 (by omega)
            have hB2 := HB1.out.trans (hC2.mono (Nat.le_trans hB3 HB1.out.size))
            have hB3' := hB2.grown HG3.out (Nat.le_trans hB3 hB2.size) (fun j e => by have := Option.some.inj e; omega)
            have hB4 := hB3'.setCell (p := ⟨b8, 0, none⟩) (show B0 ≤ b8 by omega) (.bool true)
            have hB5 := hB4.grown hg5 (Nat.le_trans hB3 hB4.size) (fun j e => by have := Option.some.inj e; omega)
            refine ⟨(((kf_below hC2).trans (KeepsFrom.of_grownBy HG3.out (fun j e => by have := Option.some.inj e; have := HS0.out; omega))).trans (kf_set _ _ _ _)).trans (KeepsFrom.of_grownBy hg5 (fun j e => by have := Option.some.inj e; have := HS0.out; omega)), ?_⟩
            show ((Row W5 5 g cap (passN f raw S (k + 1)).1 ∧ MS W5 mb n0 (passN f raw S (k + 1)).2.1) ∧ PX W5 b3 b4 b5 b8 g cap mb f (passN f raw S (k + 1)).2.2) ∧ Below B0 w W5
            rw [HE.out]
            exact ⟨⟨⟨hr5, hm5⟩, hP5⟩, hB5⟩
      · have hdb : (de != 0) = true := by simpa using hde
        have HE : Hid (passN f raw S (k + 1) = (R1, S1, C1)) := Lib.hid (by rw [HST.out, if_neg (fun h => hde h.1)])
        have HFin := Lib.hid (fin0 HE.out)
        have HDE := Lib.hid hde
        clear fin0 hde
        gi_wp2
        refine ⟨trivial, ?_⟩
        gi_wp2
        exact HFin.out _ hC1
  case done =>
    rintro D W hD ⟨⟨⟨hr, hm⟩, hp⟩, hb⟩ hK
    clear hR0 hM0 hP hbB hseq
    obtain ⟨st, hst⟩ : ∃ st, st = passN f raw S 138 := ⟨_, rfl⟩
    rw [← hst] at hr hm hp
    have HST := Lib.hid hst
    clear hst
    obtain ⟨R1, S1, C1⟩ := st
    dsimp only at hr hm hp
    have q8 := hp.x8.cell (i := 0) rfl
    have q5 := hp.x5.cell (i := 0) rfl
    have hlen := hm.len 3
    have HR1 : Hid (Row (W.putObj D (.deferred none)) 5 g cap R1) := Lib.hid ((stays_row W0.heap.size _ _ _ _).putObj (.deferred none) hr hD hK rfl)
    have HM1 : Hid (MS (W.putObj D (.deferred none)) mb n0 S1) := Lib.hid ((stays_ms hmlt _).putObj (.deferred none) hm hD hK rfl)
    have HB1 : Hid (Below B0 w (W.putObj D (.deferred none))) := Lib.hid ((stays_below hB3 hBle).putObj (.deferred none) hb hD hK rfl)
    clear hr hm hp hb
    gi_wp2
    refine ⟨by simp, .inl ⟨_, _, rfl, run_takeDeferred hK, ?_⟩⟩
    refine ⟨_, results_tmp2 rfl _ _ _, ?_⟩
    unfold PassP
    rw [← HST.out]
    exact ⟨rfl, HR1.out, HM1.out, HB1.out⟩
  case stop =>
    rintro D c W _ h _
    exact h.elim
end Go.Proofs.YtflmjdjkfognjaaGreat.W8
