/- The law 'masterdisc/masterdisclaw08.ProductcodeSound' returns true for every input, and leaves its arguments as they were. -/
import Derived.Test.YtepdcpbgdfjobaaWd
import Derived.Outline
import Derived.IntWalk
import Derived.Test.YtepdcpbgdfjobaaWe
import Derived.Test.YtepdcpbgdfjobaaWa
import Derived.Test.YtepdcpbgdfjobaaRin
import Derived.Deep.Cut
import Derived.Test.YtepdcpbgdfjobaaWr
import Derived.Test.YtepdcpbgdfjobaaInr
import Derived.Test.YtepdcpbgdfjobaaRef4
import Derived.Deep.CutBlock
import Derived.Deep.DeepCutAuto
import Derived.Test.YtepdcpbgdfjobaaWz
import Derived.Test.YtepdcpbgdfjobaaCode
import Derived.Test.YtepdcpbgdfjobaaDecP
import Derived.Test.YtepdcpbgdfjobaaWx
import Derived.Lib.SliceRun
import Derived.Lib.LazyBuf
import Derived.Test.YtepdcpbgdfjobaaShelf
import Derived.Test.YtepdcpbgdfjobaaWp
import Derived.Test.YtepdcpbgdfjobaaChg
import Derived.Test.YtepdcpbgdfjobaaWv
import Derived.Test.YtepdcpbgdfjobaaOpen
import Derived.Test.YtepdcpbgdfjobaaEras
import Derived.Test.YtepdcpbgdfjobaaRef4b
import Derived.Test.YtepdcpbgdfjobaaRows
namespace Go.Proofs.Ytepdcpbgdfjobaa.W8
open Go.RowKit Go.Maps
set_option linter.unusedVariables false
def ersB1 (f : Int) (l : List Int) (k : Nat) : Bool := !(decide (ixI l k < f) || decide (2352 ≤ ixI l k) || (decide (0 < k) && decide (ixI l k ≤ ixI l (k - 1))))
def ersN (f : Int) (l : List Int) : Nat → Bool
  | 0 => true
  | k + 1 => ersN f l k && ersB1 f l k
def ersB (f : Int) (l : List Int) : Bool := ersN f l l.length
theorem ersN_mono (f : Int) (l : List Int) : ∀ (m k : Nat), k ≤ m → ersN f l m = true → ersN f l k = true
  | 0, k, h, hp => by obtain rfl : k = 0 := by omega
                      exact hp
  | m + 1, k, h, hp => by
    by_cases e : k = m + 1
    · rw [e]; exact hp
    · unfold ersN at hp
      rw [Bool.and_eq_true] at hp
      exact ersN_mono f l m k (by omega) hp.1
theorem ersN_at {f : Int} {l : List Int} {m k : Nat} (h : k < m) (hp : ersN f l m = true) : f ≤ ixI l k ∧ ixI l k < 2352 ∧ (0 < k → ixI l (k - 1) < ixI l k) := by
  have := ersN_mono f l m (k + 1) (by omega) hp
  unfold ersN ersB1 at this
  simp only [Bool.and_eq_true, Bool.not_eq_true', Bool.or_eq_false_iff, decide_eq_false_iff_not, Bool.and_eq_false_iff] at this
  omega
theorem ersN_lt {f : Int} {l : List Int} {m : Nat} (hp : ersN f l m = true) : ∀ (k j : Nat), j < k → k < m → ixI l j < ixI l k
  | 0, j, hj, _ => by omega
  | k + 1, j, hj, hk => by
    have h1 := (ersN_at hk hp).2.2 (by omega)
    rw [Nat.add_sub_cancel] at h1
    by_cases e : j = k
    · subst e; exact h1
    · have := ersN_lt hp k j (by omega) (by omega); omega
theorem take_snocI (l : List Int) (k : Nat) (h : k < l.length) : l.take (k + 1) = l.take k ++ [ixI l k] := by
  rw [List.take_succ_eq_append_getElem h, ixI_get h]
theorem ers_new {f : Int} {l : List Int} {k : Nat} (hk : k < l.length) (hp : ersN f l (k + 1) = true) : ixI l k ∉ l.take k := by
  intro h
  obtain ⟨j, hj, e⟩ := List.getElem_of_mem h
  have hj2 : j < k := by rw [List.length_take] at hj; omega
  have := ersN_lt hp k j hj2 (by omega)
  rw [List.getElem_take, ← ixI_get (by omega)] at e
  omega
theorem ersN_false {f : Int} {l : List Int} {k : Nat} (h : ersB1 f l k = false) : ∀ n, k < n → ersN f l n = false
  | 0, hk => by omega
  | n + 1, hk => by
    unfold ersN
    by_cases e : k = n
    · subst e; rw [h, Bool.and_false]
    · rw [ersN_false h n (by omega), Bool.false_and]
def SetP (f : Int) (l : List Int) (w : World) (e : Ending) (w' : World) : Prop :=
  (ersB f l = false ∧ e = .returned (.tuple #[.map none, .bool false]) ∧ Below w.heap.size w w') ∨
  (ersB f l = true ∧ e = .returned (.tuple #[.map (some w.heap.size), .bool true]) ∧ MS w' w.heap.size l.length l ∧ Below w.heap.size w w')
set_option maxRecDepth 100000 in
set_option maxHeartbeats 4000000 in
theorem set_any (f : Int) (ev : Value) (l : List Int) (w : World) (hv : RdI w ev l) (hl : l.length ≤ 100000) :
    Calls Try.prog 44 #[.int .i64 f, ev] w (SetP f l w) := by
  obtain ⟨hw0, ⟨wa, wc, wb, wo, rfl, hwc, hwcell⟩, hwr⟩ := hv
  have HW := Lib.hid hwcell
  have HWR := Lib.hid hwr
  clear hwcell hwr
  have hmm := @run_makeMap Try.prog
  go_enter Try.func44, Try.ntmps44
  go_wp2_with fail
  have hb0 := (Below.refl w.heap.size w).alloc (Nat.le_refl _) (.map #[] 0)
  have hm0 := MS.made w
  clear hmm
  go_loopw [12] (fun vk wr => ∃ k : Nat, k ≤ l.length ∧ vk = .int .i64 k ∧ Hid (ersN f l k = true) ∧ MS wr w.heap.size k (l.take k) ∧ Below w.heap.size w wr) (fun vk _ => l.length - (intOf vk).toNat)
  case atStart => exact ⟨0, by omega, rfl, Lib.hid rfl, hm0, hb0⟩
  case round =>
    clear hm0 hb0
    obtain ⟨k, hk, rfl, HE, hm, hb⟩ := hrel
    by_cases hlt : k < l.length
    · obtain ⟨ha, hcw⟩ := HW.out k hlt
      obtain ⟨hx1, hx2⟩ := HWR.out k hlt
      have hcw' : wr.cell? ⟨wb, wo + k, none⟩ = some (.int .i64 (ixI l k)) := (hb.cell (p := ⟨wb, wo + k, none⟩) (World.block_lt_of_cell? w _ hcw)).trans hcw
      have hix := run_idx (P := Try.prog) Try.underlying24 Try.sizeInt (cap := wc) ha hlt _ rfl wr
      have hbad : ersB1 f l k = false → Hid (ersB f l = false) := fun h => Lib.hid (ersN_false h _ hlt)
      have hgood : ersB1 f l k = true → Hid (ersN f l (k + 1) = true ∧ ixI l k ∉ l.take k) := fun h => by
        have h2 : ersN f l (k + 1) = true := by unfold ersN; rw [HE.out, h]; rfl
        exact Lib.hid ⟨h2, ers_new hlt h2⟩
      have HT := Lib.hid (take_snocI l k hlt)
      have hB1 : ersB1 f l k = !(decide (ixI l k < f) || decide (2352 ≤ ixI l k) || (decide (0 < k) && decide (ixI l k ≤ ixI l (k - 1)))) := rfl
      by_cases c1 : ixI l k < f
      · have HX := hbad (by rw [hB1]; simp [c1])
        have hd1 : decide (ixI l k < f) = true := by simpa using c1
        generalize ixI l k = x at *
        clear hbad hgood hB1 ha hcw hm HT
        go_wp2_with fail
        go_ret2
        exact .inl ⟨HX.out, rfl, hb⟩
      · have hd1 : decide (ixI l k < f) = false := by simpa using c1
        by_cases c2 : 2352 ≤ ixI l k
        · have HX := hbad (by rw [hB1]; simp [c2])
          have hd2 : decide (2352 ≤ ixI l k) = true := by simpa using c2
          generalize ixI l k = x at *
          clear hbad hgood hB1 ha hcw hm HT c1
          go_wp2_with fail
          go_ret2
          exact .inl ⟨HX.out, rfl, hb⟩
        · have hd2 : decide (2352 ≤ ixI l k) = false := by simpa using c2
          by_cases c3 : k = 0
          · have HG := hgood (by rw [hB1, hd1, hd2, c3]; rfl)
            have hd3 : decide (0 < (k : Int)) = false := by simp; omega
            have hd4 : decide (0 < k) = false := by simp; omega
            have H3 := Lib.hid c3
            generalize hxe : ixI l k = x at *
            have HXE := Lib.hid hxe
            clear hbad hgood hB1 ha hcw c1 c2 c3 hxe
            go_wp2_with (refine wpList_ms_set rfl _ _ _ rfl hm rfl rfl rfl hx1 hx2 (by omega) HG.out.2 ?_; intro w2 hm2 hg2)
            have hb2 := hb.grown hg2 hb.size (fun j e => by cases e; exact Nat.le_refl _)
            have hm3 : MS w2 w.heap.size (k + 1) (l.take (k + 1)) := by rw [HT.out]; exact hm2
            clear hm hb hg2 hm2
            go_roundw
            case rel => exact ⟨k + 1, by omega, by go_num, Lib.hid HG.out.1, hm3, hb2⟩
            case measure => simp [intOf]; omega
          · have hd3 : decide (0 < (k : Int)) = true := by simp; omega
            have hd4 : decide (0 < k) = true := by simp; omega
            obtain ⟨ha3, hcw3⟩ := HW.out (k - 1) (by omega)
            have hcw4 : wr.cell? ⟨wb, wo + (k - 1), none⟩ = some (.int .i64 (ixI l (k - 1))) := (hb.cell (p := ⟨wb, wo + (k - 1), none⟩) (World.block_lt_of_cell? w _ hcw3)).trans hcw3
            have hix3 := run_idx (P := Try.prog) Try.underlying24 Try.sizeInt (cap := wc) ha3 (show k - 1 < l.length by omega) ((k : Int) - 1) (by omega) wr
            by_cases c4 : ixI l k ≤ ixI l (k - 1)
            · have HX := hbad (by rw [hB1, hd4]; simp [c4])
              have hd5 : decide (ixI l k ≤ ixI l (k - 1)) = true := by simpa using c4
              generalize ixI l (k - 1) = y at *
              generalize ixI l k = x at *
              clear hbad hgood hB1 ha hcw hm HT c1 c2 ha3 hcw3
              go_wp2_with fail
              go_ret2
              exact .inl ⟨HX.out, rfl, hb⟩
            · have hd5 : decide (ixI l k ≤ ixI l (k - 1)) = false := by simpa using c4
              have HG := hgood (by rw [hB1, hd1, hd2, hd4, hd5]; rfl)
              generalize ixI l (k - 1) = y at *
              generalize hxe : ixI l k = x at *
              have HXE := Lib.hid hxe
              clear hbad hgood hB1 ha hcw c1 c2 ha3 hcw3 hxe c4
              go_wp2_with (refine wpList_ms_set rfl _ _ _ rfl hm rfl rfl rfl hx1 hx2 (by omega) HG.out.2 ?_; intro w2 hm2 hg2)
              have hb2 := hb.grown hg2 hb.size (fun j e => by cases e; exact Nat.le_refl _)
              have hm3 : MS w2 w.heap.size (k + 1) (l.take (k + 1)) := by rw [HT.out]; exact hm2
              clear hm hb hg2 hm2
              go_roundw
              case rel => exact ⟨k + 1, by omega, by go_num, Lib.hid HG.out.1, hm3, hb2⟩
              case measure => simp [intOf]; omega
    · obtain rfl : k = l.length := by omega
      rw [List.take_length] at hm
      go_wp2_with fail
      go_ret2
      exact .inr ⟨HE.out, rfl, hm, hb⟩
end Go.Proofs.Ytepdcpbgdfjobaa.W8
namespace Go.Proofs.Ytepdcpbgdfjobaa.W8
open Go.RowKit Go.Shelf
set_option linter.unusedVariables false
attribute [local go_sem] Oper.semAt_some
def enc7V (g cap n g1 c1 : Nat) (f : Int) (v2 : Value) (S : ByteArray) (i : Nat) (v : Value) (W : World) : Prop := match i with
  | 0 => v = .slice (some ⟨g, 0, none⟩) 2352 cap
  | 1 => v = .slice (some ⟨g1, 0, none⟩) n c1
  | 2 => v = .slice (some ⟨g1, 0, none⟩) n c1
  | 3 => v = .int .i64 (n : Int)
  | 4 => v = .int .i64 ((n : Int) - 2)
  | 5 => v = v2
  | 6 => v = .int .i64 f
  | 7 => v = .string S
  | 8 => v = .string S
  | _ => True
theorem enc7V_keep (g cap n g1 c1 : Nat) (f : Int) (v2 : Value) (S : ByteArray) (i : Nat) (v : Value) (W W' : World) (hR : (fun w W => Below w.heap.size w W) W W') (h : enc7V g cap n g1 c1 f v2 S i v W) : enc7V g cap n g1 c1 f v2 S i v W' := by
  unfold enc7V at h ⊢
  split at h <;> first | exact h
set_option maxRecDepth 100000 in
set_option maxHeartbeats 4000000 in
theorem encode8_ok (raw : List UInt8) (m : Int) (w : World) (h : fstB m = true) (hl : raw.length = 2352) :
    Calls Try.prog 17 #[.string (str raw), .int .i64 m] w fun e w' => e = .returned (.tuple #[.string (str (encN raw (fstI m) 138)), .int .i64 0]) ∧ Below w.heap.size w w' := by
  have HF := Lib.hid (fun W => first_any m W)
  rw [h] at HF
  have hf16 : fstI m ≤ 16 := by unfold fstI; split <;> (try split) <;> omega
  have hs : (str raw).size = 2352 := by rw [str_size, hl]
  have HL := Lib.hid hl
  have HS := Lib.hid hs
  have hd : ((2352 : Int) != 2352) = false := by decide
  generalize fstI m = f at *
  clear h hl
  refine (callsIn_wide (n := 5)).1 ?_
  refine callsIn_of_wp_marks Try.func17 rfl trivial ?_ rfl
  simp only [Try.ntmps17, List.size_toArray, List.length_cons, List.length_nil, Nat.reduceAdd, Nat.reduceSub, Array.replicate_succ, Array.replicate_zero, List.push_toArray, List.append_toArray, List.nil_append, List.cons_append]
  gi_wp2_with (refine ⟨trivial, ?_⟩; gi_at_call 33; refine (callsIn_wide.2 (HF.out _)).mono ?_; rintro e w' ⟨rfl, rfl⟩)
  have hb1 : Below w.heap.size w (w.alloc (.cells #[.int .i64 f] 3)) := (Below.refl _ w).alloc (Nat.le_refl _) _
  have X6 := Bx.new w 3 [.int .i64 f]
  have hg1 : (w.alloc (.cells #[.int .i64 f] 3)).heap.size = w.heap.size + 1 := by simp
  obtain ⟨w2, cap, hrun, hr2, hb2, hcap⟩ := run_bytes (P := Try.prog) (w.alloc (.cells #[.int .i64 f] 3)) Try.underlying9 Try.underlying43 Try.underlying5 raw 2352 HL.out
  rw [hg1] at hrun hr2 hb2
  rw [hrun]
  simp only [Result.andThen]
  rw [Oper.uponIn_value]
  have hb2' := hb1.trans (hb2.mono (by omega))
  have X6 := X6.keepB hb2 (by omega)
  have hlt2 := hr2.lt
  clear hb1 hb2 hrun hg1
  gi_wp2_with (refine ⟨trivial, ?_⟩; gi_at_call 34; refine (words_in 4 _).mono ?_; rintro e w' ⟨rfl, rfl⟩)
  obtain ⟨b6, hb6⟩ : ∃ b, b = w.heap.size := ⟨_, rfl⟩
  obtain ⟨b8, hb8⟩ : ∃ b, b = w2.heap.size := ⟨_, rfl⟩
  obtain ⟨g, hg⟩ : ∃ b, b = w.heap.size + 1 := ⟨_, rfl⟩
  rw [← hg] at hr2 hlt2 ⊢
  rw [← hb6] at X6
  have X8 := Bx.new w2 43 [.slice (some ⟨g, 0, none⟩) 2352 cap]
  have hR := hr2.below ((Below.refl w2.heap.size w2).alloc (Nat.le_refl _) (.cells #[.slice (some ⟨g, 0, none⟩) 2352 cap] 43))
  have X6' := X6.alloc (.cells #[.slice (some ⟨g, 0, none⟩) 2352 cap] 43)
  have hB0 := hb2'.alloc hb2'.size (.cells #[.slice (some ⟨g, 0, none⟩) 2352 cap] 43)
  rw [← hb8] at X8
  obtain ⟨W0, hW0⟩ : ∃ W0, W0 = w2.alloc (.cells #[.slice (some ⟨g, 0, none⟩) 2352 cap] 43) := ⟨_, rfl⟩
  have hs0 : W0.heap.size = b8 + 1 := by rw [hW0, hb8]; simp
  have hord : b6 < g ∧ g < b8 := by omega
  rw [← hW0] at hR X6' X8 hB0
  simp only [← hb6, ← hb8, ← hW0]
  have HORD := Lib.hid hord
  have hwle : w.heap.size ≤ W0.heap.size := hB0.size
  have hbg : w.heap.size ≤ g ∧ w.heap.size ≤ b8 := by omega
  have HS0 := Lib.hid hs0
  clear X6 hr2 hb2' hlt2 hcap hord hb6 hb8 hg hW0 hs0
  have hseq := words_gives 4 (by omega) W0
  refine wpIn_range_gives1 (n := 5) rfl (by omega) (gf := 60) (lb := #[]) rfl trivial (enters_of Try.func60 (by kernel_rfl) rfl) hseq rfl
    (fun k W => (Row W 5 g cap (encN raw f k) ∧ Bx W b6 3 [.int .i64 f] ∧ Bx W b8 43 [.slice (some ⟨g, 0, none⟩) 2352 cap]) ∧ Below w.heap.size w W)
    (fun _ _ => False)
    (fun v => { tmps := #[.string (str raw), .int .i64 m, undef, undef, .string ⟨#[]⟩, .int .i64 0, .pointer (some ⟨b6, 0, none⟩), .bool true, .pointer (some ⟨b8, 0, none⟩), v, undef, undef, undef, .tuple #[.int .i64 f, .bool true], .int .i64 m, .tuple #[.int .i64 f, .bool true], .int .i64 f, .bool true, .bool true, .bool false, .bool false, .string (str raw), .int .i64 2352, .bool false, .bool false, .string (str raw), .slice (some ⟨g, 0, none⟩) 2352 cap, .func (.func 60) #[] #[], v, undef, undef, undef, undef, undef, undef, undef, undef, undef, undef, undef, undef, undef, undef, undef, undef, undef, undef, undef, undef], defers := [] })
    (fun k => ((stays_row _ _ _ _ _).and ((stays_bx _ _ _ _).and (stays_bx _ _ _ _))).and (stays_below (Nat.le_refl _) hwle))
    (fun c => Stays.const _ _)
    (fun k v => GW.stays _ _ _ _) ⟨⟨hR, X6', X8⟩, hB0⟩ ?assign ?body ?done ?stop
  case assign =>
    intro l v W K _ hK
    gi_wp2
    exact hK
  case body =>
    rintro l k v W1 hk ⟨⟨hr, x6, x8⟩, hb⟩ hg
    clear hR X6' X8 hB0 hseq
    have hwb := wd_bd hk
    have hwl := wd_length k
    have hlen : (wd k).length ≤ 45 := by rw [hwl]; split <;> omega
    have hlen2 : 26 ≤ (wd k).length := by rw [hwl]; split <;> omega
    have hel := encN_length raw f k
    rw [HL.out] at hel
    have hep := encN_put raw f k hk hf16
    obtain ⟨g1, c1, rfl, _⟩ := own_int hg (by omega)
    have hri := rdI_own (w := W1) hg rfl (by omega) (fun x hx => by have := hwb x hx; omega)
    have hs0 := HS0.out
    have hoff := offI_own (g := g) (w := W1) hg (by have := HORD.out; omega) rfl (by omega) (fun x hx => by have := hwb x hx; omega)
    obtain ⟨v2, hv2, hcut⟩ := run_cutI (P := Try.prog) Try.underlying24 Try.sizeInt hri ((wd k).length - 2) (by omega)
    have hrd := hr.rd (by omega)
    rw [hel] at hrd
    obtain ⟨n, hn⟩ : ∃ n, n = (wd k).length := ⟨_, rfl⟩
    have HT : Hid (∀ W, Below W1.heap.size W1 W → Calls Try.prog 35 #[.slice (some ⟨g, 0, none⟩) 2352 cap, v2, .int .i64 f] W fun e W' => e = .returned (.string (str (takeL (encN raw f k) ((wd k).take ((wd k).length - 2)) f))) ∧ Below W.heap.size W W') := Lib.hid fun W hW =>
      take_any _ (encN raw f k) v2 _ f W (hrd.keep hW) (hv2 W (hri.keep hW)) (by rw [List.length_take]; omega) (fun x hx => by have := hwb x (List.mem_of_mem_take hx); rw [hel]; omega)
    have HE : Hid (∀ W, Calls Try.prog 36 #[.string (str (takeL (encN raw f k) ((wd k).take ((wd k).length - 2)) f)), .int .i64 2] W fun e W' => e = .returned (.tuple #[.string (str (cwd (encN raw f k) (wd k) f)), .int .i64 0]) ∧ Below W.heap.size W W') := Lib.hid fun W =>
      encode_ok _ 2 W (fun e => by have := congrArg List.length e; rw [takeL_length, List.length_take] at this; simp at this; omega) (by omega) (by omega) (by rw [takeL_length, List.length_take]; omega)
    have HP : Hid (∀ W, Below W1.heap.size W1 W → Calls Try.prog 37 #[.slice (some ⟨g, 0, none⟩) 2352 cap, .slice (some ⟨g1, 0, none⟩) (wd k).length c1, .int .i64 f, .string (str (cwd (encN raw f k) (wd k) f))] W (PutP 5 g cap (encN raw f k) (wd k) f (cwd (encN raw f k) (wd k) f) W)) := Lib.hid fun W hW =>
      put_any g 2352 cap (encN raw f k) _ (wd k) f _ W hel.symm (hr.below hW) (fun W' hW' => hoff W' fun j hj hjg => (hW' j (Nat.lt_of_lt_of_le hj hW.size) hjg).trans (hW.block j hj)) (by omega) (fun x hx => by have := hwb x hx; rw [hel]; omega) (by rw [cwd_length _ _ _ (by omega)]; exact Nat.le_refl _)
    have HPut : Hid (∀ e W W', PutP 5 g cap (encN raw f k) (wd k) f (cwd (encN raw f k) (wd k) f) W e W' → (∃ b, e = .returned (.bool b)) ∧ Row W' 5 g cap (encN raw f (k + 1)) ∧ W.grownBy W' (some g)) := Lib.hid fun e W W' ⟨h1, h2, h3⟩ => ⟨⟨_, h1⟩, by rw [← hep]; exact h2, h3⟩
    have HX := Lib.hid (And.intro hr (And.intro x6 x8))
    have HB := Lib.hid hb
    rw [← hn] at HT HE HP hcut
    have hcut' : ∀ w', (Instr.slice 24 (.slice (some ⟨g1, 0, none⟩) n c1) none (some (.int .i64 ((n : Int) - 2))) none).run Try.prog w' = .ok v2 w' := fun w' => hcut _ w' (by omega)
    have HCut := Lib.hid hcut'
    have hn26 : (26 : Int) ≤ n ∧ (n : Int) ≤ 45 := by omega
    generalize str (takeL (encN raw f k) ((wd k).take (n - 2)) f) = S at HT HE
    generalize str (cwd (encN raw f k) (wd k) f) = S2 at HE HP
    have HN := Lib.hid hn
    rw [← hn]
    clear hn hs0 hcut hcut' hri hoff hrd hv2 hg hr x6 x8 hb hel hep hwb hwl hlen hlen2
    gi_wp2
    refine wpIn_region_inr (by rintro ⟨_, _, h⟩; exact h) (by kernel_rfl) (by kernel_rfl) (fun w W => Below w.heap.size w W) (fun W => Below W1.heap.size W1 W) (enc7V g cap n g1 c1 f v2 S) (fun _ => false) (by kernel_rfl) (fun W W' hb h => h.trans (hb.mono h.size)) (enc7V_keep g cap n g1 c1 f v2 S) ((Below.refl _ _).drew) ⟨?_, ?_, ?_, ?_, ?_, ?_, ?_, ?_, ?_, trivial⟩ ?_
    · intro a W hc hsz hold hdep
      have o8 : a.tmps.getD 8 undef = .pointer (some ⟨b8, 0, none⟩) := hold 8 (by kernel_rfl)
      have q := (HX.out.2.2.call hc).cell (i := 0) rfl
      clear hsz hold hdep
      refine stepR_do rfl (wanted_none rfl) ?_
      refine stepR_val (v := .slice (some ⟨g, 0, none⟩) 2352 cap) (Below.refl _ _) rfl fun K hK => ?_
      go_simp
      exact hK
    · intro a W hc hsz hold hdep
      have o9 : a.tmps.getD 9 undef = .slice (some ⟨g1, 0, none⟩) n c1 := hold 9 (by kernel_rfl)
      clear hsz hold hdep
      refine stepR_do rfl (wanted_none rfl) ?_
      refine stepR_val (v := .slice (some ⟨g1, 0, none⟩) n c1) (Below.refl _ _) rfl fun K hK => ?_
      go_simp
      exact hK
    · intro a W hc hsz hold hdep
      have o9 : a.tmps.getD 9 undef = .slice (some ⟨g1, 0, none⟩) n c1 := hold 9 (by kernel_rfl)
      clear hsz hold hdep
      refine stepR_do rfl (wanted_none rfl) ?_
      refine stepR_val (v := .slice (some ⟨g1, 0, none⟩) n c1) (Below.refl _ _) rfl fun K hK => ?_
      go_simp
      exact hK
    · intro a W hc hsz hold hdep
      have d2 : a.tmps.getD 31 undef = .slice (some ⟨g1, 0, none⟩) n c1 := hdep 2 (by kernel_rfl) rfl _ rfl
      have e2 : a.tmps[31]?.getD undef = .slice (some ⟨g1, 0, none⟩) n c1 := by rw [← Array.getD_eq_getD_getElem?]; exact d2
      clear hsz hold hdep
      refine stepR_do rfl (wanted_none rfl) ?_
      refine stepR_val (v := .int .i64 (n : Int)) (Below.refl _ _) rfl fun K hK => ?_
      go_simp
      exact hK
    · intro a W hc hsz hold hdep
      have d3 : a.tmps.getD 32 undef = .int .i64 (n : Int) := hdep 3 (by kernel_rfl) rfl _ rfl
      have hn2 := hn26
      have hw2 : IntKind.i64.wrap ((n : Int) - 2) = (n : Int) - 2 := IntWalk.i64_in _ (by omega)
      clear hsz hold hdep
      refine stepR_do rfl (wanted_none rfl) ?_
      refine stepR_val (v := .int .i64 ((n : Int) - 2)) (Below.refl _ _) rfl fun K hK => ?_
      go_simp
      exact hK
    · intro a W hc hsz hold hdep
      have d1 : a.tmps.getD 30 undef = .slice (some ⟨g1, 0, none⟩) n c1 := hdep 1 (by kernel_rfl) rfl _ rfl
      have d4 : a.tmps.getD 33 undef = .int .i64 ((n : Int) - 2) := hdep 4 (by kernel_rfl) rfl _ rfl
      have hcut := HCut.out
      clear hsz hold hdep
      refine stepR_do rfl (wanted_none rfl) ?_
      refine stepR_val (v := v2) (Below.refl _ _) rfl fun K hK => ?_
      go_simp
      exact hK
    · intro a W hc hsz hold hdep
      have o6 : a.tmps.getD 6 undef = .pointer (some ⟨b6, 0, none⟩) := hold 6 (by kernel_rfl)
      have q := (HX.out.2.1.call hc).cell (i := 0) rfl
      clear hsz hold hdep
      refine stepR_do rfl (wanted_none rfl) ?_
      refine stepR_val (v := .int .i64 f) (Below.refl _ _) rfl fun K hK => ?_
      go_simp
      exact hK
    · intro a W hc hsz hold hdep
      have d0 : a.tmps.getD 29 undef = .slice (some ⟨g, 0, none⟩) 2352 cap := hdep 0 (by kernel_rfl) rfl _ rfl
      have e0 : a.tmps[29]?.getD undef = .slice (some ⟨g, 0, none⟩) 2352 cap := by rw [← Array.getD_eq_getD_getElem?]; exact d0
      have d5 : a.tmps.getD 34 undef = v2 := hdep 5 (by kernel_rfl) rfl _ rfl
      have e5 : a.tmps[34]?.getD undef = v2 := by rw [← Array.getD_eq_getD_getElem?]; exact d5
      have d6 : a.tmps.getD 35 undef = .int .i64 f := hdep 6 (by kernel_rfl) rfl _ rfl
      have e6 : a.tmps[35]?.getD undef = .int .i64 f := by rw [← Array.getD_eq_getD_getElem?]; exact d6
      clear hsz hold hdep
      refine stepR_do rfl (wanted_none rfl) ?_
      refine stepR_call (v := .string S) (fun W' hb => hb) (fun _ => rfl) fun K hK => ?_
      go_simp
      refine (HT.out W hc).mono ?_
      rintro e w' ⟨rfl, hb'⟩
      exact hK _ hb'
    · intro a W hc hsz hold hdep
      have d7 : a.tmps.getD 36 undef = .string S := hdep 7 (by kernel_rfl) rfl _ rfl
      clear hsz hold hdep
      refine stepR_do rfl (wanted_none rfl) ?_
      refine stepR_val (v := .string S) (Below.refl _ _) rfl fun K hK => ?_
      go_simp
      exact hK
    · intro a W hC hd hsz hold hval
      have d10 : a.tmps.getD 10 undef = .string S := hval 8 _ rfl rfl
      have d9 : a.tmps.getD 9 undef = .slice (some ⟨g1, 0, none⟩) n c1 := hold 9 (by kernel_rfl)
      have d8 : a.tmps.getD 8 undef = .pointer (some ⟨b8, 0, none⟩) := hold 8 (by kernel_rfl)
      have d6 : a.tmps.getD 6 undef = .pointer (some ⟨b6, 0, none⟩) := hold 6 (by kernel_rfl)
      clear hold
      obtain ⟨tm, df⟩ := a
      replace hd : df = [] := hd
      replace hsz : tm.size = 49 := hsz
      replace d10 : tm.getD 10 undef = .string S := d10
      replace d9 : tm.getD 9 undef = .slice (some ⟨g1, 0, none⟩) n c1 := d9
      replace d8 : tm.getD 8 undef = .pointer (some ⟨b8, 0, none⟩) := d8
      replace d6 : tm.getD 6 undef = .pointer (some ⟨b6, 0, none⟩) := d6
      subst hd
      have e : tm = List.toArray (tm.getD 0 undef :: tm.getD 1 undef :: tm.getD 2 undef :: tm.getD 3 undef :: tm.getD 4 undef :: tm.getD 5 undef :: tm.getD 6 undef :: tm.getD 7 undef :: tm.getD 8 undef :: tm.getD 9 undef :: tm.getD 10 undef :: tm.getD 11 undef :: tm.getD 12 undef :: tm.getD 13 undef :: tm.getD 14 undef :: tm.getD 15 undef :: tm.getD 16 undef :: tm.getD 17 undef :: tm.getD 18 undef :: tm.getD 19 undef :: tm.getD 20 undef :: tm.getD 21 undef :: tm.getD 22 undef :: tm.getD 23 undef :: tm.getD 24 undef :: tm.getD 25 undef :: tm.getD 26 undef :: tm.getD 27 undef :: tm.getD 28 undef :: tm.getD 29 undef :: tm.getD 30 undef :: tm.getD 31 undef :: tm.getD 32 undef :: tm.getD 33 undef :: tm.getD 34 undef :: tm.getD 35 undef :: tm.getD 36 undef :: tm.getD 37 undef :: tm.getD 38 undef :: tm.getD 39 undef :: tm.getD 40 undef :: tm.getD 41 undef :: tm.getD 42 undef :: tm.getD 43 undef :: tm.getD 44 undef :: tm.getD 45 undef :: tm.getD 46 undef :: tm.getD 47 undef :: tm.getD 48 undef :: []) := arr_eq tm 49 hsz
      rw [d10, d9, d8, d6] at e
      clear d10 d9 d8 d6 hsz
      generalize tm.getD 0 undef = v0 at e
      generalize tm.getD 1 undef = v1 at e
      generalize tm.getD 2 undef = v2 at e
      generalize tm.getD 3 undef = v3 at e
      generalize tm.getD 4 undef = v4 at e
      generalize tm.getD 5 undef = v5 at e
      generalize tm.getD 7 undef = v7 at e
      generalize tm.getD 11 undef = v11 at e
      generalize tm.getD 12 undef = v12 at e
      generalize tm.getD 13 undef = v13 at e
      generalize tm.getD 14 undef = v14 at e
      generalize tm.getD 15 undef = v15 at e
      generalize tm.getD 16 undef = v16 at e
      generalize tm.getD 17 undef = v17 at e
      generalize tm.getD 18 undef = v18 at e
      generalize tm.getD 19 undef = v19 at e
      generalize tm.getD 20 undef = v20 at e
      generalize tm.getD 21 undef = v21 at e
      generalize tm.getD 22 undef = v22 at e
      generalize tm.getD 23 undef = v23 at e
      generalize tm.getD 24 undef = v24 at e
      generalize tm.getD 25 undef = v25 at e
      generalize tm.getD 26 undef = v26 at e
      generalize tm.getD 27 undef = v27 at e
      generalize tm.getD 28 undef = v28 at e
      generalize tm.getD 29 undef = v29 at e
      generalize tm.getD 30 undef = v30 at e
      generalize tm.getD 31 undef = v31 at e
      generalize tm.getD 32 undef = v32 at e
      generalize tm.getD 33 undef = v33 at e
      generalize tm.getD 34 undef = v34 at e
      generalize tm.getD 35 undef = v35 at e
      generalize tm.getD 36 undef = v36 at e
      generalize tm.getD 37 undef = v37 at e
      generalize tm.getD 38 undef = v38 at e
      generalize tm.getD 39 undef = v39 at e
      generalize tm.getD 40 undef = v40 at e
      generalize tm.getD 41 undef = v41 at e
      generalize tm.getD 42 undef = v42 at e
      generalize tm.getD 43 undef = v43 at e
      generalize tm.getD 44 undef = v44 at e
      generalize tm.getD 45 undef = v45 at e
      generalize tm.getD 46 undef = v46 at e
      generalize tm.getD 47 undef = v47 at e
      generalize tm.getD 48 undef = v48 at e
      subst e
      gi_wp2_with (first | (refine ⟨trivial, ?_⟩; gi_at_call 36; refine (CallsIn.inRound l (callsIn_wide.2 (HE.out _))).mono ?_; rintro e W2 ⟨rfl, hb2⟩; have hc2 := hC.trans (hb2.mono hC.size); have q6 := (HX.out.2.1.call hc2).cell (i := 0) rfl; have q8 := (HX.out.2.2.call hc2).cell (i := 0) rfl) | (refine ⟨trivial, ?_⟩; gi_at_call 37; refine (CallsIn.inRound l (callsIn_wide.2 (HP.out _ hc2))).mono ?_; rintro e W3 hp; obtain ⟨⟨bb, rfl⟩, hr3, hg3⟩ := HPut.out _ _ _ hp; clear hp))
      have hB2 := HB.out.trans (hc2.mono HB.out.size)
      refine ⟨(kf_below hc2).trans (KeepsFrom.of_grownBy hg3 (fun j e => by cases e; have := HORD.out; have := HS0.out; omega)), ⟨hr3, ?_, ?_⟩, hB2.grown hg3 hB2.size (fun j e => by cases e; exact hbg.1)⟩
      · exact (hg3.block _ (HX.out.2.1.call hc2).lt (fun e => by have := HORD.out; cases e; omega)).trans (HX.out.2.1.call hc2)
      · exact (hg3.block _ (HX.out.2.2.call hc2).lt (fun e => by have := HORD.out; cases e; omega)).trans (HX.out.2.2.call hc2)
  case done =>
    rintro D W hD ⟨⟨hr, _, x8⟩, hb⟩ hK
    clear hR X6' X8 hB0 hseq
    have hel := encN_length raw f 138
    rw [HL.out] at hel
    have q8 := x8.cell (i := 0) rfl
    have hrd := hr.rd (by omega)
    rw [hel] at hrd
    have hcx := run_str (P := Try.prog) Try.underlying43 Try.underlying5 Try.underlying9 hrd
    clear hrd hel hr x8
    gi_wp2
    refine ⟨by simp, .inl ⟨_, _, rfl, run_takeDeferred hK, ?_⟩⟩
    exact ⟨_, results_tmp2 rfl _ _ _, rfl, hb.trans (belowK_b (w := w) (Nat.le_refl _) _ D _ _ (by omega) hK rfl rfl)⟩
  case stop =>
    rintro D c W _ h _
    exact h.elim
end Go.Proofs.Ytepdcpbgdfjobaa.W8
namespace Go.Proofs.Ytepdcpbgdfjobaa.W8
open Go.RowKit Go.Shelf
set_option linter.unusedVariables false
theorem Try.sizeLI : (Try.prog.info? 24).map (·.size) = some 1 := by kernel_rfl
def rvl7V (raw : List UInt8) (m f : Int) (gw cw k g1 n c1 : Nat) (S : ByteArray) (b : Bool) (i : Nat) (v : Value) (W : World) : Prop := match i with
  | 0 => v = .string (str raw)
  | 1 => ∃ g c, v = .slice (some ⟨g, 0, none⟩) 2352 c ∧ Rd W (.slice (some ⟨g, 0, none⟩) 2352 c) raw
  | 2 => v = .slice (some ⟨gw, 0, none⟩) 138 cw
  | 3 => v = .int .i64 (k : Int)
  | 4 => v = .pointer (some ⟨gw, k, none⟩)
  | 5 => v = .slice (some ⟨g1, 0, none⟩) n c1
  | 6 => v = .int .i64 m
  | 7 => v = .int .i64 f
  | 8 => v = .string S
  | 9 => v = .bool b
  | 10 => v = .bool (!b)
  | _ => True
theorem rvl7V_keep (raw : List UInt8) (m f : Int) (gw cw k g1 n c1 : Nat) (S : ByteArray) (b : Bool) (i : Nat) (v : Value) (W W' : World) (hR : (fun w W => Below w.heap.size w W) W W') (h : rvl7V raw m f gw cw k g1 n c1 S b i v W) : rvl7V raw m f gw cw k g1 n c1 S b i v W' := by
  by_cases h1 : i = 1
  · subst h1
    obtain ⟨g, c, h1, h2⟩ := h
    exact ⟨g, c, h1, h2.keep hR⟩
  unfold rvl7V at h ⊢
  split at h <;> first | exact h | exact absurd rfl h1
set_option maxRecDepth 100000 in
set_option maxHeartbeats 8000000 in
theorem rvalid8_any (raw : List UInt8) (m : Int) (w : World) (hl : raw.length ≤ 9223372036854775807) :
    Calls Try.prog 20 #[.string (str raw), .int .i64 m] w fun e w' => e = .returned (.bool (vldB raw m)) ∧ Below w.heap.size w w' := by
  have HF := Lib.hid (fun W => rfits_any raw m W hl)
  cases hf : fitB raw m with
  | false =>
    have e1 : vldB raw m = false := by
      unfold fitB at hf
      unfold vldB
      cases h1 : fstB m <;> simp_all
    rw [e1]
    rw [hf] at HF
    clear e1 hf hl
    go_enter Try.func20, Try.ntmps20
    go_wp2_with (refine (HF.out _).mono ?_; rintro e w' ⟨rfl, rfl⟩)
    go_ret
    exact ⟨rfl, Below.refl _ _⟩
  | true =>
    have h2 : raw.length = 2352 ∧ fstB m = true := by simpa [fitB] using hf
    have e1 : vldB raw m = soundB raw (rfst m) := by rw [rfst_eq h2.2]; simp [vldB, h2.1, h2.2]
    rw [e1]
    rw [hf] at HF
    have HL := Lib.hid h2.1
    have HFi : Hid (∀ W, Calls Try.prog 22 #[.int .i64 m] W fun e W' => e = .returned (.int .i64 (rfst m)) ∧ Below W.heap.size W W') := Lib.hid fun W => (rfirst_any m W).mono fun e w' ⟨a, b⟩ => ⟨a, b ▸ Below.refl _ _⟩
    generalize rfst m = f at *
    clear e1 hf h2 hl
    go_enter Try.func20, Try.ntmps20
    go_wp2_with (refine (HF.out _).mono ?_; rintro e w' ⟨rfl, rfl⟩)
    refine (rwords_any _).mono ?_
    rintro e w1 ⟨v, vs, rfl, ho1, hl1, hb1⟩
    obtain ⟨gw, cw, rfl, _, _⟩ := ownD_addr ho1 (by omega)
    go_wp2_with fail
    go_loopw [6] (fun vk wr => ∃ k : Nat, k ≤ 138 ∧ vk = .int .i64 k ∧ soundN raw f k = true ∧ wr.ownsRow w.heap.size 24 1 (.slice (some ⟨gw, 0, none⟩) 138 cw) 138 vs ∧ Lst w.heap.size wr vs 138 ∧ Below w.heap.size w wr) (fun vk _ => 138 - (intOf vk).toNat)
    case atStart => exact ⟨0, by omega, rfl, rfl, ho1, hl1, hb1⟩
    case round =>
      clear ho1 hl1 hb1
      obtain ⟨k, hk, rfl, hsn, ho, hl, hb⟩ := hrel
      by_cases hlt : k < 138
      · have hlt' : (k : Int) < 138 := by omega
        have hwb := wd_bd (show k < 138 from hlt)
        have hwl := wd_length k
        have hlen : (wd k).length ≤ 45 := by rw [hwl]; split <;> omega
        have hlen2 : 26 ≤ (wd k).length := by rw [hwl]; split <;> omega
        obtain ⟨vk, hvk⟩ : ∃ vk, vs[k]? = some vk := ⟨vs[k]'(by rw [hl.1]; exact hlt), List.getElem?_eq_getElem (by rw [hl.1]; exact hlt)⟩
        have hown := hl.2 k vk hvk
        obtain ⟨g1, c1, rfl, hce⟩ := own_int hown (by omega)
        have hcw : wr.cell? ⟨gw, k, none⟩ = some (.slice (some ⟨g1, 0, none⟩) (wd k).length c1) := by rw [ho.cellAt k (by have := ho.1; omega)]; exact hvk
        have hri := rdI_own (w := wr) hown rfl (by omega) (fun x hx => by have := hwb x hx; omega)
        have hix : ∀ w', (Instr.indexAt 63 (.slice (some ⟨gw, 0, none⟩) 138 cw) (.int .i64 (k : Int))).run Try.prog w' = .ok (.pointer (some ⟨gw, k, none⟩)) w' := fun w' => by
          have := run_idx (P := Try.prog) (t := 63) (e := 24) (cap := cw) (off := 0) (b := gw) Try.underlying63 Try.sizeLI rfl hlt _ rfl w'
          rwa [Nat.zero_add] at this
        have HIX := Lib.hid hix
        have HSy : Hid (∀ W, Below wr.heap.size wr W → ∀ rv, Rd W rv raw → Calls Try.prog 41 #[rv, .slice (some ⟨g1, 0, none⟩) (wd k).length c1, .int .i64 f] W fun e W' => e = .returned (.string (str (takeL raw (wd k) f))) ∧ Below W.heap.size W W') := Lib.hid fun W hW rv hrv =>
          rsymbols_any rv raw _ (wd k) f W hrv (hri.keep hW) (by omega) (fun x hx => by have := hwb x hx; have := HL.out; omega)
        have HV := Lib.hid (fun W => rvalid_any (takeL raw (wd k) f) 2 W (by rw [takeL_length]; omega))
        have hS : soundN raw f (k + 1) = (soundN raw f k && G.validB (takeL raw (wd k) f) 2) := rfl
        rw [hsn, Bool.true_and] at hS
        have hF : G.validB (takeL raw (wd k) f) 2 = false → soundB raw f = false := fun h => soundN_false h 138 hlt
        generalize G.validB (takeL raw (wd k) f) 2 = b at *
        generalize (wd k).length = n at *
        generalize str (takeL raw (wd k) f) = S at *
        have HS := Lib.hid hS
        have HFF := Lib.hid hF
        have HC := Lib.hid hcw
        have HLT : Hid ((⟨gw, k, none⟩ : Addr).block < wr.heap.size) := Lib.hid (World.block_lt_of_cell? wr _ hcw)
        have HO := Lib.hid ho; have HLs := Lib.hid hl; have HB := Lib.hid hb
        clear hS hF hsn hwb hwl hown hce hri hix ho hl hb hvk hcw
        go_wp2_with fail
        refine wp_region_inr (by kernel_rfl) (fun w W => Below w.heap.size w W) (fun W => Below wr.heap.size wr W) (rvl7V raw m f gw cw k g1 n c1 S b) (fun _ => false) (by kernel_rfl) (fun W W' hb h => h.trans (hb.mono h.size)) (rvl7V_keep raw m f gw cw k g1 n c1 S b) ((Below.refl _ _).drew) ⟨?_, ?_, ?_, ?_, ?_, ?_, ?_, ?_, ?_, ?_, ?_, trivial⟩ ?_
        · intro a W hc hsz hold hdep
          have o0 : a.tmps.getD 0 undef = .string (str raw) := hold 0 (by kernel_rfl)
          clear hsz hold hdep
          refine stepR_do rfl (wanted_none rfl) ?_
          refine stepR_val (v := .string (str raw)) (Below.refl _ _) rfl fun K hK => ?_
          go_simp
          exact hK
        · intro a W hc hsz hold hdep
          have d0 : a.tmps.getD 18 undef = .string (str raw) := hdep 0 (by kernel_rfl) rfl _ rfl
          clear hsz hold hdep
          refine stepR_do rfl (wanted_none rfl) ?_
          obtain ⟨w9, c9, hrun, hr9, hb9, hc9⟩ := run_bytes (P := Try.prog) W Try.underlying9 Try.underlying43 Try.underlying5 raw 2352 HL.out
          have hrd9 := hr9.rd (by have := HL.out; omega)
          rw [HL.out] at hrd9
          clear hr9 hc9
          refine stepR_new (v := .slice (some ⟨W.heap.size, 0, none⟩) 2352 c9) hb9 ⟨_, _, rfl, hrd9⟩ fun K hK => ?_
          go_simp
          exact hK
        · intro a W hc hsz hold hdep
          have o5 : a.tmps.getD 5 undef = .slice (some ⟨gw, 0, none⟩) 138 cw := hold 5 (by kernel_rfl)
          clear hsz hold hdep
          refine stepR_do rfl (wanted_none rfl) ?_
          refine stepR_val (v := .slice (some ⟨gw, 0, none⟩) 138 cw) (Below.refl _ _) rfl fun K hK => ?_
          go_simp
          exact hK
        · intro a W hc hsz hold hdep
          have o6 : a.tmps.getD 6 undef = .int .i64 (k : Int) := hold 6 (by kernel_rfl)
          clear hsz hold hdep
          refine stepR_do rfl (wanted_none rfl) ?_
          refine stepR_val (v := .int .i64 (k : Int)) (Below.refl _ _) rfl fun K hK => ?_
          go_simp
          exact hK
        · intro a W hc hsz hold hdep
          have d2 : a.tmps.getD 20 undef = .slice (some ⟨gw, 0, none⟩) 138 cw := hdep 2 (by kernel_rfl) rfl _ rfl
          have d3 : a.tmps.getD 21 undef = .int .i64 (k : Int) := hdep 3 (by kernel_rfl) rfl _ rfl
          have hix := HIX.out
          clear hsz hold hdep
          refine stepR_do rfl (wanted_none rfl) ?_
          refine stepR_val (v := .pointer (some ⟨gw, k, none⟩)) (Below.refl _ _) rfl fun K hK => ?_
          go_simp
          exact hK
        · intro a W hc hsz hold hdep
          have d4 : a.tmps.getD 22 undef = .pointer (some ⟨gw, k, none⟩) := hdep 4 (by kernel_rfl) rfl _ rfl
          have q := (hc.cell (p := ⟨gw, k, none⟩) HLT.out).trans HC.out
          clear hsz hold hdep
          refine stepR_do rfl (wanted_none rfl) ?_
          refine stepR_val (v := .slice (some ⟨g1, 0, none⟩) n c1) (Below.refl _ _) rfl fun K hK => ?_
          go_simp
          exact hK
        · intro a W hc hsz hold hdep
          have o1 : a.tmps.getD 1 undef = .int .i64 m := hold 1 (by kernel_rfl)
          clear hsz hold hdep
          refine stepR_do rfl (wanted_none rfl) ?_
          refine stepR_val (v := .int .i64 m) (Below.refl _ _) rfl fun K hK => ?_
          go_simp
          exact hK
        · intro a W hc hsz hold hdep
          have d6 : a.tmps.getD 24 undef = .int .i64 m := hdep 6 (by kernel_rfl) rfl _ rfl
          have e6 : a.tmps[24]?.getD undef = .int .i64 m := by rw [← Array.getD_eq_getD_getElem?]; exact d6
          clear hsz hold hdep
          refine stepR_do rfl (wanted_none rfl) ?_
          refine stepR_call (v := .int .i64 f) (fun W' hb => hb) (fun _ => rfl) fun K hK => ?_
          go_simp
          refine (HFi.out W).mono ?_
          rintro e w' ⟨rfl, hb'⟩
          exact hK _ hb'
        · intro a W hc hsz hold hdep
          have x1 := hdep 1 (by kernel_rfl) rfl _ rfl
          have d5 : a.tmps.getD 23 undef = .slice (some ⟨g1, 0, none⟩) n c1 := hdep 5 (by kernel_rfl) rfl _ rfl
          have e5 : a.tmps[23]?.getD undef = .slice (some ⟨g1, 0, none⟩) n c1 := by rw [← Array.getD_eq_getD_getElem?]; exact d5
          have d7 : a.tmps.getD 25 undef = .int .i64 f := hdep 7 (by kernel_rfl) rfl _ rfl
          have e7 : a.tmps[25]?.getD undef = .int .i64 f := by rw [← Array.getD_eq_getD_getElem?]; exact d7
          clear hsz hold hdep
          refine stepR_do rfl (wanted_none rfl) ?_
          obtain ⟨g9, c9, d1, hrd⟩ : ∃ g c, a.tmps.getD 19 undef = .slice (some ⟨g, 0, none⟩) 2352 c ∧ Rd W (.slice (some ⟨g, 0, none⟩) 2352 c) raw := x1
          have e1 : a.tmps[19]?.getD undef = .slice (some ⟨g9, 0, none⟩) 2352 c9 := by rw [← Array.getD_eq_getD_getElem?]; exact d1
          refine stepR_call (v := .string S) (fun W' hb => hb) (fun _ => rfl) fun K hK => ?_
          go_simp
          refine (HSy.out W hc _ hrd).mono ?_
          rintro e w' ⟨rfl, hb'⟩
          exact hK _ hb'
        · intro a W hc hsz hold hdep
          have d8 : a.tmps.getD 26 undef = .string S := hdep 8 (by kernel_rfl) rfl _ rfl
          have e8 : a.tmps[26]?.getD undef = .string S := by rw [← Array.getD_eq_getD_getElem?]; exact d8
          clear hsz hold hdep
          refine stepR_do rfl (wanted_none rfl) ?_
          refine stepR_call (v := .bool b) (fun W' hb => hb) (fun _ => rfl) fun K hK => ?_
          go_simp
          refine (HV.out W).mono ?_
          rintro e w' ⟨rfl, hb'⟩
          exact hK _ hb'
        · intro a W hc hsz hold hdep
          have d9 : a.tmps.getD 27 undef = .bool b := hdep 9 (by kernel_rfl) rfl _ rfl
          clear hsz hold hdep
          refine stepR_do rfl (wanted_none rfl) ?_
          refine stepR_val (v := .bool (!b)) (Below.refl _ _) rfl fun K hK => ?_
          go_simp
          exact hK
        · intro a W hC hd hsz hold hval
          have d28 : a.tmps.getD 28 undef = .bool (!b) := hval 10 _ rfl rfl
          have d5 : a.tmps.getD 5 undef = .slice (some ⟨gw, 0, none⟩) 138 cw := hold 5 (by kernel_rfl)
          have d6 : a.tmps.getD 6 undef = .int .i64 (k : Int) := hold 6 (by kernel_rfl)
          have d0 : a.tmps.getD 0 undef = .string (str raw) := hold 0 (by kernel_rfl)
          have d1 : a.tmps.getD 1 undef = .int .i64 m := hold 1 (by kernel_rfl)
          have d2 : a.tmps.getD 2 undef = undef := hold 2 (by kernel_rfl)
          have d3 : a.tmps.getD 3 undef = undef := hold 3 (by kernel_rfl)
          have d7 : a.tmps.getD 7 undef = .string (str raw) := hold 7 (by kernel_rfl)
          have d8 : a.tmps.getD 8 undef = .int .i64 m := hold 8 (by kernel_rfl)
          have d9 : a.tmps.getD 9 undef = .bool true := hold 9 (by kernel_rfl)
          have d10 : a.tmps.getD 10 undef = .bool false := hold 10 (by kernel_rfl)
          have d11 : a.tmps.getD 11 undef = .slice (some ⟨gw, 0, none⟩) 138 cw := hold 11 (by kernel_rfl)
          clear hold
          obtain ⟨tm, df⟩ := a
          replace hd : df = [] := hd
          replace hsz : tm.size = 29 := hsz
          replace d28 : tm.getD 28 undef = .bool (!b) := d28
          replace d5 : tm.getD 5 undef = .slice (some ⟨gw, 0, none⟩) 138 cw := d5
          replace d6 : tm.getD 6 undef = .int .i64 (k : Int) := d6
          replace d0 : tm.getD 0 undef = .string (str raw) := d0
          replace d1 : tm.getD 1 undef = .int .i64 m := d1
          replace d2 : tm.getD 2 undef = undef := d2
          replace d3 : tm.getD 3 undef = undef := d3
          replace d7 : tm.getD 7 undef = .string (str raw) := d7
          replace d8 : tm.getD 8 undef = .int .i64 m := d8
          replace d9 : tm.getD 9 undef = .bool true := d9
          replace d10 : tm.getD 10 undef = .bool false := d10
          replace d11 : tm.getD 11 undef = .slice (some ⟨gw, 0, none⟩) 138 cw := d11
          subst hd
          have e : tm = #[tm.getD 0 undef, tm.getD 1 undef, tm.getD 2 undef, tm.getD 3 undef, tm.getD 4 undef, tm.getD 5 undef, tm.getD 6 undef, tm.getD 7 undef, tm.getD 8 undef, tm.getD 9 undef, tm.getD 10 undef, tm.getD 11 undef, tm.getD 12 undef, tm.getD 13 undef, tm.getD 14 undef, tm.getD 15 undef, tm.getD 16 undef, tm.getD 17 undef, tm.getD 18 undef, tm.getD 19 undef, tm.getD 20 undef, tm.getD 21 undef, tm.getD 22 undef, tm.getD 23 undef, tm.getD 24 undef, tm.getD 25 undef, tm.getD 26 undef, tm.getD 27 undef, tm.getD 28 undef] := arr_eq tm 29 hsz
          rw [d28, d5, d6, d0, d1, d2, d3, d7, d8, d9, d10, d11] at e
          clear d28 d5 d6 d0 d1 d2 d3 d7 d8 d9 d10 d11 hsz
          generalize tm.getD 4 undef = v4 at e
          generalize tm.getD 12 undef = v12 at e
          generalize tm.getD 13 undef = v13 at e
          generalize tm.getD 14 undef = v14 at e
          generalize tm.getD 15 undef = v15 at e
          generalize tm.getD 16 undef = v16 at e
          generalize tm.getD 17 undef = v17 at e
          generalize tm.getD 18 undef = v18 at e
          generalize tm.getD 19 undef = v19 at e
          generalize tm.getD 20 undef = v20 at e
          generalize tm.getD 21 undef = v21 at e
          generalize tm.getD 22 undef = v22 at e
          generalize tm.getD 23 undef = v23 at e
          generalize tm.getD 24 undef = v24 at e
          generalize tm.getD 25 undef = v25 at e
          generalize tm.getD 26 undef = v26 at e
          generalize tm.getD 27 undef = v27 at e
          subst e
          have hB := HB.out.trans (hC.mono HB.out.size)
          have ho2 := own_keep' HO.out hC
          have hl2 := HLs.out.keep hC
          clear hval hC
          cases b with
          | false =>
            have HX := Lib.hid (HFF.out rfl)
            clear HFF
            go_wp2_with fail
            go_ret
            exact ⟨by rw [HX.out]; rfl, hB⟩
          | true =>
            go_wp2_with fail
            go_roundw
            case rel => exact ⟨k + 1, by omega, by go_num, HS.out, ho2, hl2, hB⟩
            case measure => simp [intOf]; omega
      · obtain rfl : k = 138 := by omega
        have HSN : Hid (soundB raw f = true) := Lib.hid hsn
        clear hsn
        go_wp2_with fail
        go_ret
        exact ⟨by rw [HSN.out]; rfl, hb⟩
def enc8 (raw : List UInt8) (m : Int) : List UInt8 × Int := if fitB raw m = true then (encN raw (fstI m) 138, 0) else ([], 1)
def renc9V (m f : Int) (g cap n g1 c1 : Nat) (v2 : Value) (S S2 : ByteArray) (i : Nat) (v : Value) (W : World) : Prop := match i with
  | 0 => v = .slice (some ⟨g, 0, none⟩) 2352 cap
  | 1 => v = .slice (some ⟨g1, 0, none⟩) n c1
  | 2 => v = .slice (some ⟨g1, 0, none⟩) n c1
  | 3 => v = .int .i64 (n : Int)
  | 4 => v = .int .i64 ((n : Int) - 2)
  | 5 => v = v2
  | 6 => v = .int .i64 m
  | 7 => v = .int .i64 f
  | 8 => v = .string S
  | 9 => v = .tuple #[.string S2, .int .i64 0]
  | 10 => v = .tuple #[.string S2, .int .i64 0]
  | 11 => v = .string S2
  | 12 => v = .int .i64 0
  | 13 => v = .string S2
  | 14 => v = .int .i64 0
  | _ => True
theorem renc9V_keep (m f : Int) (g cap n g1 c1 : Nat) (v2 : Value) (S S2 : ByteArray) (i : Nat) (v : Value) (W W' : World) (hR : (fun w W => Below w.heap.size w W) W W') (h : renc9V m f g cap n g1 c1 v2 S S2 i v W) : renc9V m f g cap n g1 c1 v2 S S2 i v W' := by
  unfold renc9V at h ⊢
  split at h <;> first | exact h
theorem grow_drew {w W : World} {r : Option Nat} (h : w.grownBy W r) : w.grownBy W.drew r := ⟨h.1, h.2, h.3, h.4, h.5⟩
set_option maxRecDepth 100000 in
set_option maxHeartbeats 8000000 in
theorem rencode8_any (raw : List UInt8) (m : Int) (w : World) (hl : raw.length ≤ 9223372036854775807) :
    Calls Try.prog 18 #[.string (str raw), .int .i64 m] w fun e w' => e = .returned (.tuple #[.string (str (enc8 raw m).1), .int .i64 (enc8 raw m).2]) ∧ Below w.heap.size w w' := by
  have HF := Lib.hid (fun W => rfits_any raw m W hl)
  cases hf : fitB raw m with
  | false =>
    have e1 : enc8 raw m = ([], 1) := by unfold enc8; rw [hf]; rfl
    rw [e1]
    rw [hf] at HF
    clear e1 hf hl
    go_enter Try.func18, Try.ntmps18
    go_wp2_with (refine (HF.out _).mono ?_; rintro e w' ⟨rfl, rfl⟩)
    go_ret2
    exact ⟨rfl, Below.refl _ _⟩
  | true =>
    have h2 : raw.length = 2352 ∧ fstB m = true := by simpa [fitB] using hf
    have e1 : enc8 raw m = (encN raw (fstI m) 138, 0) := by unfold enc8; rw [hf]; rfl
    rw [e1, ← rfst_eq h2.2]
    rw [hf] at HF
    have hf16 : rfst m ≤ 16 := by unfold rfst; split <;> omega
    have HL := Lib.hid h2.1
    have HFi : Hid (∀ W, Calls Try.prog 22 #[.int .i64 m] W fun e W' => e = .returned (.int .i64 (rfst m)) ∧ Below W.heap.size W W') := Lib.hid fun W => (rfirst_any m W).mono fun e w' ⟨a, b⟩ => ⟨a, b ▸ Below.refl _ _⟩
    generalize rfst m = f at *
    obtain ⟨w2, cap, hrun, hr2, hb2, hcap⟩ := run_bytes (P := Try.prog) w Try.underlying9 Try.underlying43 Try.underlying5 raw 2352 h2.1
    clear e1 hf h2 hl
    obtain ⟨g, hg⟩ : ∃ g, g = w.heap.size := ⟨_, rfl⟩
    rw [← hg] at hrun hr2
    go_enter Try.func18, Try.ntmps18
    have HG := Lib.hid hg
    clear hg
    go_wp2_with (refine (HF.out _).mono ?_; rintro e w' ⟨rfl, rfl⟩)
    clear hrun
    refine (rwords_any _).mono ?_
    rintro e w1 ⟨v, vs, rfl, ho1, hl1, hb1⟩
    obtain ⟨gw, cw, rfl, hgw, _⟩ := ownD_addr ho1 (by omega)
    have hr1 := hr2.below hb1
    have hgl := hr2.lt
    have hB1 := hb2.trans (hb1.mono hb2.size)
    have ho1 := own_mono ho1 (show g + 1 ≤ w2.heap.size by omega)
    have hl1 : Lst (g + 1) w1 vs 138 := ⟨hl1.1, fun j v hv => own_mono (hl1.2 j v hv) (by omega)⟩
    clear hr2 hb1 hb2 hgw hgl hcap
    go_wp2_with fail
    go_loopw [8] (fun vk wr => ∃ k : Nat, k ≤ 138 ∧ vk = .int .i64 k ∧ Row wr 5 g cap (encN raw f k) ∧ wr.ownsRow (g + 1) 24 1 (.slice (some ⟨gw, 0, none⟩) 138 cw) 138 vs ∧ Lst (g + 1) wr vs 138 ∧ Below w.heap.size w wr) (fun vk _ => 138 - (intOf vk).toNat)
    case atStart => exact ⟨0, by omega, rfl, hr1, ho1, hl1, hB1⟩
    case round =>
      clear ho1 hl1 hB1 hr1
      obtain ⟨k, hk, rfl, hrow, ho, hl, hb⟩ := hrel
      by_cases hlt : k < 138
      · have hlt' : (k : Int) < 138 := by omega
        have hwb := wd_bd (show k < 138 from hlt)
        have hwl := wd_length k
        have hlen : (wd k).length ≤ 45 := by rw [hwl]; split <;> omega
        have hlen2 : 26 ≤ (wd k).length := by rw [hwl]; split <;> omega
        obtain ⟨vk, hvk⟩ : ∃ vk, vs[k]? = some vk := ⟨vs[k]'(by rw [hl.1]; exact hlt), List.getElem?_eq_getElem (by rw [hl.1]; exact hlt)⟩
        have hown := hl.2 k vk hvk
        obtain ⟨g1, c1, rfl, hce⟩ := own_int hown (by omega)
        have hcw : wr.cell? ⟨gw, k, none⟩ = some (.slice (some ⟨g1, 0, none⟩) (wd k).length c1) := by rw [ho.cellAt k (by have := ho.1; omega)]; exact hvk
        have hri := rdI_own (w := wr) hown rfl (by omega) (fun x hx => by have := hwb x hx; omega)
        have hix : ∀ w', (Instr.indexAt 63 (.slice (some ⟨gw, 0, none⟩) 138 cw) (.int .i64 (k : Int))).run Try.prog w' = .ok (.pointer (some ⟨gw, k, none⟩)) w' := fun w' => by
          have := run_idx (P := Try.prog) (t := 63) (e := 24) (cap := cw) (off := 0) (b := gw) Try.underlying63 Try.sizeLI rfl hlt _ rfl w'
          rwa [Nat.zero_add] at this
        have HIX := Lib.hid hix
        have hel := encN_length raw f k
        rw [HL.out] at hel
        have hes : encN raw f (k + 1) = stepW (encN raw f k) (wd k) f := rfl
        generalize encN raw f k = R at *
        generalize hws : wd k = ws at *
        have hcl := cwd_length R ws f (by omega)
        obtain ⟨v2, hv2, hcut⟩ := run_cutI (P := Try.prog) Try.underlying24 Try.sizeInt hri (ws.length - 2) (by omega)
        have hrd := hrow.rd (by omega)
        rw [hel] at hrd
        have HT : Hid (∀ W, Below wr.heap.size wr W → Calls Try.prog 41 #[.slice (some ⟨g, 0, none⟩) 2352 cap, v2, .int .i64 f] W fun e W' => e = .returned (.string (str (takeL R (ws.take (ws.length - 2)) f))) ∧ Below W.heap.size W W') := Lib.hid fun W hW =>
          rsymbols_any _ R v2 _ f W (hrd.keep hW) (hv2 W (hri.keep hW)) (by rw [List.length_take]; omega) (fun x hx => by have := hwb x (List.mem_of_mem_take hx); rw [hel]; omega)
        have HE : Hid (∀ W, Calls Try.prog 40 #[.string (str (takeL R (ws.take (ws.length - 2)) f)), .int .i64 2] W fun e W' => e = .returned (.tuple #[.string (str (cwd R ws f)), .int .i64 0]) ∧ Below W.heap.size W W') := Lib.hid fun W =>
          rencode_ok _ 2 W (fun e => by have := congrArg List.length e; rw [takeL_length, List.length_take] at this; simp at this; omega) (by omega) (by omega) (by rw [takeL_length, List.length_take]; omega)
        have hb1 := hwb _ (ixI_mem (show ws.length - 2 < ws.length by omega))
        have hb2 := hwb _ (ixI_mem (show ws.length - 1 < ws.length by omega))
        obtain ⟨x, hx⟩ : ∃ x : Nat, ixI ws (ws.length - 2) = x := ⟨(ixI ws (ws.length - 2)).toNat, by omega⟩
        obtain ⟨y, hy⟩ : ∃ y : Nat, ixI ws (ws.length - 1) = y := ⟨(ixI ws (ws.length - 1)).toNat, by omega⟩
        have hcx := hce (ws.length - 2) (by omega)
        have hcy := hce (ws.length - 1) (by omega)
        unfold stepW at hes
        rw [hx, hy, Int.toNat_natCast, Int.toNat_natCast] at hes
        rw [hx] at hcx hb1
        rw [hy] at hcy hb2
        have hcut' : ∀ w', (Instr.slice 24 (.slice (some ⟨g1, 0, none⟩) ws.length c1) none (some (.int .i64 ((ws.length : Int) - 2))) none).run Try.prog w' = .ok v2 w' := fun w' => hcut _ w' (by omega)
        have HCut := Lib.hid hcut'
        obtain ⟨n, hn⟩ : ∃ n, n = ws.length := ⟨_, rfl⟩
        rw [← hn] at HT HE HCut hes hcl hcx hcy hcw hown hlen hlen2
        have HN26 : Hid ((26 : Int) ≤ n ∧ (n : Int) ≤ 45) := Lib.hid (by omega)
        generalize str (takeL R (ws.take (n - 2)) f) = S at HT HE
        have hgne : g1 ≠ g := by
          rcases hown.2 with ⟨h0, _⟩ | ⟨b, cap', cur, h1, h2, h3, h4⟩
          · simp at h0
          · simp only [Value.slice.injEq, Option.some.injEq, Addr.mk.injEq, and_true, true_and] at h1
            omega
        have HC := Lib.hid hcw; have HCX := Lib.hid hcx; have HCY := Lib.hid hcy
        have HCL := Lib.hid hcl; have HES := Lib.hid hes; have HROW := Lib.hid hrow; have HEL := Lib.hid hel
        have HO := Lib.hid ho; have HLs := Lib.hid hl; have HB := Lib.hid hb; have HNE := Lib.hid hgne
        have hxb : x < 2352 := by omega
        have hyb : y < 2352 := by omega
        have HXY := Lib.hid (And.intro hxb hyb)
        clear hn hws hcut hcut' hv2 hrd hri hce hown hwb hwl hlen hlen2 hvk hcx hcy hcl hes hrow hel ho hl hb hgne hb1 hb2 hx hy hxb hyb
        have hix := HIX.out
        have hcw := HC.out
        go_wp2_with fail
        clear hix hcw
        refine wp_region_inr (by kernel_rfl) (fun w W => Below w.heap.size w W) (fun W => Below wr.heap.size wr W) (renc9V m f g cap n g1 c1 v2 S (str (cwd R ws f))) (fun _ => false) (by kernel_rfl) (fun W W' hb h => h.trans (hb.mono h.size)) (renc9V_keep m f g cap n g1 c1 v2 S (str (cwd R ws f))) ((Below.refl _ _).drew) ⟨?_, ?_, ?_, ?_, ?_, ?_, ?_, ?_, ?_, ?_, ?_, ?_, ?_, ?_, ?_, trivial⟩ ?_
        · intro a W hc hsz hold hdep
          have o6 : a.tmps.getD 6 undef = .slice (some ⟨g, 0, none⟩) 2352 cap := hold 6 (by kernel_rfl)
          clear hsz hold hdep
          refine stepR_do rfl (wanted_none rfl) ?_
          refine stepR_val (v := .slice (some ⟨g, 0, none⟩) 2352 cap) (Below.refl _ _) rfl fun K hK => ?_
          go_simp
          exact hK
        · intro a W hc hsz hold hdep
          have o9 : a.tmps.getD 9 undef = .slice (some ⟨g1, 0, none⟩) n c1 := hold 9 (by kernel_rfl)
          clear hsz hold hdep
          refine stepR_do rfl (wanted_none rfl) ?_
          refine stepR_val (v := .slice (some ⟨g1, 0, none⟩) n c1) (Below.refl _ _) rfl fun K hK => ?_
          go_simp
          exact hK
        · intro a W hc hsz hold hdep
          have o9 : a.tmps.getD 9 undef = .slice (some ⟨g1, 0, none⟩) n c1 := hold 9 (by kernel_rfl)
          clear hsz hold hdep
          refine stepR_do rfl (wanted_none rfl) ?_
          refine stepR_val (v := .slice (some ⟨g1, 0, none⟩) n c1) (Below.refl _ _) rfl fun K hK => ?_
          go_simp
          exact hK
        · intro a W hc hsz hold hdep
          have d2 : a.tmps.getD 32 undef = .slice (some ⟨g1, 0, none⟩) n c1 := hdep 2 (by kernel_rfl) rfl _ rfl
          have e2 : a.tmps[32]?.getD undef = .slice (some ⟨g1, 0, none⟩) n c1 := by rw [← Array.getD_eq_getD_getElem?]; exact d2
          clear hsz hold hdep
          refine stepR_do rfl (wanted_none rfl) ?_
          refine stepR_val (v := .int .i64 (n : Int)) (Below.refl _ _) rfl fun K hK => ?_
          go_simp
          exact hK
        · intro a W hc hsz hold hdep
          have d3 : a.tmps.getD 33 undef = .int .i64 (n : Int) := hdep 3 (by kernel_rfl) rfl _ rfl
          have hn2 := HN26.out
          have hw2 : IntKind.i64.wrap ((n : Int) - 2) = (n : Int) - 2 := IntWalk.i64_in _ (by omega)
          clear hsz hold hdep
          refine stepR_do rfl (wanted_none rfl) ?_
          refine stepR_val (v := .int .i64 ((n : Int) - 2)) (Below.refl _ _) rfl fun K hK => ?_
          go_simp
          exact hK
        · intro a W hc hsz hold hdep
          have d1 : a.tmps.getD 31 undef = .slice (some ⟨g1, 0, none⟩) n c1 := hdep 1 (by kernel_rfl) rfl _ rfl
          have d4 : a.tmps.getD 34 undef = .int .i64 ((n : Int) - 2) := hdep 4 (by kernel_rfl) rfl _ rfl
          have hcut := HCut.out
          clear hsz hold hdep
          refine stepR_do rfl (wanted_none rfl) ?_
          refine stepR_val (v := v2) (Below.refl _ _) rfl fun K hK => ?_
          go_simp
          exact hK
        · intro a W hc hsz hold hdep
          have o1 : a.tmps.getD 1 undef = .int .i64 m := hold 1 (by kernel_rfl)
          clear hsz hold hdep
          refine stepR_do rfl (wanted_none rfl) ?_
          refine stepR_val (v := .int .i64 m) (Below.refl _ _) rfl fun K hK => ?_
          go_simp
          exact hK
        · intro a W hc hsz hold hdep
          have d6 : a.tmps.getD 36 undef = .int .i64 m := hdep 6 (by kernel_rfl) rfl _ rfl
          have e6 : a.tmps[36]?.getD undef = .int .i64 m := by rw [← Array.getD_eq_getD_getElem?]; exact d6
          clear hsz hold hdep
          refine stepR_do rfl (wanted_none rfl) ?_
          refine stepR_call (v := .int .i64 f) (fun W' hb => hb) (fun _ => rfl) fun K hK => ?_
          go_simp
          refine (HFi.out W).mono ?_
          rintro e w' ⟨rfl, hb'⟩
          exact hK _ hb'
        · intro a W hc hsz hold hdep
          have d0 : a.tmps.getD 30 undef = .slice (some ⟨g, 0, none⟩) 2352 cap := hdep 0 (by kernel_rfl) rfl _ rfl
          have e0 : a.tmps[30]?.getD undef = .slice (some ⟨g, 0, none⟩) 2352 cap := by rw [← Array.getD_eq_getD_getElem?]; exact d0
          have d5 : a.tmps.getD 35 undef = v2 := hdep 5 (by kernel_rfl) rfl _ rfl
          have e5 : a.tmps[35]?.getD undef = v2 := by rw [← Array.getD_eq_getD_getElem?]; exact d5
          have d7 : a.tmps.getD 37 undef = .int .i64 f := hdep 7 (by kernel_rfl) rfl _ rfl
          have e7 : a.tmps[37]?.getD undef = .int .i64 f := by rw [← Array.getD_eq_getD_getElem?]; exact d7
          clear hsz hold hdep
          refine stepR_do rfl (wanted_none rfl) ?_
          refine stepR_call (v := .string S) (fun W' hb => hb) (fun _ => rfl) fun K hK => ?_
          go_simp
          refine (HT.out W hc).mono ?_
          rintro e w' ⟨rfl, hb'⟩
          exact hK _ hb'
        · intro a W hc hsz hold hdep
          have d8 : a.tmps.getD 38 undef = .string S := hdep 8 (by kernel_rfl) rfl _ rfl
          have e8 : a.tmps[38]?.getD undef = .string S := by rw [← Array.getD_eq_getD_getElem?]; exact d8
          clear hsz hold hdep
          refine stepR_do rfl (wanted_none rfl) ?_
          refine stepR_call (v := .tuple #[.string (str (cwd R ws f)), .int .i64 0]) (fun W' hb => hb) (fun _ => rfl) fun K hK => ?_
          go_simp
          refine (HE.out W).mono ?_
          rintro e w' ⟨rfl, hb'⟩
          exact hK _ hb'
        · intro a W hc hsz hold hdep
          have d9 : a.tmps.getD 39 undef = .tuple #[.string (str (cwd R ws f)), .int .i64 0] := hdep 9 (by kernel_rfl) rfl _ rfl
          clear hsz hold hdep
          refine stepR_do rfl (wanted_none rfl) ?_
          refine stepR_val (v := .tuple #[.string (str (cwd R ws f)), .int .i64 0]) (Below.refl _ _) rfl fun K hK => ?_
          go_simp
          exact hK
        · intro a W hc hsz hold hdep
          have d10 : a.tmps.getD 29 undef = .tuple #[.string (str (cwd R ws f)), .int .i64 0] := hdep 10 (by kernel_rfl) rfl _ rfl
          clear hsz hold hdep
          refine stepR_do rfl (wanted_none rfl) ?_
          refine stepR_val (v := .string (str (cwd R ws f))) (Below.refl _ _) rfl fun K hK => ?_
          go_simp
          exact hK
        · intro a W hc hsz hold hdep
          have d10 : a.tmps.getD 29 undef = .tuple #[.string (str (cwd R ws f)), .int .i64 0] := hdep 10 (by kernel_rfl) rfl _ rfl
          clear hsz hold hdep
          refine stepR_do rfl (wanted_none rfl) ?_
          refine stepR_val (v := .int .i64 0) (Below.refl _ _) rfl fun K hK => ?_
          go_simp
          exact hK
        · intro a W hc hsz hold hdep
          have d11 : a.tmps.getD 40 undef = .string (str (cwd R ws f)) := hdep 11 (by kernel_rfl) rfl _ rfl
          clear hsz hold hdep
          refine stepR_do rfl (wanted_none rfl) ?_
          refine stepR_val (v := .string (str (cwd R ws f))) (Below.refl _ _) rfl fun K hK => ?_
          go_simp
          exact hK
        · intro a W hc hsz hold hdep
          have d12 : a.tmps.getD 41 undef = .int .i64 0 := hdep 12 (by kernel_rfl) rfl _ rfl
          clear hsz hold hdep
          refine stepR_do rfl (wanted_none rfl) ?_
          refine stepR_val (v := .int .i64 0) (Below.refl _ _) rfl fun K hK => ?_
          go_simp
          exact hK
        · intro a W hC hd hsz hold hval
          have d10 : a.tmps.getD 10 undef = .string (str (cwd R ws f)) := hval 13 _ rfl rfl
          have d6 : a.tmps.getD 6 undef = .slice (some ⟨g, 0, none⟩) 2352 cap := hold 6 (by kernel_rfl)
          have d7 : a.tmps.getD 7 undef = .slice (some ⟨gw, 0, none⟩) 138 cw := hold 7 (by kernel_rfl)
          have d8 : a.tmps.getD 8 undef = .int .i64 (k : Int) := hold 8 (by kernel_rfl)
          have d9 : a.tmps.getD 9 undef = .slice (some ⟨g1, 0, none⟩) n c1 := hold 9 (by kernel_rfl)
          have d0 : a.tmps.getD 0 undef = .string (str raw) := hold 0 (by kernel_rfl)
          have d1 : a.tmps.getD 1 undef = .int .i64 m := hold 1 (by kernel_rfl)
          have d2 : a.tmps.getD 2 undef = undef := hold 2 (by kernel_rfl)
          have d3 : a.tmps.getD 3 undef = undef := hold 3 (by kernel_rfl)
          have d4 : a.tmps.getD 4 undef = .string ⟨#[]⟩ := hold 4 (by kernel_rfl)
          have d5 : a.tmps.getD 5 undef = .int .i64 0 := hold 5 (by kernel_rfl)
          have d12 : a.tmps.getD 12 undef = .string (str raw) := hold 12 (by kernel_rfl)
          have d13 : a.tmps.getD 13 undef = .int .i64 m := hold 13 (by kernel_rfl)
          have d14 : a.tmps.getD 14 undef = .bool true := hold 14 (by kernel_rfl)
          have d15 : a.tmps.getD 15 undef = .bool false := hold 15 (by kernel_rfl)
          have d16 : a.tmps.getD 16 undef = .string (str raw) := hold 16 (by kernel_rfl)
          have d17 : a.tmps.getD 17 undef = .slice (some ⟨g, 0, none⟩) 2352 cap := hold 17 (by kernel_rfl)
          have d18 : a.tmps.getD 18 undef = .slice (some ⟨gw, 0, none⟩) 138 cw := hold 18 (by kernel_rfl)
          have d68 : a.tmps.getD 68 undef = undef := hold 68 (by kernel_rfl)
          have d69 : a.tmps.getD 69 undef = undef := hold 69 (by kernel_rfl)
          clear hold
          obtain ⟨tm, df⟩ := a
          replace hd : df = [] := hd
          replace hsz : tm.size = 70 := hsz
          replace d10 : tm.getD 10 undef = .string (str (cwd R ws f)) := d10
          replace d6 : tm.getD 6 undef = .slice (some ⟨g, 0, none⟩) 2352 cap := d6
          replace d7 : tm.getD 7 undef = .slice (some ⟨gw, 0, none⟩) 138 cw := d7
          replace d8 : tm.getD 8 undef = .int .i64 (k : Int) := d8
          replace d9 : tm.getD 9 undef = .slice (some ⟨g1, 0, none⟩) n c1 := d9
          replace d0 : tm.getD 0 undef = .string (str raw) := d0
          replace d1 : tm.getD 1 undef = .int .i64 m := d1
          replace d2 : tm.getD 2 undef = undef := d2
          replace d3 : tm.getD 3 undef = undef := d3
          replace d4 : tm.getD 4 undef = .string ⟨#[]⟩ := d4
          replace d5 : tm.getD 5 undef = .int .i64 0 := d5
          replace d12 : tm.getD 12 undef = .string (str raw) := d12
          replace d13 : tm.getD 13 undef = .int .i64 m := d13
          replace d14 : tm.getD 14 undef = .bool true := d14
          replace d15 : tm.getD 15 undef = .bool false := d15
          replace d16 : tm.getD 16 undef = .string (str raw) := d16
          replace d17 : tm.getD 17 undef = .slice (some ⟨g, 0, none⟩) 2352 cap := d17
          replace d18 : tm.getD 18 undef = .slice (some ⟨gw, 0, none⟩) 138 cw := d18
          replace d68 : tm.getD 68 undef = undef := d68
          replace d69 : tm.getD 69 undef = undef := d69
          subst hd
          have e : tm = List.toArray (tm.getD 0 undef :: tm.getD 1 undef :: tm.getD 2 undef :: tm.getD 3 undef :: tm.getD 4 undef :: tm.getD 5 undef :: tm.getD 6 undef :: tm.getD 7 undef :: tm.getD 8 undef :: tm.getD 9 undef :: tm.getD 10 undef :: tm.getD 11 undef :: tm.getD 12 undef :: tm.getD 13 undef :: tm.getD 14 undef :: tm.getD 15 undef :: tm.getD 16 undef :: tm.getD 17 undef :: tm.getD 18 undef :: tm.getD 19 undef :: tm.getD 20 undef :: tm.getD 21 undef :: tm.getD 22 undef :: tm.getD 23 undef :: tm.getD 24 undef :: tm.getD 25 undef :: tm.getD 26 undef :: tm.getD 27 undef :: tm.getD 28 undef :: tm.getD 29 undef :: tm.getD 30 undef :: tm.getD 31 undef :: tm.getD 32 undef :: tm.getD 33 undef :: tm.getD 34 undef :: tm.getD 35 undef :: tm.getD 36 undef :: tm.getD 37 undef :: tm.getD 38 undef :: tm.getD 39 undef :: tm.getD 40 undef :: tm.getD 41 undef :: tm.getD 42 undef :: tm.getD 43 undef :: tm.getD 44 undef :: tm.getD 45 undef :: tm.getD 46 undef :: tm.getD 47 undef :: tm.getD 48 undef :: tm.getD 49 undef :: tm.getD 50 undef :: tm.getD 51 undef :: tm.getD 52 undef :: tm.getD 53 undef :: tm.getD 54 undef :: tm.getD 55 undef :: tm.getD 56 undef :: tm.getD 57 undef :: tm.getD 58 undef :: tm.getD 59 undef :: tm.getD 60 undef :: tm.getD 61 undef :: tm.getD 62 undef :: tm.getD 63 undef :: tm.getD 64 undef :: tm.getD 65 undef :: tm.getD 66 undef :: tm.getD 67 undef :: tm.getD 68 undef :: tm.getD 69 undef :: []) := arr_eq tm 70 hsz
          rw [d10, d6, d7, d8, d9, d0, d1, d2, d3, d4, d5, d12, d13, d14, d15, d16, d17, d18, d68, d69] at e
          clear d10 d6 d7 d8 d9 d0 d1 d2 d3 d4 d5 d12 d13 d14 d15 d16 d17 d18 d68 d69 hsz
          generalize tm.getD 11 undef = v11 at e
          generalize tm.getD 19 undef = v19 at e
          generalize tm.getD 20 undef = v20 at e
          generalize tm.getD 21 undef = v21 at e
          generalize tm.getD 22 undef = v22 at e
          generalize tm.getD 23 undef = v23 at e
          generalize tm.getD 24 undef = v24 at e
          generalize tm.getD 25 undef = v25 at e
          generalize tm.getD 26 undef = v26 at e
          generalize tm.getD 27 undef = v27 at e
          generalize tm.getD 28 undef = v28 at e
          generalize tm.getD 29 undef = v29 at e
          generalize tm.getD 30 undef = v30 at e
          generalize tm.getD 31 undef = v31 at e
          generalize tm.getD 32 undef = v32 at e
          generalize tm.getD 33 undef = v33 at e
          generalize tm.getD 34 undef = v34 at e
          generalize tm.getD 35 undef = v35 at e
          generalize tm.getD 36 undef = v36 at e
          generalize tm.getD 37 undef = v37 at e
          generalize tm.getD 38 undef = v38 at e
          generalize tm.getD 39 undef = v39 at e
          generalize tm.getD 40 undef = v40 at e
          generalize tm.getD 41 undef = v41 at e
          generalize tm.getD 42 undef = v42 at e
          generalize tm.getD 43 undef = v43 at e
          generalize tm.getD 44 undef = v44 at e
          generalize tm.getD 45 undef = v45 at e
          generalize tm.getD 46 undef = v46 at e
          generalize tm.getD 47 undef = v47 at e
          generalize tm.getD 48 undef = v48 at e
          generalize tm.getD 49 undef = v49 at e
          generalize tm.getD 50 undef = v50 at e
          generalize tm.getD 51 undef = v51 at e
          generalize tm.getD 52 undef = v52 at e
          generalize tm.getD 53 undef = v53 at e
          generalize tm.getD 54 undef = v54 at e
          generalize tm.getD 55 undef = v55 at e
          generalize tm.getD 56 undef = v56 at e
          generalize tm.getD 57 undef = v57 at e
          generalize tm.getD 58 undef = v58 at e
          generalize tm.getD 59 undef = v59 at e
          generalize tm.getD 60 undef = v60 at e
          generalize tm.getD 61 undef = v61 at e
          generalize tm.getD 62 undef = v62 at e
          generalize tm.getD 63 undef = v63 at e
          generalize tm.getD 64 undef = v64 at e
          generalize tm.getD 65 undef = v65 at e
          generalize tm.getD 66 undef = v66 at e
          generalize tm.getD 67 undef = v67 at e
          subst e
          clear hval
          have hrW := HROW.out.below hC
          have hle := hrW.le
          rw [HEL.out] at hle
          have qx := (hC.cell (p := ⟨g1, n - 2, none⟩) (World.block_lt_of_cell? wr _ HCX.out)).trans HCX.out
          have HQY := Lib.hid ((hC.cell (p := ⟨g1, n - 1, none⟩) (World.block_lt_of_cell? wr _ HCY.out)).trans HCY.out)
          have c0 := hrW.cell x (by rw [HEL.out]; exact HXY.out.1)
          have f0 := hrW.frozen x (by have := HXY.out.1; omega)
          have hx2 := HXY.out.1
          have HRW := Lib.hid hrW
          have HCC := Lib.hid hC
          clear hrW hC
          go_wp2_with fail
          have hn2 := HN26.out
          have e1 : IntKind.i64.wrap ((n : Int) - 2) = (n : Int) - 2 := IntWalk.i64_in _ (by omega)
          have e2 : (0 : Int) ≤ (n : Int) - 2 := by omega
          have e3 : (n : Int) - 2 < (n : Int) := by omega
          have e4 : ((n : Int) - 2).toNat = n - 2 := by omega
          have hsz : (str (cwd R ws f)).size = n := by rw [str_size]; exact HCL.out
          have hix : ∀ wx, (Instr.indexAt 24 (.slice (some ⟨g1, 0, none⟩) n c1) (.int .i64 ((n : Int) - 2))).run Try.prog wx = .ok (.pointer (some ⟨g1, n - 2, none⟩)) wx := fun wx => by
            have := run_idx (P := Try.prog) (a := some ⟨g1, 0, none⟩) (off := 0) (b := g1) (n := n) (cap := c1) (k := n - 2) Try.underlying24 Try.sizeInt rfl (by omega) ((n : Int) - 2) (by omega) wx
            rwa [Nat.zero_add] at this
          have hiy : ∀ wx, (Instr.indexAt 43 (.slice (some ⟨g, 0, none⟩) 2352 cap) (.int .i64 (x : Int))).run Try.prog wx = .ok (.pointer (some ⟨g, x, none⟩)) wx := fun wx => by
            have := run_idx (P := Try.prog) (a := some ⟨g, 0, none⟩) (off := 0) (b := g) (n := 2352) (cap := cap) (k := x) Try.underlying43 Try.sizeU8 rfl (by first | exact HXY.out.1 | exact HXY.out.2) _ rfl wx
            rwa [Nat.zero_add] at this
          have hsx := fun wx => run_sidx (P := Try.prog) Try.underlying9 (cwd R ws f) (n - 2) (by rw [HCL.out]; omega) ((n : Int) - 2) (by omega) wx
          go_still_tail 13, (by kernel_rfl)
          clear e1 e2 e3 e4 hsx hix hiy hsz hn2
          change wpList _ _ _ _ _ W.drew
          go_wp2_with fail
          have hr2 : Row ((W.setCell ⟨g, x, none⟩ (B (G.ix (cwd R ws f) (n - 2)))).drew) 5 g cap (R.set x (G.ix (cwd R ws f) (n - 2))) := (HRW.out.store x _ (by rw [HEL.out]; exact hx2)).keep rfl
          have hg2 : W.grownBy ((W.setCell ⟨g, x, none⟩ (B (G.ix (cwd R ws f) (n - 2)))).drew) (some g) := grow_drew (grow_set (World.grownBy.refl W _) x _)
          generalize (W.setCell ⟨g, x, none⟩ (B (G.ix (cwd R ws f) (n - 2)))).drew = W2 at hr2 hg2 ⊢
          have hl2 : (R.set x (G.ix (cwd R ws f) (n - 2))).length = 2352 := by rw [List.length_set]; exact HEL.out
          have qy : W2.cell? ⟨g1, n - 1, none⟩ = some (.int .i64 y) := by
            rw [← HQY.out]
            exact World.cell?_of_block (hg2.block g1 (World.block_lt_of_cell? W _ HQY.out) (fun e => HNE.out (Option.some.inj e)))
          have hy2 := HXY.out.2
          have c0 := hr2.cell y (by rw [hl2]; exact hy2)
          have f0 := hr2.frozen y (by omega)
          have HR2 := Lib.hid hr2; have HG2 := Lib.hid hg2; have HL2 := Lib.hid hl2
          clear hr2 hg2 hl2 hx2 qx
          go_wp2_with fail
          have hn2 := HN26.out
          have e1 : IntKind.i64.wrap ((n : Int) - 1) = (n : Int) - 1 := IntWalk.i64_in _ (by omega)
          have e2 : (0 : Int) ≤ (n : Int) - 1 := by omega
          have e3 : (n : Int) - 1 < (n : Int) := by omega
          have e4 : ((n : Int) - 1).toNat = n - 1 := by omega
          have hsz : (str (cwd R ws f)).size = n := by rw [str_size]; exact HCL.out
          have hix : ∀ wx, (Instr.indexAt 24 (.slice (some ⟨g1, 0, none⟩) n c1) (.int .i64 ((n : Int) - 1))).run Try.prog wx = .ok (.pointer (some ⟨g1, n - 1, none⟩)) wx := fun wx => by
            have := run_idx (P := Try.prog) (a := some ⟨g1, 0, none⟩) (off := 0) (b := g1) (n := n) (cap := c1) (k := n - 1) Try.underlying24 Try.sizeInt rfl (by omega) ((n : Int) - 1) (by omega) wx
            rwa [Nat.zero_add] at this
          have hiy : ∀ wx, (Instr.indexAt 43 (.slice (some ⟨g, 0, none⟩) 2352 cap) (.int .i64 (y : Int))).run Try.prog wx = .ok (.pointer (some ⟨g, y, none⟩)) wx := fun wx => by
            have := run_idx (P := Try.prog) (a := some ⟨g, 0, none⟩) (off := 0) (b := g) (n := 2352) (cap := cap) (k := y) Try.underlying43 Try.sizeU8 rfl (by first | exact HXY.out.1 | exact HXY.out.2) _ rfl wx
            rwa [Nat.zero_add] at this
          have hsx := fun wx => run_sidx (P := Try.prog) Try.underlying9 (cwd R ws f) (n - 1) (by rw [HCL.out]; omega) ((n : Int) - 1) (by omega) wx
          go_still_tail 13, (by kernel_rfl)
          clear e1 e2 e3 e4 hsx hix hiy hsz hn2
          change wpList _ _ _ _ _ W2.drew
          go_wp2_with fail
          have hr3 : Row ((W2.setCell ⟨g, y, none⟩ (B (G.ix (cwd R ws f) (n - 1)))).drew) 5 g cap (encN raw f (k + 1)) := by
            rw [HES.out]
            exact (HR2.out.store y _ (by rw [HL2.out]; exact hy2)).keep rfl
          have hg3 : W.grownBy ((W2.setCell ⟨g, y, none⟩ (B (G.ix (cwd R ws f) (n - 1)))).drew) (some g) := grow_drew (grow_set HG2.out y _)
          have hB := HB.out.trans (HCC.out.mono HB.out.size)
          have ho2 := own_keep' HO.out HCC.out
          have hl2 := HLs.out.keep HCC.out
          have ho3 := own_other ho2 hg3 (fun j hj e => by have := ownBlock_ge' ho2 j hj; have := Option.some.inj e; omega)
          have hl3 : Lst (g + 1) ((W2.setCell ⟨g, y, none⟩ (B (G.ix (cwd R ws f) (n - 1)))).drew) vs 138 := ⟨hl2.1, fun j v hv => own_other (hl2.2 j v hv) hg3 (fun i hi e => by have := ownBlock_ge' (hl2.2 j v hv) i hi; have := Option.some.inj e; omega)⟩
          have hB3 := hB.grown hg3 hB.size (fun j e => by have := Option.some.inj e; have := HG.out; omega)
          clear hB ho2 hl2 hg3
          go_roundw
          case rel => exact ⟨k + 1, by omega, by go_num, hr3, ho3, hl3, hB3⟩
          case measure => simp [intOf]; omega
      · obtain rfl : k = 138 := by omega
        have hel := encN_length raw f 138
        rw [HL.out] at hel
        have hrd := hrow.rd (by omega)
        rw [hel] at hrd
        have hcx := run_str (P := Try.prog) Try.underlying43 Try.underlying5 Try.underlying9 hrd
        clear hrd hel hrow
        go_wp2_with fail
        go_ret2
        exact ⟨rfl, hb⟩
end Go.Proofs.Ytepdcpbgdfjobaa.W8
namespace Go.Proofs.Ytepdcpbgdfjobaa.W8
open Go.RowKit Go.Shelf
set_option linter.unusedVariables false
theorem fit_fst {raw : List UInt8} {m : Int} (h : fitB raw m = true) : fstB m = true ∧ raw.length = 2352 := by
  have h2 : raw.length = 2352 ∧ fstB m = true := by simpa [fitB] using h
  exact ⟨h2.2, h2.1⟩
set_option maxRecDepth 100000 in
set_option maxHeartbeats 1000000 in
theorem encode8_any (raw : List UInt8) (m : Int) (w : World) (hl : raw.length ≤ 9223372036854775807) :
    Calls Try.prog 17 #[.string (str raw), .int .i64 m] w fun e w' => e = .returned (.tuple #[.string (str (enc8 raw m).1), .int .i64 (enc8 raw m).2]) ∧ Below w.heap.size w w' := by
  cases hf : fitB raw m with
  | true =>
    have e1 : enc8 raw m = (encN raw (fstI m) 138, 0) := by unfold enc8; rw [hf]; rfl
    rw [e1]
    dsimp only
    exact encode8_ok raw m w (fit_fst hf).1 (fit_fst hf).2
  | false =>
    have e1 : enc8 raw m = ([], 1) := by unfold enc8; rw [hf]; rfl
    rw [e1]
    have hs := str_size raw
    have HF := Lib.hid (fun W => first_any m W)
    cases hb : fstB m with
    | false =>
      rw [hb] at HF
      clear e1 hb hf
      go_enter Try.func17, Try.ntmps17
      go_wp2_with (refine (HF.out _).mono ?_; rintro e w' ⟨rfl, rfl⟩)
      go_ret2
      exact ⟨rfl, (Below.refl _ _).alloc (Nat.le_refl _) _⟩
    | true =>
      rw [hb] at HF
      have hn : raw.length ≠ 2352 := by
        intro h
        unfold fitB at hf
        rw [hb, h] at hf
        simp at hf
      have hd : ((raw.length : Int) != 2352) = true := by simp; omega
      have HN := Lib.hid hn
      clear e1 hb hf hn
      go_enter Try.func17, Try.ntmps17
      go_wp2_with (refine (HF.out _).mono ?_; rintro e w' ⟨rfl, rfl⟩)
      go_ret2
      exact ⟨rfl, (Below.refl _ _).alloc (Nat.le_refl _) _⟩
set_option maxRecDepth 100000 in
set_option maxHeartbeats 4000000 in
theorem encodes_law (w : World) (s : ByteArray) (hs : s.data.toList.length ≤ 9223372036854775807) (m : Int) (hm : (Lit.int .i64 m).wf = true) : Calls Try.prog 5 #[.string s, .int .i64 m] w fun e w' => e = .returned (.bool true) ∧ Below w.heap.size w w' := by
  rw [str_list s]
  generalize s.data.toList = raw at hs
  have hz := str_size raw
  have H1 := Lib.hid (fun W => encode8_any raw m W hs)
  have H2 := Lib.hid (fun W => rencode8_any raw m W hs)
  have H3 := Lib.hid (fun W => valid8_any raw m W hs)
  have H4 := Lib.hid (fun W => rvalid8_any raw m W hs)
  generalize str (enc8 raw m).1 = X at H1 H2
  generalize (enc8 raw m).2 = r at H1 H2
  generalize vldB raw m = b at H3 H4
  have HX : Hid (∀ x : Bool, (x == x) = true) := Lib.hid (by simp)
  clear hm
  by_cases hbig : 2400 < raw.length
  · have hd : decide (2400 < (raw.length : Int)) = true := by simp; omega
    clear hbig
    go_enter Try.func5, Try.ntmps5
    go_wp2_with fail
    refine (awake8_any _).mono ?_
    rintro e w0 ⟨rfl, hb0⟩
    go_wp2_with fail
    go_ret
    exact ⟨rfl, hb0⟩
  · have hd : decide (2400 < (raw.length : Int)) = false := by simp; omega
    clear hbig
    go_enter Try.func5, Try.ntmps5
    go_wp2_with fail
    refine (awake8_any _).mono ?_
    rintro e w0 ⟨rfl, hb0⟩
    go_wp2_with fail
    refine (H1.out _).mono ?_
    rintro e w1 ⟨rfl, hb1⟩
    have hB1 := hb0.trans (hb1.mono hb0.size)
    clear hb0 hb1
    go_wp2_with fail
    refine (H2.out _).mono ?_
    rintro e w2 ⟨rfl, hb2⟩
    have hB2 := hB1.trans (hb2.mono hB1.size)
    clear hB1 hb2
    go_wp2_with fail
    refine (H3.out _).mono ?_
    rintro e w3 ⟨rfl, hb3⟩
    have hB3 := hB2.trans (hb3.mono hB2.size)
    clear hB2 hb3
    go_wp2_with fail
    refine (H4.out _).mono ?_
    rintro e w4 ⟨rfl, hb4⟩
    have hB4 := hB3.trans (hb4.mono hB3.size)
    clear hB3 hb4
    go_wp2_with fail
    go_ret
    exact ⟨rfl, hB4⟩
end Go.Proofs.Ytepdcpbgdfjobaa.W8
namespace Go.Proofs.Ytepdcpbgdfjobaa.W8
open Go.RowKit Go.Shelf
set_option linter.unusedVariables false
theorem nw_ex : ∃ n : Nat, n = 138 := ⟨_, rfl⟩
noncomputable def nw : Nat := nw_ex.choose
theorem nw_eq : nw = 138 := nw_ex.choose_spec
noncomputable def pass8 (f : Int) (raw : List UInt8) (S : List Int) : List UInt8 × List Int × Bool := passN f raw S nw
theorem pass8_eq (f : Int) (raw : List UInt8) (S : List Int) : passN f raw S 138 = pass8 f raw S := by unfold pass8; rw [nw_eq]
theorem pass8_length (f : Int) (raw : List UInt8) (S : List Int) : (pass8 f raw S).1.length = raw.length := passN_length f raw S nw
theorem rel_le (S ws : List Int) : (rel S ws).length ≤ S.length := by
  unfold rel
  generalize ws.length = n
  induction n with
  | zero => exact Nat.le_refl _
  | succ n ih => exact Nat.le_trans (List.length_filter_le _ _) ih
theorem passN_le (f : Int) (raw : List UInt8) (S : List Int) : ∀ k, (passN f raw S k).2.1.length ≤ S.length
  | 0 => Nat.le_refl _
  | k + 1 => by
    have ih := passN_le f raw S k
    rw [passN]
    unfold passS
    dsimp only
    split
    · exact Nat.le_trans (rel_le _ _) ih
    · exact ih
theorem pass8_le (f : Int) (raw : List UInt8) (S : List Int) : (pass8 f raw S).2.1.length ≤ S.length := passN_le f raw S nw
def again {α : Type} (g : α → α) : Nat → α → α
  | 0, x => x
  | i + 1, x => g (again g i x)
noncomputable def step8 (f : Int) (st : List UInt8 × List Int) : List UInt8 × List Int := ((pass8 f st.1 st.2).1, (pass8 f st.1 st.2).2.1)
noncomputable def itS (f : Int) (raw : List UInt8) (S : List Int) (i : Nat) : List UInt8 × List Int := again (step8 f) i (raw, S)
theorem itS_zero (f : Int) (raw : List UInt8) (S : List Int) : itS f raw S 0 = (raw, S) := rfl
theorem itS_succ (f : Int) (raw : List UInt8) (S : List Int) (i : Nat) : itS f raw S (i + 1) = ((pass8 f (itS f raw S i).1 (itS f raw S i).2).1, (pass8 f (itS f raw S i).1 (itS f raw S i).2).2.1) := rfl
theorem itS_length (f : Int) (raw : List UInt8) (S : List Int) : ∀ i, (itS f raw S i).1.length = raw.length
  | 0 => rfl
  | i + 1 => by rw [itS_succ]; exact (pass8_length f _ _).trans (itS_length f raw S i)
def mlen (w : World) (b : Nat) : Nat := match w.heap[b]? with
  | some (.map es _) => es.size
  | _ => 0
theorem MS.mlen {w : World} {b n : Nat} {S : List Int} (h : MS w b n S) : mlen w b = S.length := by
  obtain ⟨D, ⟨es, clock, hb, F, hs, rfl⟩, _, _, hlen, _⟩ := h
  unfold W8.mlen
  rw [hb]
  dsimp only
  rw [← hlen]
  simp [Maps.size, DataW.length_sorted]
def DecQ (e0 g cap mb n0 B0 : Nat) (f : Int) (raw : List UInt8) (S : List Int) (w : World) (W : World) : Prop :=
  ∃ i, Row W e0 g cap (itS f raw S (i + 1)).1 ∧ MS W mb n0 (itS f raw S (i + 1)).2 ∧ ¬ ((itS f raw S (i + 1)).2.length < (itS f raw S i).2.length) ∧ Below B0 w W
noncomputable def decR (f : Int) (raw : List UInt8) (S : List Int) (i : Nat) : List UInt8 × Int × Int :=
  if (itS f raw S (i + 1)).2 = [] ∧ soundB (itS f raw S (i + 1)).1 f = true then ((itS f raw S (i + 1)).1, (G.allN (itS f raw S (i + 1)).1 raw 2352 : Int), 0) else ([], 0, 11)
def Dec8 (raw : List UInt8) (m : Int) (l : List Int) (w : World) (e : Ending) (w' : World) : Prop :=
  (∃ r : List UInt8 × Int × Int, e = .returned (.tuple #[.string (str r.1), .int .i64 r.2.1, .int .i64 r.2.2]) ∧
    ((¬ (fitB raw m = true ∧ ersB (fstI m) l = true) ∧ r = ([], 0, 1)) ∨ ((fitB raw m = true ∧ ersB (fstI m) l = true) ∧ ∃ i, ¬ ((itS (fstI m) raw l (i + 1)).2.length < (itS (fstI m) raw l i).2.length) ∧ r = decR (fstI m) raw l i))) ∧ Below w.heap.size w w'
set_option maxRecDepth 100000 in
set_option maxHeartbeats 8000000 in
theorem decode8_ok (raw : List UInt8) (m : Int) (ev : Value) (l : List Int) (w : World) (hf : fitB raw m = true) (hv : RdI w ev l) (hl : l.length ≤ 100000) :
    Calls Try.prog 24 #[.string (str raw), .int .i64 m, ev] w (Dec8 raw m l w) := by
  obtain ⟨hm1, hlen⟩ := fit_fst hf
  have HF := Lib.hid (fun W => first_any m W)
  rw [hm1] at HF
  have hs : (str raw).size = 2352 := by rw [str_size, hlen]
  have hd : ((2352 : Int) != 2352) = false := by decide
  have HL := Lib.hid hlen
  have HFit := Lib.hid hf
  have HSet := Lib.hid (fun W (hb : Below w.heap.size w W) => set_any (fstI m) ev l W (hv.keep hb) hl)
  obtain ⟨hw0, ⟨ea, ec, _, _, rfl, _⟩, _⟩ := hv
  unfold Dec8
  generalize fstI m = f at *
  clear hm1 hlen hf
  go_enter Try.func24, Try.ntmps24
  go_wp2_with (refine (HF.out _).mono ?_; rintro e w' ⟨rfl, rfl⟩)
  refine (HSet.out _ (Below.refl _ _)).mono ?_
  rintro e w1 (⟨he, rfl, hb1⟩ | ⟨he, rfl, hm, hb1⟩)
  · have HE := Lib.hid he
    clear he
    go_wp2_with fail
    refine bodyPost_ret (results_tmp3 rfl _ _ _) rfl ?_
    exact ⟨⟨([], 0, 1), rfl, .inl ⟨fun h => (by rw [HE.out] at h; cases h.2), rfl⟩⟩, hb1⟩
  · have HE := Lib.hid he
    obtain ⟨mb, hmb⟩ : ∃ mb, mb = w.heap.size := ⟨_, rfl⟩
    rw [← hmb] at hm
    rw [← hmb]
    have HMB := Lib.hid hmb
    clear he hmb
    have hHM := Lib.hid hm
    clear hm
    go_upto_block 0 with (refine wpList_bytes rfl _ rfl Try.underlying9 Try.underlying43 Try.underlying5 rfl ?_; intro w2 cap hr2 hb2 hcap)
    have hm2 := hHM.out.below hb2
    have hr3 : Row w2 5 w1.heap.size cap raw := hr2
    have hB2 := hb1.trans (hb2.mono hb1.size)
    have hgle := hb1.size
    have hmle : w.heap.size ≤ mb := by rw [HMB.out]; exact Nat.le_refl _
    obtain ⟨g, hg⟩ : ∃ g, g = w1.heap.size := ⟨_, rfl⟩
    rw [← hg] at hr3 hgle ⊢
    have HG := Lib.hid hg
    clear hr2 hb2 hb1 hHM hg
    go_cut [] (fun wx => DecQ 5 g cap mb l.length w.heap.size f raw l w wx)
    case first =>
      go_wp2_with fail
      go_loopw [13] (fun vk wr => ∃ i idle : Nat, idle ≤ 16 ∧ vk = .int .i64 idle ∧ Hid (0 < idle → ∃ j, i = j + 1 ∧ ¬ ((itS f raw l (j + 1)).2.length < (itS f raw l j).2.length)) ∧ Row wr 5 g cap (itS f raw l i).1 ∧ MS wr mb l.length (itS f raw l i).2 ∧ Below w.heap.size w wr) (fun vk wr => mlen wr mb * 17 + (16 - (intOf vk).toNat))
      case atStart => exact ⟨0, 0, by omega, rfl, Lib.hid (fun h => by omega), hr3, hm2, hB2⟩
      case round =>
        clear hr3 hm2 hB2
        obtain ⟨i, idle, hid, rfl, HI, hr, hm, hb⟩ := hrel
        by_cases hlt : idle < 16
        · have hlt' : (idle : Int) < 16 := by omega
          have hil := itS_length f raw l i
          rw [HL.out] at hil
          have HP := Lib.hid (pass_any g cap mb l.length w.heap.size (itS f raw l i).1 (itS f raw l i).2 f wr hr hil hm hgle hmle hb.size)
          have hml := hm.mlen
          have hst1 : (itS f raw l (i + 1)).1 = (pass8 f (itS f raw l i).1 (itS f raw l i).2).1 := by rw [itS_succ]
          have hst2 : (itS f raw l (i + 1)).2 = (pass8 f (itS f raw l i).1 (itS f raw l i).2).2.1 := by rw [itS_succ]
          have hle8 := pass8_le f (itS f raw l i).1 (itS f raw l i).2
          unfold PassP at HP
          rw [pass8_eq] at HP
          generalize pass8 f (itS f raw l i).1 (itS f raw l i).2 = st at *
          obtain ⟨R1, S1, C1⟩ := st
          dsimp only at hst1 hst2 HP hle8
          have HLE8 := Lib.hid hle8
          clear hle8
          have HI1 := Lib.hid hst1; have HI2 := Lib.hid hst2; have HMLE := Lib.hid hml
          have HLE : Hid (decide (S1.length < (itS f raw l i).2.length) = false → ¬ ((itS f raw l (i + 1)).2.length < (itS f raw l i).2.length)) := Lib.hid fun h => by rw [hst2]; simpa using h
          have HLT : Hid (decide (S1.length < (itS f raw l i).2.length) = true → S1.length < (itS f raw l i).2.length) := Lib.hid fun h => by simpa using h
          generalize decide (S1.length < (itS f raw l i).2.length) = fw at *
          clear hst1 hst2 hr hm hil hml
          cases C1 with
          | false =>
            cases fw with
            | false =>
              have HNo := Lib.hid (HLE.out rfl)
              clear HLE HLT
              go_wp2_with (refine HP.out.mono ?_; rintro e w3 ⟨rfl, hr3, hm3, hb3⟩)
              go_meet
              exact ⟨i, by rw [HI1.out]; exact hr3, by rw [HI2.out]; exact hm3, HNo.out, hb.trans hb3⟩
            | true =>
              have HLt := Lib.hid (HLT.out rfl)
              clear HLE HLT
              go_wp2_with (refine HP.out.mono ?_; rintro e w3 ⟨rfl, hr3, hm3, hb3⟩)
              have hml3 := hm3.mlen
              have HM3 := Lib.hid hml3
              clear hml3
              go_roundw
              case rel => exact ⟨i + 1, 0, by omega, rfl, Lib.hid (fun h => by omega), by rw [HI1.out]; exact hr3, by rw [HI2.out]; exact hm3, hb.trans hb3⟩
              case measure =>
                have h1 := HM3.out; have h2 := HMLE.out; have h3 := HLt.out
                rw [h1, h2]
                simp [intOf]
                omega
          | true =>
            cases fw with
            | false =>
              have HNo := Lib.hid (HLE.out rfl)
              clear HLE HLT
              go_wp2_with (refine HP.out.mono ?_; rintro e w3 ⟨rfl, hr3, hm3, hb3⟩)
              have hml3 := hm3.mlen
              have HM3 := Lib.hid hml3
              clear hml3
              go_roundw
              case rel => exact ⟨i + 1, idle + 1, by omega, by go_num, Lib.hid (fun h => ⟨i, rfl, HNo.out⟩), by rw [HI1.out]; exact hr3, by rw [HI2.out]; exact hm3, hb.trans hb3⟩
              case measure =>
                have h1 := HM3.out; have h2 := HMLE.out; have h3 := HLE8.out
                rw [h1, h2]
                simp [intOf]
                omega
            | true =>
              have HLt := Lib.hid (HLT.out rfl)
              clear HLE HLT
              go_wp2_with (refine HP.out.mono ?_; rintro e w3 ⟨rfl, hr3, hm3, hb3⟩)
              have hml3 := hm3.mlen
              have HM3 := Lib.hid hml3
              clear hml3
              go_roundw
              case rel => exact ⟨i + 1, 0, by omega, rfl, Lib.hid (fun h => by omega), by rw [HI1.out]; exact hr3, by rw [HI2.out]; exact hm3, hb.trans hb3⟩
              case measure =>
                have h1 := HM3.out; have h2 := HMLE.out; have h3 := HLt.out
                rw [h1, h2]
                simp [intOf]
                omega
        · obtain rfl : idle = 16 := by omega
          go_wp2_with fail
          go_meet
          obtain ⟨j, rfl, hj⟩ := HI.out (by omega)
          exact ⟨j, hr, hm, hj, hb⟩
    case rest =>
      obtain ⟨i, hr, hm, hno, hb⟩ := hcut
      have hil := itS_length f raw l (i + 1)
      rw [HL.out] at hil
      have hR : decR f raw l i = if (itS f raw l (i + 1)).2 = [] ∧ soundB (itS f raw l (i + 1)).1 f = true then ((itS f raw l (i + 1)).1, (G.allN (itS f raw l (i + 1)).1 raw 2352 : Int), 0) else ([], 0, 11) := rfl
      have hfin : ∀ r, decR f raw l i = r → (¬ (fitB raw m = true ∧ ersB f l = true) ∧ r = ([], 0, 1)) ∨ ((fitB raw m = true ∧ ersB f l = true) ∧ ∃ i, ¬ ((itS f raw l (i + 1)).2.length < (itS f raw l i).2.length) ∧ r = decR f raw l i) := fun r h => .inr ⟨⟨HFit.out, HE.out⟩, i, hno, h.symm⟩
      have HFin := Lib.hid hfin
      clear hfin hno
      generalize itS f raw l (i + 1) = st at *
      obtain ⟨R, T⟩ := st
      dsimp only at hr hm hil hR
      have hlen := hm.len 3
      have hTd := hm.nodup
      have HR := Lib.hid hR
      have HIL := Lib.hid hil
      clear hR hTd hm2 hB2 hr3 hm
      by_cases hT : T = []
      · subst hT
        have hrd := hr.rd (by omega)
        rw [hil] at hrd
        have hlen0 : ((([] : List Int).length : Nat) : Int) = 0 := rfl
        rw [hlen0] at hlen
        have HS := Lib.hid (sound_any _ R f wc hrd hil)
        have HSB : Hid (∀ b, soundB R f = b → decR f raw l i = if b = true then (R, (G.allN R raw 2352 : Int), 0) else ([], 0, 11)) := Lib.hid fun b hb => by
          rw [HR.out, hb]
          cases b
          · rw [if_neg (fun h => by cases h.2)]; rfl
          · rw [if_pos ⟨rfl, rfl⟩]; rfl
        have hSB := HSB.out _ rfl
        generalize soundB R f = sb at *
        have HSB2 := Lib.hid hSB
        clear hSB HSB hrd hil
        cases sb with
        | false =>
          have HX : Hid (decR f raw l i = ([], 0, 11)) := Lib.hid (by rw [HSB2.out]; rfl)
          clear HSB2
          go_wp2_with (refine HS.out.mono ?_; rintro e w3 ⟨rfl, hb3⟩)
          refine bodyPost_ret (results_tmp3 rfl _ _ _) rfl ?_
          exact ⟨⟨([], 0, 11), rfl, HFin.out _ HX.out⟩, hb.trans (hb3.mono hb.size)⟩
        | true =>
          have HX : Hid (decR f raw l i = (R, (G.allN R raw 2352 : Int), 0)) := Lib.hid (by rw [HSB2.out]; rfl)
          clear HSB2
          go_wp2_with (refine HS.out.mono ?_; rintro e w3 ⟨rfl, hb3⟩; have hr3 := hr.below hb3; have hB3 := hb.trans (hb3.mono hb.size))
          clear hr hb hb3
          go_loopw [16, 69] (fun vc vk wr => ∃ k : Nat, k ≤ 2352 ∧ vk = .int .i64 k ∧ vc = .int .i64 (G.allN R raw k) ∧ Row wr 5 g cap R ∧ Below w.heap.size w wr) (fun _ vk _ => 2352 - (intOf vk).toNat)
          case atStart => exact ⟨0, by omega, rfl, rfl, hr3, hB3⟩
          case round =>
            clear hr3 hB3
            obtain ⟨k, hk, rfl, rfl, hr, hb⟩ := hrel
            by_cases hlt : k < 2352
            · have hlt' : (k : Int) < 2352 := by omega
              have hle := G.allN_le R raw k
              have HA : Hid (G.allN R raw (k + 1) = G.allN R raw k + if G.ix R k = G.ix raw k then 0 else 1) := Lib.hid rfl
              have hc := hr.cell k (by rw [HIL.out]; exact hlt)
              have hi1 := fun wx => run_sidx (P := Try.prog) Try.underlying9 raw k (by rw [HL.out]; exact hlt) _ rfl wx
              have hbn : (((G.ix R k).toNat : Int) != ((G.ix raw k).toNat : Int)) = !decide (G.ix R k = G.ix raw k) := by rw [byte_bne]; simp
              have hix : ∀ wx, (Instr.indexAt 43 (.slice (some ⟨g, 0, none⟩) 2352 cap) (.int .i64 (k : Int))).run Try.prog wx = .ok (.pointer (some ⟨g, k, none⟩)) wx := fun wx => by
                have := run_idx (P := Try.prog) (a := some ⟨g, 0, none⟩) (off := 0) (b := g) (n := 2352) (cap := cap) (k := k) Try.underlying43 Try.sizeU8 rfl hlt _ rfl wx
                rwa [Nat.zero_add] at this
              generalize G.allN R raw k = c at *
              by_cases hq : G.ix R k = G.ix raw k
              · have hb2 : (((G.ix R k).toNat : Int) != ((G.ix raw k).toNat : Int)) = false := by rw [hbn, hq]; simp
                rw [if_pos hq] at HA
                clear hbn hq
                go_wp2_with fail
                go_quiet (fail)
                have hr3 : Row (wr.drewN nq) 5 g cap R := hr
                have hB3 := Below.drewN hb nq
                generalize wr.drewN nq = w4 at hr3 hB3 ⊢
                clear hr hb hc
                go_wp2_with fail
                go_roundw
                case rel => exact ⟨k + 1, by omega, by go_num, by rw [HA.out]; rfl, hr3, hB3⟩
                case measure => simp [intOf]; omega
              · have hb2 : (((G.ix R k).toNat : Int) != ((G.ix raw k).toNat : Int)) = true := by rw [hbn]; simpa using hq
                rw [if_neg hq] at HA
                have HQ := Lib.hid hq
                clear hbn hq
                go_wp2_with fail
                go_quiet (fail)
                have hr3 : Row (wr.drewN nq) 5 g cap R := hr
                have hB3 := Below.drewN hb nq
                generalize wr.drewN nq = w4 at hr3 hB3 ⊢
                clear hr hb hc
                go_wp2_with fail
                go_roundw
                case rel => exact ⟨k + 1, by omega, by go_num, by rw [HA.out]; go_num, hr3, hB3⟩
                case measure => simp [intOf]; omega
            · obtain rfl : k = 2352 := by omega
              have hrd := hr.rd (by have := HIL.out; omega)
              rw [HIL.out] at hrd
              have hcx := run_str (P := Try.prog) Try.underlying43 Try.underlying5 Try.underlying9 hrd
              clear hrd hr
              go_wp2_with fail
              refine bodyPost_ret (results_tmp3 rfl _ _ _) rfl ?_
              exact ⟨⟨(R, (G.allN R raw 2352 : Int), 0), rfl, HFin.out _ HX.out⟩, hb⟩
      · have h0 : decide (0 < (T.length : Int)) = true := by
          have := List.length_pos_iff.2 hT
          simp; omega
        have h0' : decide (0 < T.length) = true := by simpa using List.length_pos_iff.2 hT
        have HX : Hid (decR f raw l i = ([], 0, 11)) := Lib.hid (by rw [HR.out, if_neg (fun h => hT h.1)])
        clear hT hil hr
        go_wp2_with fail
        refine bodyPost_ret (results_tmp3 rfl _ _ _) rfl ?_
        exact ⟨⟨([], 0, 11), rfl, HFin.out _ HX.out⟩, hb⟩
end Go.Proofs.Ytepdcpbgdfjobaa.W8
namespace Go.Proofs.Ytepdcpbgdfjobaa.W8
open Go.RowKit
set_option linter.unusedVariables false
theorem pf_at (m i : Nat) : pf m i = 12 + m + 86 * i := by unfold pf; omega
theorem wd_at (k i : Nat) (hk : k < 138) (hi : i < (wd k).length) :
    (k < 86 ∧ i < 26 ∧ ixI (wd k) i = 12 + k + 86 * i) ∨ (86 ≤ k ∧ i < 43 ∧ ixI (wd k) i = qf (k - 86) i) ∨ (86 ≤ k ∧ i = 43 ∧ ixI (wd k) i = 2162 + k) ∨ (86 ≤ k ∧ i = 44 ∧ ixI (wd k) i = 2214 + k) := by
  rw [wd_length] at hi
  unfold wd
  by_cases h : k < 86
  · rw [if_pos h] at hi ⊢
    exact .inl ⟨h, hi, by rw [ixI_pw _ _ hi, pf_at]⟩
  · rw [if_neg h] at hi ⊢
    by_cases h1 : i < 43
    · exact .inr (.inl ⟨by omega, h1, ixI_qw _ _ h1⟩)
    · by_cases h2 : i = 43
      · subst h2; exact .inr (.inr (.inl ⟨by omega, rfl, by rw [ixI_qw43]; omega⟩))
      · obtain rfl : i = 44 := by omega
        exact .inr (.inr (.inr ⟨by omega, rfl, by rw [ixI_qw44]; omega⟩))
theorem qf_inj {m i j : Nat} (hm : m < 52) (hi : i < 43) (hj : j < 43) (h : qf m i = qf m j) : i = j := by
  unfold qf at h
  have e1 : (44 * (i : Int) + 43 * ((m : Int) / 2)) % 1118 = ((44 * i + 43 * (m / 2)) % 1118 : Nat) := by omega
  have e2 : (44 * (j : Int) + 43 * ((m : Int) / 2)) % 1118 = ((44 * j + 43 * (m / 2)) % 1118 : Nat) := by omega
  rw [e1, e2] at h
  have hk : (44 * i + 43 * (m / 2)) % 1118 < 1118 := Nat.mod_lt _ (by omega)
  have h1 := (q_solve _ i (m / 2) hk hi (by omega)).1 rfl
  have h2 := (q_solve ((44 * i + 43 * (m / 2)) % 1118) j (m / 2) hk hj (by omega)).1 (by omega)
  omega
theorem wd_inj {k a b : Nat} (hk : k < 138) (ha : a < (wd k).length) (hb : b < (wd k).length) (h : ixI (wd k) a = ixI (wd k) b) : a = b := by
  rcases wd_at k a hk ha with ⟨h1, h2, h3⟩ | ⟨h1, h2, h3⟩ | ⟨h1, h2, h3⟩ | ⟨h1, h2, h3⟩ <;>
  rcases wd_at k b hk hb with ⟨g1, g2, g3⟩ | ⟨g1, g2, g3⟩ | ⟨g1, g2, g3⟩ | ⟨g1, g2, g3⟩ <;>
  rw [h3, g3] at h <;>
  first | omega | exact qf_inj (by omega) h2 g2 h | (have := qf_bd (m := k - 86) (i := a) (by omega); omega) | (have := qf_bd (m := k - 86) (i := b) (by omega); omega)
theorem wd_apart {j k a b : Nat} (hk : k < 138) (hj : j < k) (ha : a < (wd j).length) (hb : b < (wd k).length) (hb2 : (wd k).length - 2 ≤ b) : ixI (wd j) a ≠ ixI (wd k) b := by
  intro h
  have hl := wd_length k
  rcases wd_at j a (by omega) ha with ⟨h1, h2, h3⟩ | ⟨h1, h2, h3⟩ | ⟨h1, h2, h3⟩ | ⟨h1, h2, h3⟩ <;>
  rcases wd_at k b hk hb with ⟨g1, g2, g3⟩ | ⟨g1, g2, g3⟩ | ⟨g1, g2, g3⟩ | ⟨g1, g2, g3⟩ <;>
  rw [h3, g3] at h <;>
  first | omega | (rw [if_neg (by omega)] at hl; omega) | (have := qf_bd (m := j - 86) (i := a) (by omega); omega)
theorem wd_par {k b : Nat} (hk : k < 138) (hb : b < (wd k).length) (hb2 : (wd k).length - 2 ≤ b) : 2076 ≤ ixI (wd k) b := by
  have hl := wd_length k
  rcases wd_at k b hk hb with ⟨g1, g2, g3⟩ | ⟨g1, g2, g3⟩ | ⟨g1, g2, g3⟩ | ⟨g1, g2, g3⟩ <;> rw [g3]
  · rw [if_pos g1] at hl; omega
  · rw [if_neg (by omega)] at hl; omega
  · omega
  · omega
theorem wd_len2 (k : Nat) : 26 ≤ (wd k).length ∧ (wd k).length ≤ 45 := by rw [wd_length]; split <;> omega
theorem wd_ix {k i : Nat} (hk : k < 138) (hi : i < (wd k).length) : 12 ≤ ixI (wd k) i ∧ ixI (wd k) i < 2352 := wd_bd hk _ (ixI_mem hi)
theorem ix_stepW {R : List UInt8} {k : Nat} (hk : k < 138) (hl : R.length = 2352) (f : Int) (x : Nat) (hx1 : (x : Int) ≠ ixI (wd k) ((wd k).length - 2)) (hx2 : (x : Int) ≠ ixI (wd k) ((wd k).length - 1)) : G.ix (stepW R (wd k) f) x = G.ix R x := by
  have h2 := wd_len2 k
  have b1 := wd_ix hk (show (wd k).length - 2 < (wd k).length by omega)
  have b2 := wd_ix hk (show (wd k).length - 1 < (wd k).length by omega)
  unfold stepW
  rw [ix_set _ _ _ _ (by rw [List.length_set]; omega), if_neg (by omega), ix_set _ _ _ _ (by omega), if_neg (by omega)]
theorem take_stepW_other {R : List UInt8} {j k : Nat} (hk : k < 138) (hj : j < k) (hl : R.length = 2352) (f : Int) : takeL (stepW R (wd k) f) (wd j) f = takeL R (wd j) f := by
  apply G.ext_ix
  · rw [takeL_length, takeL_length]
  · intro i hi
    rw [takeL_length] at hi
    rw [ix_takeL _ _ _ _ hi, ix_takeL _ _ _ _ hi]
    unfold sym
    split
    · rfl
    · have h2 := wd_len2 k
      have hb := wd_ix (show j < 138 by omega) hi
      exact ix_stepW hk hl f _ (by have := wd_apart hk hj hi (show (wd k).length - 2 < (wd k).length by omega) (Nat.le_refl _); omega) (by have := wd_apart hk hj hi (show (wd k).length - 1 < (wd k).length by omega) (by omega); omega)
theorem take_stepW_same {R : List UInt8} {k : Nat} (hk : k < 138) (hl : R.length = 2352) (f : Int) (hf : f ≤ 16) : takeL (stepW R (wd k) f) (wd k) f = cwd R (wd k) f := by
  have h2 := wd_len2 k
  have hlast := wd_last hk
  have b1 := wd_ix hk (show (wd k).length - 2 < (wd k).length by omega)
  have b2 := wd_ix hk (show (wd k).length - 1 < (wd k).length by omega)
  apply G.ext_ix
  · rw [takeL_length, cwd_length _ _ _ (by omega)]
  · intro i hi
    rw [takeL_length] at hi
    have hb := wd_ix hk hi
    rw [ix_takeL _ _ _ _ hi]
    by_cases c1 : i < (wd k).length - 2
    · rw [ix_cwd _ _ _ _ c1]
      unfold sym
      split
      · rfl
      · exact ix_stepW hk hl f _ (fun e => by have := wd_inj hk hi (show (wd k).length - 2 < (wd k).length by omega) (by omega); omega) (fun e => by have := wd_inj hk hi (show (wd k).length - 1 < (wd k).length by omega) (by omega); omega)
    · by_cases c2 : i = (wd k).length - 2
      · subst c2
        have hne : ixI (wd k) ((wd k).length - 2) ≠ ixI (wd k) ((wd k).length - 1) := fun e => by
          have := wd_inj hk (show (wd k).length - 2 < (wd k).length by omega) (show (wd k).length - 1 < (wd k).length by omega) e
          omega
        unfold sym
        rw [if_neg (by omega)]
        unfold stepW
        rw [ix_set _ _ _ _ (by rw [List.length_set]; omega), if_neg (by omega), ix_set _ _ _ _ (by omega), if_pos rfl]
      · have c3 : i = (wd k).length - 1 := by omega
        subst c3
        unfold sym
        rw [if_neg (by omega)]
        unfold stepW
        rw [ix_set _ _ _ _ (by rw [List.length_set]; omega), if_pos rfl]
theorem cwd_valid {R : List UInt8} {k : Nat} (f : Int) : G.validB (cwd R (wd k) f) 2 = true := by
  have h2 := wd_len2 k
  have hl : (takeL R ((wd k).take ((wd k).length - 2)) f).length = (wd k).length - 2 := by rw [takeL_length, List.length_take]; omega
  have h := G.enc_valid (takeL R ((wd k).take ((wd k).length - 2)) f) 2 (by
    unfold G.encB
    simp only [Bool.and_eq_true, decide_eq_true_eq]
    refine ⟨⟨⟨by omega, by omega⟩, fun e => ?_⟩, by omega⟩
    rw [e] at hl
    simp at hl
    omega)
  exact h
theorem enc_words {raw : List UInt8} {f : Int} (hl : raw.length = 2352) (hf : f ≤ 16) : ∀ n, n ≤ 138 → ∀ j, j < n → G.validB (takeL (encN raw f n) (wd j) f) 2 = true
  | 0, _, j, h => by omega
  | n + 1, hn, j, h => by
    have hen := encN_length raw f n
    rw [encN]
    by_cases e : j = n
    · subst e
      rw [take_stepW_same (by omega) (by rw [hen]; exact hl) f hf]
      exact cwd_valid f
    · rw [take_stepW_other (by omega) (by omega) (by rw [hen]; exact hl) f]
      exact enc_words hl hf n (by omega) j (by omega)
theorem code_eq {c d : List UInt8} (hl : c.length = d.length) (h1 : G.validB c 2 = true) (h2 : G.validB d 2 = true) (h : ∀ i, i < c.length - 2 → G.ix c i = G.ix d i) : c = d := by
  obtain ⟨s1, e1⟩ := (G.validB_iff c 2).1 h1
  obtain ⟨s2, e2⟩ := (G.validB_iff d 2).1 h2
  obtain ⟨q1, q2, q3, q4, q5⟩ := (G.shapedB_iff c 2).1 s1
  have hx := G.xorL_length hl
  have hsupp : ∀ k, k ≤ c.length → (G.supp (G.xorL c d) k).length ≤ k - (c.length - 2) := by
    intro k
    induction k with
    | zero => intro _; simp [G.supp]
    | succ k ih =>
      intro hk
      rw [G.supp_succ]
      by_cases hlt : k < c.length - 2
      · rw [if_pos (by rw [G.ix_xorL hl, h k hlt]; simp)]
        have := ih (by omega)
        omega
      · have := ih (by omega)
        split <;> omega
  have hz := G.few_zero (G.xorL c d) 2 (by omega) (fun k hk => by rw [G.eval_xorL hl, e1 k hk, e2 k hk]; rfl) (by rw [hx]; have := hsupp c.length (Nat.le_refl _); omega)
  apply G.ext_ix hl
  intro i hi
  have := hz i
  rw [G.ix_xorL hl] at this
  exact UInt8.xor_eq_zero_iff.1 this
theorem step_valid {R : List UInt8} {k : Nat} {f : Int} (hk : k < 138) (hf : f ≤ 16) (h : G.validB (takeL R (wd k) f) 2 = true) : stepW R (wd k) f = R := by
  have h2 := wd_len2 k
  have hlast := wd_last hk
  have e : cwd R (wd k) f = takeL R (wd k) f := code_eq (by rw [cwd_length _ _ _ (by omega), takeL_length]) (cwd_valid f) h (fun i hi => by
    rw [cwd_length _ _ _ (by omega)] at hi
    rw [ix_cwd _ _ _ _ hi, ix_takeL _ _ _ _ (by omega)])
  unfold stepW
  rw [e, ix_takeL _ _ _ _ (by omega), ix_takeL _ _ _ _ (by omega)]
  unfold sym
  rw [if_neg (by omega), if_neg (by omega), set_self, set_self]
theorem enc_same {R : List UInt8} {f : Int} (hf : f ≤ 16) (h : ∀ j, j < 138 → G.validB (takeL R (wd j) f) 2 = true) : ∀ k, k ≤ 138 → encN R f k = R
  | 0, _ => rfl
  | k + 1, hk => by rw [encN, enc_same hf h k (by omega), step_valid (by omega) hf (h k (by omega))]
theorem enc_keeps {raw : List UInt8} {f : Int} (hl : raw.length = 2352) (x : Nat) (hx : x < 2076) : ∀ k, k ≤ 138 → G.ix (encN raw f k) x = G.ix raw x
  | 0, _ => rfl
  | k + 1, hk => by
    have h2 := wd_len2 k
    rw [encN, ix_stepW (by omega) (by rw [encN_length]; exact hl) f x (by have := wd_par (show k < 138 by omega) (show (wd k).length - 2 < (wd k).length by omega) (Nat.le_refl _); omega) (by have := wd_par (show k < 138 by omega) (show (wd k).length - 1 < (wd k).length by omega) (by omega); omega)]
    exact enc_keeps hl x hx k (by omega)
theorem take_xor {a b : List UInt8} (h : a.length = b.length) (ws : List Int) (f : Int) : takeL (G.xorL a b) ws f = G.xorL (takeL a ws f) (takeL b ws f) := by
  have hl : (takeL a ws f).length = (takeL b ws f).length := by rw [takeL_length, takeL_length]
  apply G.ext_ix
  · rw [takeL_length, G.xorL_length hl, takeL_length]
  · intro i hi
    rw [takeL_length] at hi
    rw [G.ix_xorL hl, ix_takeL _ _ _ _ hi, ix_takeL _ _ _ _ hi, ix_takeL _ _ _ _ hi]
    unfold sym
    split
    · rfl
    · exact G.ix_xorL h _
theorem step_xor {a b : List UInt8} (h : a.length = b.length) {ws : List Int} (f : Int) : stepW (G.xorL a b) ws f = G.xorL (stepW a ws f) (stepW b ws f) := by
  have hs : (stepW a ws f).length = (stepW b ws f).length := by rw [stepW_length, stepW_length, h]
  have hc : cwd (G.xorL a b) ws f = G.xorL (cwd a ws f) (cwd b ws f) := by
    unfold cwd
    rw [take_xor h, G.enc_xorL _ _ _ (by rw [takeL_length, takeL_length])]
  have hcl : (cwd a ws f).length = (cwd b ws f).length := by
    unfold cwd
    rw [G.enc_length, G.enc_length, takeL_length, takeL_length]
  have hx := G.xorL_length h
  apply G.ext_ix
  · rw [stepW_length, hx, G.xorL_length hs, stepW_length]
  · intro i hi
    rw [stepW_length, hx] at hi
    rw [G.ix_xorL hs]
    unfold stepW
    rw [hc, G.ix_xorL hcl, G.ix_xorL hcl]
    have key : ∀ (l : List UInt8) (p q : Nat) (u v : UInt8), l.length = a.length → G.ix ((l.set p u).set q v) i = if i = q then v else if i = p then u else G.ix l i := by
      intro l p q u v hl
      by_cases c1 : q < l.length
      · rw [ix_set _ _ _ _ (by rw [List.length_set]; exact c1)]
        by_cases e1 : i = q
        · rw [if_pos e1, if_pos e1]
        · rw [if_neg e1, if_neg e1]
          by_cases c2 : p < l.length
          · rw [ix_set _ _ _ _ c2]
          · rw [List.set_eq_of_length_le (by omega), if_neg (by omega)]
      · rw [List.set_eq_of_length_le (by rw [List.length_set]; omega), if_neg (by omega)]
        by_cases c2 : p < l.length
        · rw [ix_set _ _ _ _ c2]
        · rw [List.set_eq_of_length_le (by omega), if_neg (by omega)]
    rw [key _ _ _ _ _ hx, key _ _ _ _ _ rfl, key _ _ _ _ _ h.symm]
    split
    · rfl
    · split
      · rfl
      · exact G.ix_xorL h _
theorem enc_xor {a b : List UInt8} (h : a.length = b.length) (f : Int) : ∀ k, encN (G.xorL a b) f k = G.xorL (encN a f k) (encN b f k)
  | 0 => rfl
  | k + 1 => by rw [encN, enc_xor h f k, step_xor (by rw [encN_length, encN_length, h])]; rfl
end Go.Proofs.Ytepdcpbgdfjobaa.W8
namespace Go.Proofs.Ytepdcpbgdfjobaa.W8
open Go.RowKit
set_option linter.unusedVariables false
theorem posN8_iff (ws S : List Int) (i : Nat) : ∀ k, (i : Int) ∈ posN8 ws S k ↔ i < k ∧ S.contains (ixI ws i) = true
  | 0 => by simp [posN8]
  | k + 1 => by
    have ih := posN8_iff ws S i k
    unfold posN8
    by_cases hc : S.contains (ixI ws k) = true
    · rw [if_pos hc, List.mem_append, ih]
      constructor
      · rintro (h | h)
        · exact ⟨by omega, h.2⟩
        · have : i = k := by simp at h; omega
          subst this; exact ⟨by omega, hc⟩
      · rintro ⟨h1, h2⟩
        by_cases e : i = k
        · right; simp [e]
        · left; exact ⟨by omega, h2⟩
    · rw [if_neg hc, ih]
      constructor
      · rintro ⟨h1, h2⟩; exact ⟨by omega, h2⟩
      · rintro ⟨h1, h2⟩
        by_cases e : i = k
        · subst e; exact absurd h2 hc
        · exact ⟨by omega, h2⟩
theorem ixI_append {l m : List Int} {i : Nat} (h : i < l.length) : ixI (l ++ m) i = ixI l i := by
  unfold ixI
  rw [List.getD_eq_getElem?_getD, List.getD_eq_getElem?_getD, List.getElem?_append_left h]
theorem ixI_last (l : List Int) (x : Int) : ixI (l ++ [x]) l.length = x := by simp [ixI]
theorem posN_append (n : Nat) (l m : List Int) : ∀ k, k ≤ l.length → G.posN n (l ++ m) k = G.posN n l k
  | 0, _ => rfl
  | k + 1, h => by
    unfold G.posN
    rw [posN_append n l m k (by omega), ixI_append (by omega)]
    by_cases e : 0 < k
    · rw [ixI_append (i := k - 1) (by omega)]
    · simp [e]
theorem posB_snoc {n : Nat} {l : List Int} {x : Int} (h : G.posB n l = true) (h0 : 0 ≤ x) (hx : x < n) (hl : ∀ y ∈ l, y < x) : G.posB n (l ++ [x]) = true := by
  unfold G.posB at h ⊢
  rw [List.length_append, List.length_singleton]
  show (G.posN n (l ++ [x]) l.length && _) = true
  rw [posN_append n l [x] _ (Nat.le_refl _), h, Bool.true_and, ixI_last]
  by_cases e : 0 < l.length
  · have h2 := hl _ (ixI_mem (show l.length - 1 < l.length by omega))
    rw [ixI_append (i := l.length - 1) (by omega)]
    have a1 : ¬ x < 0 := by omega
    have a2 : ¬ (n : Int) ≤ x := by omega
    have a3 : ¬ x ≤ ixI l (l.length - 1) := by omega
    simp [a1, a2, a3]
  · have a1 : ¬ x < 0 := by omega
    have a2 : ¬ (n : Int) ≤ x := by omega
    simp [a1, a2, e]
theorem posN8_posB (ws S : List Int) (n : Nat) : ∀ k, k ≤ n → G.posB n (posN8 ws S k) = true
  | 0, _ => rfl
  | k + 1, h => by
    have ih := posN8_posB ws S n k (by omega)
    unfold posN8
    split
    · exact posB_snoc ih (by omega) (by omega) (fun y hy => (posN8_bd ws S k y hy).2)
    · exact ih
theorem posS_posB (ws S : List Int) : G.posB ws.length (posS ws S) = true := posN8_posB ws S _ _ (Nat.le_refl _)
theorem mem_posS {ws S : List Int} {i : Nat} (h : i < ws.length) : (i : Int) ∈ posS ws S ↔ ixI ws i ∈ S := by
  unfold posS
  rw [posN8_iff]
  simp [h]
theorem take_snocI' (l : List Int) (k : Nat) (h : k < l.length) : l.take (k + 1) = l.take k ++ [ixI l k] := by
  rw [List.take_succ_eq_append_getElem h, ixI_get h]
theorem relN_mem (S ws : List Int) (x : Int) : ∀ k, k ≤ ws.length → (x ∈ relN S ws k ↔ x ∈ S ∧ x ∉ ws.take k)
  | 0, _ => by simp [relN]
  | k + 1, h => by
    rw [relN, take_snocI' ws k (by omega)]
    unfold del
    rw [List.mem_filter, relN_mem S ws x k (by omega), List.mem_append]
    simp only [List.mem_singleton, bne_iff_ne, ne_eq]
    constructor
    · rintro ⟨⟨h1, h2⟩, h3⟩; exact ⟨h1, fun h => h.elim h2 h3⟩
    · rintro ⟨h1, h2⟩; exact ⟨⟨h1, fun h => h2 (.inl h)⟩, fun h => h2 (.inr h)⟩
theorem rel_mem (S ws : List Int) (x : Int) : x ∈ rel S ws ↔ x ∈ S ∧ x ∉ ws := by
  unfold rel
  rw [relN_mem S ws x _ (Nat.le_refl _), List.take_length]
theorem insB_take (c : List UInt8) (ws : List Int) (f : Int) : insB ws f (takeL c ws f) = true := by
  unfold insB
  have h : ∀ k, k ≤ ws.length → insN ws f (takeL c ws f) k = true := by
    intro k
    induction k with
    | zero => intro _; rfl
    | succ k ih =>
      intro hk
      rw [insN, ih (by omega), Bool.true_and, ix_takeL _ _ _ _ (by omega)]
      unfold sym
      by_cases h : ixI ws k < f
      · rw [if_pos h]; simp
      · have : f ≤ ixI ws k := by omega
        simp [this]
  exact h _ (Nat.le_refl _)
theorem pk_fix {R c : List UInt8} {ws : List Int} {f : Int} (hl : R.length = c.length) (hb : ∀ y ∈ ws, 0 ≤ y ∧ y < R.length) (x : Nat) : ∀ k, k ≤ ws.length → G.ix (pkL R ws f (takeL c ws f) k) x = if (x : Int) ∈ ws.take k ∧ f ≤ x then G.ix c x else G.ix R x
  | 0, _ => by rw [if_neg (by simp)]; rfl
  | k + 1, h => by
    have ih := pk_fix (f := f) hl hb x k (by omega)
    have hy := hb _ (ixI_mem (show k < ws.length by omega))
    rw [take_snocI' ws k (by omega)]
    unfold pkL
    by_cases hf : ixI ws k < f
    · rw [if_pos hf, ih]
      by_cases c1 : (x : Int) ∈ ws.take k ∧ f ≤ x
      · rw [if_pos c1, if_pos ⟨List.mem_append_left _ c1.1, c1.2⟩]
      · rw [if_neg c1, if_neg]
        rintro ⟨h1, h2⟩
        rcases List.mem_append.1 h1 with h1 | h1
        · exact c1 ⟨h1, h2⟩
        · simp at h1; omega
    · rw [if_neg hf, ix_set _ _ _ _ (by rw [pkL_length]; omega), ih, ix_takeL _ _ _ _ (by omega)]
      unfold sym
      rw [if_neg hf]
      by_cases e : x = (ixI ws k).toNat
      · rw [if_pos e, if_pos ⟨List.mem_append_right _ (by simp; omega), by omega⟩, e]
      · rw [if_neg e]
        by_cases c1 : (x : Int) ∈ ws.take k ∧ f ≤ x
        · rw [if_pos c1, if_pos ⟨List.mem_append_left _ c1.1, c1.2⟩]
        · rw [if_neg c1, if_neg]
          rintro ⟨h1, h2⟩
          rcases List.mem_append.1 h1 with h1 | h1
          · exact c1 ⟨h1, h2⟩
          · simp at h1; omega
theorem put_fix {R c : List UInt8} {ws : List Int} {f : Int} (hl : R.length = c.length) (hb : ∀ y ∈ ws, 0 ≤ y ∧ y < R.length) (x : Nat) : G.ix (putL R ws f (takeL c ws f)) x = if (x : Int) ∈ ws ∧ f ≤ x then G.ix c x else G.ix R x := by
  have := pk_fix (f := f) hl hb x ws.length (Nat.le_refl _)
  rw [List.take_length] at this
  exact this
structure Good (c : List UInt8) (f : Int) : Prop where
  len : c.length = 2352
  word : ∀ k, k < 138 → G.validB (takeL c (wd k) f) 2 = true
theorem step_spec {R c : List UInt8} {S : List Int} {f : Int} {C : Bool} {k : Nat} (hc : Good c f) (hl : R.length = 2352) (hk : k < 138) (h : 2 * G.othN (takeL R (wd k) f) (takeL c (wd k) f) (posS (wd k) S) (wd k).length + (posS (wd k) S).length ≤ 2) :
    passS f (R, S, C) k = (putL R (wd k) f (takeL c (wd k) f), rel S (wd k), putB R (wd k) f (takeL c (wd k) f) || C) := by
  have hd := G.decode_spec (takeL R (wd k) f) (takeL c (wd k) f) 2 (posS (wd k) S) (by rw [takeL_length, takeL_length]) (hc.word k hk) (by rw [takeL_length]; exact posS_posB _ _) (by rw [takeL_length]; exact h)
  have hd' : G.decode (takeL R (wd k) f) 2 (posS (wd k) S) = _ := hd
  unfold passS
  dsimp only
  rw [hd']
  rw [if_pos ⟨rfl, insB_take c (wd k) f⟩]
theorem step_many {R : List UInt8} {S : List Int} {f : Int} {C : Bool} {k : Nat} (h : 2 < (posS (wd k) S).length) : passS f (R, S, C) k = (R, S, C) := by
  have he : (G.decode (takeL R (wd k) f) 2 (posS (wd k) S)).2.2 ≠ 0 := by
    unfold G.decode
    split
    · simp
    · split
      · simp
      · rw [if_pos (by omega)]; simp
  unfold passS
  dsimp only
  rw [if_neg (fun h => he h.1)]
theorem oth_zero {a b : List UInt8} {l : List Int} : ∀ n, (∀ i, i < n → G.ix a i ≠ G.ix b i → (i : Int) ∈ l) → G.othN a b l n = 0
  | 0, _ => rfl
  | n + 1, h => by
    rw [G.othN, oth_zero n (fun i hi => h i (by omega))]
    by_cases e : G.ix a n = G.ix b n
    · rw [if_pos e]
    · rw [if_neg e, if_pos ((G.cont_iff _ _).2 (h n (by omega) e))]
structure Inv (c R : List UInt8) (S : List Int) : Prop where
  len : R.length = 2352
  diff : ∀ x : Nat, x < 2352 → G.ix R x ≠ G.ix c x → (x : Int) ∈ S
def pkS (S : List Int) (k : Nat) : List Int := if (posS (wd k) S).length ≤ 2 then rel S (wd k) else S
def pkN (S : List Int) : Nat → List Int
  | 0 => S
  | k + 1 => pkS (pkN S k) k
theorem Inv.step {c R : List UInt8} {S : List Int} {f : Int} {C : Bool} {k : Nat} (hc : Good c f) (h : Inv c R S) (hS : ∀ x ∈ S, f ≤ x) (hk : k < 138) : Inv c (passS f (R, S, C) k).1 (passS f (R, S, C) k).2.1 ∧ (passS f (R, S, C) k).2.1 = pkS S k := by
  unfold pkS
  by_cases hn : (posS (wd k) S).length ≤ 2
  · have ho : G.othN (takeL R (wd k) f) (takeL c (wd k) f) (posS (wd k) S) (wd k).length = 0 := oth_zero _ fun i hi hne => by
      rw [mem_posS hi]
      rw [ix_takeL _ _ _ _ hi, ix_takeL _ _ _ _ hi] at hne
      have hb := wd_ix hk hi
      unfold sym at hne
      by_cases hf : ixI (wd k) i < f
      · rw [if_pos hf, if_pos hf] at hne; exact absurd rfl hne
      · rw [if_neg hf, if_neg hf] at hne
        have := h.diff _ (by omega) hne
        rwa [show ((ixI (wd k) i).toNat : Int) = ixI (wd k) i by omega] at this
    rw [step_spec hc h.len hk (by rw [ho]; omega), if_pos hn]
    refine ⟨⟨by dsimp only; rw [putL_length]; exact h.len, fun x hx hne => ?_⟩, rfl⟩
    dsimp only at hne ⊢
    rw [put_fix (by rw [h.len, hc.len]) (fun y hy => by have := wd_bd hk y hy; rw [h.len]; omega)] at hne
    rw [rel_mem]
    by_cases hm : (x : Int) ∈ wd k ∧ f ≤ x
    · rw [if_pos hm] at hne; exact absurd rfl hne
    · rw [if_neg hm] at hne
      have hx2 := h.diff x hx hne
      exact ⟨hx2, fun hw => hm ⟨hw, hS _ hx2⟩⟩
  · rw [step_many (by omega), if_neg hn]
    exact ⟨h, rfl⟩
theorem pkS_sub (S : List Int) (k : Nat) : ∀ x ∈ pkS S k, x ∈ S := fun x hx => by
  unfold pkS at hx
  split at hx
  · exact ((rel_mem S (wd k) x).1 hx).1
  · exact hx
theorem pkN_sub (S : List Int) : ∀ k, ∀ x ∈ pkN S k, x ∈ S
  | 0, x, hx => hx
  | k + 1, x, hx => pkN_sub S k x (pkS_sub _ _ x hx)
theorem Inv.pass {c R : List UInt8} {S : List Int} {f : Int} (hc : Good c f) (h : Inv c R S) (hS : ∀ x ∈ S, f ≤ x) : ∀ k, k ≤ 138 → Inv c (passN f R S k).1 (passN f R S k).2.1 ∧ (passN f R S k).2.1 = pkN S k
  | 0, _ => ⟨h, rfl⟩
  | k + 1, hk => by
    obtain ⟨h1, h2⟩ := Inv.pass hc h hS k (by omega)
    have h3 := h1.step (C := (passN f R S k).2.2) hc (fun x hx => hS x (pkN_sub S k x (by rw [← h2]; exact hx))) (show k < 138 by omega)
    refine ⟨h3.1, ?_⟩
    show (passS f (passN f R S k) k).2.1 = pkS (pkN S k) k
    rw [← h2]
    exact h3.2
theorem Inv.done {c R : List UInt8} {f : Int} (hc : Good c f) (h : Inv c R []) : R = c := by
  apply G.ext_ix (by rw [h.len, hc.len])
  intro i hi
  rcases Decidable.em (G.ix R i = G.ix c i) with e | e
  · exact e
  · have := h.diff i (by rw [h.len] at hi; exact hi) e
    cases this
theorem inv_self {c : List UInt8} {f : Int} (hc : Good c f) (S : List Int) : Inv c c S := ⟨hc.len, fun x _ h => absurd rfl h⟩
theorem posN8_mono {ws S T : List Int} (h : ∀ x ∈ S, x ∈ T) : ∀ k, (posN8 ws S k).length ≤ (posN8 ws T k).length
  | 0 => Nat.le_refl _
  | k + 1 => by
    have ih := posN8_mono (ws := ws) h k
    unfold posN8
    by_cases h1 : S.contains (ixI ws k) = true
    · have h2 : T.contains (ixI ws k) = true := by simp at h1 ⊢; exact h _ h1
      rw [if_pos h1, if_pos h2, List.length_append, List.length_append]
      simp; omega
    · rw [if_neg h1]
      split
      · rw [List.length_append]; omega
      · exact ih
theorem pkN_mem {S : List Int} : ∀ k, (∀ j, j < k → (posS (wd j) (pkN S j)).length ≤ 2) → ∀ x, x ∈ pkN S k ↔ x ∈ S ∧ ∀ j, j < k → x ∉ wd j
  | 0, _, x => by simp [pkN]
  | k + 1, h, x => by
    rw [pkN, pkS, if_pos (h k (by omega)), rel_mem, pkN_mem k (fun j hj => h j (by omega)) x]
    constructor
    · rintro ⟨⟨h1, h2⟩, h3⟩
      refine ⟨h1, fun j hj => ?_⟩
      by_cases e : j = k
      · subst e; exact h3
      · exact h2 j (by omega)
    · rintro ⟨h1, h2⟩
      exact ⟨⟨h1, fun j hj => h2 j (by omega)⟩, h2 k (by omega)⟩
theorem posS_three {ws S : List Int} (h : 2 < (posS ws S).length) : ∃ a b c : Nat, a < b ∧ b < c ∧ c < ws.length ∧ ixI ws a ∈ S ∧ ixI ws b ∈ S ∧ ixI ws c ∈ S := by
  have hp := posS_posB ws S
  have hb := posN8_bd ws S ws.length
  have h1 := G.pos_lt hp (show 1 < (posS ws S).length by omega) (show 0 < 1 by omega)
  have h2 := G.pos_lt hp h (show 1 < 2 by omega)
  have m0 := ixI_mem (show 0 < (posS ws S).length by omega)
  have m1 := ixI_mem (show 1 < (posS ws S).length by omega)
  have m2 := ixI_mem h
  have b0 := hb _ m0
  have b1 := hb _ m1
  have b2 := hb _ m2
  obtain ⟨a, ha⟩ : ∃ a : Nat, ixI (posS ws S) 0 = a := ⟨(ixI (posS ws S) 0).toNat, by omega⟩
  obtain ⟨b, hb'⟩ : ∃ a : Nat, ixI (posS ws S) 1 = a := ⟨(ixI (posS ws S) 1).toNat, by omega⟩
  obtain ⟨c, hc⟩ : ∃ a : Nat, ixI (posS ws S) 2 = a := ⟨(ixI (posS ws S) 2).toNat, by omega⟩
  rw [ha] at h1 m0 b0
  rw [hb'] at h1 h2 m1 b1
  rw [hc] at h2 m2 b2
  exact ⟨a, b, c, by omega, by omega, by omega, (mem_posS (by omega)).1 m0, (mem_posS (by omega)).1 m1, (mem_posS (by omega)).1 m2⟩
theorem wd_of_p (x : Int) (h0 : 12 ≤ x) (h1 : x < 2248) : x ∈ wd ((x - 12) % 86).toNat := by
  have hk : ((x - 12) % 86).toNat < 86 := by omega
  have hl := wd_length ((x - 12) % 86).toNat
  rw [if_pos hk] at hl
  have hi : ((x - 12) / 86).toNat < (wd ((x - 12) % 86).toNat).length := by omega
  rcases wd_at _ _ (by omega) hi with ⟨_, _, h3⟩ | ⟨h2, _⟩ | ⟨h2, _⟩ | ⟨h2, _⟩
  · have hm := ixI_mem hi
    have e : ixI (wd ((x - 12) % 86).toNat) ((x - 12) / 86).toNat = x := by rw [h3]; omega
    rwa [e] at hm
  · omega
  · omega
  · omega
theorem wd_of_q (x : Int) (h0 : 2248 ≤ x) (h1 : x < 2352) : x ∈ wd (86 + ((x - 2248) % 52).toNat) := by
  have hl := wd_length (86 + ((x - 2248) % 52).toNat)
  rw [if_neg (by omega)] at hl
  have key : ∀ i, i < 45 → ixI (wd (86 + ((x - 2248) % 52).toNat)) i = x → x ∈ wd (86 + ((x - 2248) % 52).toNat) := fun i hi e => by
    have := ixI_mem (l := wd (86 + ((x - 2248) % 52).toNat)) (i := i) (by omega)
    rwa [e] at this
  by_cases c : x < 2300
  · refine key 43 (by omega) ?_
    rcases wd_at (86 + ((x - 2248) % 52).toNat) 43 (by omega) (by omega) with ⟨h2, _⟩ | ⟨_, h2, _⟩ | ⟨_, _, h3⟩ | ⟨_, h2, _⟩
    · omega
    · omega
    · rw [h3]; omega
    · omega
  · refine key 44 (by omega) ?_
    rcases wd_at (86 + ((x - 2248) % 52).toNat) 44 (by omega) (by omega) with ⟨h2, _⟩ | ⟨_, h2, _⟩ | ⟨_, h2, _⟩ | ⟨_, _, h3⟩
    · omega
    · omega
    · omega
    · rw [h3]; omega
theorem pass_peels {S : List Int} (hS : ∀ x ∈ S, 12 ≤ x ∧ x < 2352) (hP : ∀ j, j < 86 → (posS (wd j) S).length ≤ 2) : pkN S 138 = [] := by
  have h86 : ∀ j, j < 86 → (posS (wd j) (pkN S j)).length ≤ 2 := fun j hj => Nat.le_trans (posN8_mono (pkN_sub S j) _) (hP j hj)
  have hm := pkN_mem (S := S) 86 h86
  have hge : ∀ j, 86 ≤ j → ∀ x ∈ pkN S j, 2248 ≤ x := by
    have h1 : ∀ x ∈ pkN S 86, 2248 ≤ x := fun x hx => by
      obtain ⟨h2, h3⟩ := (hm x).1 hx
      have hb := hS x h2
      rcases Decidable.em (x < 2248) with h4 | h4
      · exact absurd (wd_of_p x hb.1 h4) (h3 _ (by omega))
      · omega
    intro j hj
    induction j with
    | zero => omega
    | succ j ih =>
      by_cases e : j + 1 = 86
      · rw [e]; exact h1
      · intro x hx; exact ih (by omega) x (pkS_sub _ _ x hx)
  have h138 : ∀ j, j < 138 → (posS (wd j) (pkN S j)).length ≤ 2 := fun j hj => by
    by_cases hj2 : j < 86
    · exact h86 j hj2
    · rcases Decidable.em ((posS (wd j) (pkN S j)).length ≤ 2) with h | h
      · exact h
      · obtain ⟨a, b, c, hab, hbc, hcl, ha, hb, hc⟩ := posS_three (show 2 < (posS (wd j) (pkN S j)).length by omega)
        have g := hge j (by omega) _ ha
        rcases wd_at j a hj (by omega) with ⟨h1, _⟩ | ⟨_, h2, h3⟩ | ⟨_, h2, _⟩ | ⟨_, h2, _⟩
        · omega
        · have := qf_bd (m := j - 86) (i := a) (by omega); omega
        · rw [wd_length, if_neg hj2] at hcl; omega
        · rw [wd_length, if_neg hj2] at hcl; omega
  have hm2 := pkN_mem (S := S) 138 h138
  rcases hq : pkN S 138 with _ | ⟨x, r⟩
  · rfl
  · have hx : x ∈ pkN S 138 := by rw [hq]; exact List.mem_cons_self ..
    obtain ⟨h1, h2⟩ := (hm2 x).1 hx
    have hb := hS x h1
    have hg := hge 138 (by omega) x hx
    exact absurd (wd_of_q x hg hb.2) (h2 _ (by omega))
theorem burst_two {S : List Int} {a : Int} (hS : ∀ x ∈ S, a ≤ x ∧ x < a + 172) (j : Nat) (hj : j < 86) : (posS (wd j) S).length ≤ 2 := by
  rcases Decidable.em ((posS (wd j) S).length ≤ 2) with h | h
  · exact h
  · obtain ⟨i, b, c, hab, hbc, hcl, hi, hb, hc⟩ := posS_three (show 2 < (posS (wd j) S).length by omega)
    have h1 := hS _ hi
    have h2 := hS _ hc
    rcases wd_at j i (by omega) (by omega) with ⟨_, _, e1⟩ | ⟨e, _⟩ | ⟨e, _⟩ | ⟨e, _⟩
    · rcases wd_at j c (by omega) hcl with ⟨_, _, e2⟩ | ⟨e, _⟩ | ⟨e, _⟩ | ⟨e, _⟩
      · rw [e1] at h1
        rw [e2] at h2
        omega
      · omega
      · omega
      · omega
    · omega
    · omega
    · omega
end Go.Proofs.Ytepdcpbgdfjobaa.W8
namespace Go.Proofs.Ytepdcpbgdfjobaa.W8
open Go.RowKit Go.Shelf
set_option linter.unusedVariables false
def agS (S : List Int) (k : Nat) : Bool := decide (1 ≤ (posS (wd k) S).length) && decide ((posS (wd k) S).length ≤ 2)
def agN (S : List Int) : Nat → Bool
  | 0 => false
  | k + 1 => agN S k || agS (pkN S k) k
def FixP (S : List Int) : Prop := ∀ k, k < 138 → agS S k = false
theorem del_none {S : List Int} {x : Int} (h : x ∉ S) : del S x = S := by
  unfold del
  rw [List.filter_eq_self]
  intro y hy
  simp only [bne_iff_ne, ne_eq]
  exact fun e => h (e ▸ hy)
theorem rel_none {ws S : List Int} (h : (posS ws S).length = 0) : rel S ws = S := by
  have h0 : ∀ i, i < ws.length → ixI ws i ∉ S := fun i hi hm => by
    have := (mem_posS hi).2 hm
    rw [List.length_eq_zero_iff.1 h] at this
    cases this
  unfold rel
  have : ∀ n, n ≤ ws.length → relN S ws n = S := fun n => by
    induction n with
    | zero => intro _; rfl
    | succ n ih => intro hn; rw [relN, ih (by omega)]; exact del_none (h0 n (by omega))
  exact this _ (Nat.le_refl _)
theorem pkS_eq (S : List Int) (k : Nat) : pkS S k = if agS S k = true then rel S (wd k) else S := by
  unfold pkS agS
  simp only [Bool.and_eq_true, decide_eq_true_eq]
  by_cases h2 : (posS (wd k) S).length ≤ 2
  · rw [if_pos h2]
    by_cases h1 : 1 ≤ (posS (wd k) S).length
    · rw [if_pos ⟨h1, h2⟩]
    · rw [if_neg (fun h => h1 h.1)]
      exact rel_none (by omega)
  · rw [if_neg h2, if_neg (fun h => h2 h.2)]
theorem relN_subl (S ws : List Int) : ∀ n, (relN S ws n).Sublist S
  | 0 => List.Sublist.refl _
  | n + 1 => by rw [relN]; exact (List.filter_sublist).trans (relN_subl S ws n)
theorem pkS_subl (S : List Int) (k : Nat) : (pkS S k).Sublist S := by
  unfold pkS
  split
  · exact relN_subl _ _ _
  · exact List.Sublist.refl _
theorem pkN_subl (S : List Int) : ∀ k, (pkN S k).Sublist S
  | 0 => List.Sublist.refl _
  | k + 1 => (pkS_subl _ k).trans (pkN_subl S k)
theorem posN8_some {ws S : List Int} (h : 1 ≤ (posS ws S).length) : ∃ i, i < ws.length ∧ ixI ws i ∈ S := by
  rcases hq : posS ws S with _ | ⟨x, r⟩
  · rw [hq] at h; simp at h
  · have hx : x ∈ posS ws S := by rw [hq]; exact List.mem_cons_self ..
    have hb := posN8_bd ws S ws.length x hx
    obtain ⟨i, rfl⟩ : ∃ i : Nat, x = i := ⟨x.toNat, by omega⟩
    have hi : i < ws.length := by omega
    exact ⟨i, hi, (mem_posS hi).1 hx⟩
theorem pkS_lt {S : List Int} {k : Nat} (h : agS S k = true) : (pkS S k).length < S.length := by
  have hs := pkS_subl S k
  rcases Nat.lt_or_ge (pkS S k).length S.length with hl | hl
  · exact hl
  · have e := hs.eq_of_length_le hl
    have h2 := h
    unfold agS at h2
    simp only [Bool.and_eq_true, decide_eq_true_eq] at h2
    obtain ⟨i, hi, hm⟩ := posN8_some h2.1
    rw [pkS_eq, if_pos h] at e
    rw [← e, rel_mem] at hm
    exact absurd (ixI_mem hi) hm.2
theorem agN_lt {S : List Int} : ∀ k, agN S k = true → (pkN S k).length < S.length
  | 0, h => by cases h
  | k + 1, h => by
    rw [agN, Bool.or_eq_true] at h
    rcases h with h | h
    · exact Nat.lt_of_le_of_lt (pkS_subl _ k).length_le (agN_lt k h)
    · exact Nat.lt_of_lt_of_le (pkS_lt h) (pkN_subl S k).length_le
theorem agN_no {S : List Int} : ∀ k, agN S k = false → pkN S k = S ∧ ∀ j, j < k → agS S j = false
  | 0, _ => ⟨rfl, fun j hj => by omega⟩
  | k + 1, h => by
    rw [agN, Bool.or_eq_false_iff] at h
    obtain ⟨h1, h2⟩ := agN_no k h.1
    rw [h1] at h
    refine ⟨by rw [pkN, h1, pkS_eq, h.2, if_neg (by decide)], fun j hj => ?_⟩
    by_cases e : j = k
    · subst e; exact h.2
    · exact h2 j (by omega)
theorem FixP.pkN {S : List Int} (h : FixP S) : ∀ k, k ≤ 138 → pkN S k = S
  | 0, _ => rfl
  | k + 1, hk => by rw [W8.pkN, h.pkN k (by omega), pkS_eq, h k (by omega), if_neg (by decide)]
noncomputable def itP (S : List Int) (i : Nat) : List Int := again (fun T => pkN T nw) i S
theorem itP_succ (S : List Int) (i : Nat) : itP S (i + 1) = pkN (itP S i) 138 := by
  show W8.pkN (itP S i) nw = _
  rw [nw_eq]
theorem itP_subl (S : List Int) : ∀ i, (itP S i).Sublist S
  | 0 => List.Sublist.refl _
  | i + 1 => by rw [itP_succ]; exact (pkN_subl _ _).trans (itP_subl S i)
theorem fix_of_no {S : List Int} (h : agN S 138 = false) : FixP S := fun k hk => (agN_no 138 h).2 k hk
end Go.Proofs.Ytepdcpbgdfjobaa.W8
namespace Go.Proofs.Ytepdcpbgdfjobaa.W8
open Go.RowKit Go.Shelf
set_option linter.unusedVariables false
set_option maxRecDepth 100000 in
set_option maxHeartbeats 1000000 in
theorem decode8_bad (raw : List UInt8) (m : Int) (ea : Option Addr) (el ec : Nat) (w : World) (hf : fitB raw m = false) (hl : raw.length ≤ 9223372036854775807) :
    Calls Try.prog 24 #[.string (str raw), .int .i64 m, .slice ea el ec] w fun e w' => e = .returned (.tuple #[.string (str []), .int .i64 0, .int .i64 1]) ∧ w = w' := by
  have hs := str_size raw
  have HF := Lib.hid (fun W => first_any m W)
  cases hb : fstB m with
  | false =>
    rw [hb] at HF
    clear hb hf
    go_enter Try.func24, Try.ntmps24
    go_wp2_with (refine (HF.out _).mono ?_; rintro e w' ⟨rfl, rfl⟩)
    refine bodyPost_ret (results_tmp3 rfl _ _ _) rfl ?_
    exact ⟨rfl, rfl⟩
  | true =>
    rw [hb] at HF
    have hn : raw.length ≠ 2352 := by
      intro h
      unfold fitB at hf
      rw [hb, h] at hf
      simp at hf
    have hd : ((raw.length : Int) != 2352) = true := by simp; omega
    have HN := Lib.hid hn
    clear hb hf hn
    go_enter Try.func24, Try.ntmps24
    go_wp2_with (refine (HF.out _).mono ?_; rintro e w' ⟨rfl, rfl⟩)
    refine bodyPost_ret (results_tmp3 rfl _ _ _) rfl ?_
    exact ⟨rfl, rfl⟩
theorem decode8_any (raw : List UInt8) (m : Int) (ev : Value) (l : List Int) (w : World) (hv : RdI w ev l) (hl : l.length ≤ 100000) (hr : raw.length ≤ 9223372036854775807) :
    Calls Try.prog 24 #[.string (str raw), .int .i64 m, ev] w (Dec8 raw m l w) := by
  cases hf : fitB raw m with
  | true => exact decode8_ok raw m ev l w hf hv hl
  | false =>
    obtain ⟨_, ⟨a, c, _, _, rfl, _⟩, _⟩ := hv
    refine (decode8_bad raw m a _ c w hf hr).mono ?_
    rintro e w' ⟨rfl, rfl⟩
    exact ⟨⟨([], 0, 1), rfl, .inl ⟨(fun h => by rw [hf] at h; cases h.1), rfl⟩⟩, Below.refl _ _⟩
theorem pass_good {c : List UInt8} {f : Int} (hc : Good c f) : (pass8 f c []).1 = c ∧ (pass8 f c []).2.1 = [] := by
  have h := Inv.pass hc (inv_self hc []) (fun x hx => by cases hx) nw (by rw [nw_eq]; exact Nat.le_refl _)
  have e : (pass8 f c []).2.1 = [] := by
    have h2 : (pass8 f c []).2.1 = pkN [] nw := h.2
    rw [h2]
    rcases hq : pkN ([] : List Int) nw with _ | ⟨x, r⟩
    · rfl
    · have := pkN_sub [] nw x (by rw [hq]; exact List.mem_cons_self ..)
      cases this
  have h1 : Inv c (pass8 f c []).1 (pass8 f c []).2.1 := h.1
  rw [e] at h1
  exact ⟨h1.done hc, e⟩
theorem it_good {c R : List UInt8} {S : List Int} {f : Int} (hc : Good c f) (h : (itS f R S 1) = (c, [])) : ∀ i, itS f R S (i + 1) = (c, [])
  | 0 => h
  | i + 1 => by
    rw [itS_succ, it_good hc h i]
    exact Prod.ext (pass_good hc).1 (pass_good hc).2
theorem it_peels {c R : List UInt8} {S : List Int} {f : Int} (hc : Good c f) (h : Inv c R S) (hf : 12 ≤ f) (hS : ∀ x ∈ S, f ≤ x ∧ x < 2352) (hP : ∀ j, j < 86 → (posS (wd j) S).length ≤ 2) : ∀ i, itS f R S (i + 1) = (c, []) := by
  refine it_good hc ?_
  have hp := Inv.pass hc h (fun x hx => (hS x hx).1) nw (by rw [nw_eq]; exact Nat.le_refl _)
  have e : (pass8 f R S).2.1 = [] := by
    have h2 : (pass8 f R S).2.1 = pkN S nw := hp.2
    rw [h2, nw_eq]
    exact pass_peels (fun x hx => by have := hS x hx; omega) hP
  have h1 : Inv c (pass8 f R S).1 (pass8 f R S).2.1 := hp.1
  rw [e] at h1
  rw [itS_succ]
  exact Prod.ext (h1.done hc) e
theorem good_sound {c : List UInt8} {f : Int} (hc : Good c f) : soundB c f = true := soundN_of' 138 (Nat.le_refl _) hc.word
where soundN_of' : ∀ k, k ≤ 138 → (∀ j, j < 138 → G.validB (takeL c (wd j) f) 2 = true) → soundN c f k = true
  | 0, _, _ => rfl
  | k + 1, hk, h => by rw [soundN, soundN_of' k (by omega) h, h k (by omega)]; rfl
theorem enc_good {raw : List UInt8} {f : Int} (hl : raw.length = 2352) (hf : f ≤ 16) : Good (encN raw f 138) f := ⟨by rw [encN_length]; exact hl, enc_words hl hf 138 (Nat.le_refl _)⟩
theorem decR_good {c R : List UInt8} {S : List Int} {f : Int} (hc : Good c f) (i : Nat) (h : itS f R S (i + 1) = (c, [])) : decR f R S i = (c, (G.allN c R 2352 : Int), 0) := by
  unfold decR
  rw [h, if_pos ⟨rfl, good_sound hc⟩]
theorem allN_comm (a b : List UInt8) : ∀ n, G.allN a b n = G.allN b a n
  | 0 => rfl
  | n + 1 => by
    rw [G.allN, G.allN, allN_comm a b n]
    congr 1
    by_cases e : G.ix a n = G.ix b n
    · rw [if_pos e, if_pos e.symm]
    · rw [if_neg e, if_neg (Ne.symm e)]
theorem fst_12 {m : Int} (h : fstB m = true) : fstI m = 12 ∨ fstI m = 16 := by
  unfold fstB at h
  simp only [Bool.or_eq_true, decide_eq_true_eq] at h
  unfold fstI
  rcases h with h | h
  · left; rw [if_pos h]
  · subst h; right; rfl
theorem run_sfrom {P : Program} {t : TypeId} (ht : P.underlying t = some .string) (l : List UInt8) (k : Nat) (hk : k ≤ l.length) (x : Int) (hx : x = k) (w : World) : (Instr.slice t (.string (str l)) (some (.int .i64 x)) none none).run P w = .ok (.string (str (l.drop k))) w := by
  subst hx
  have hs := str_size l
  have he : (str l).extract k l.length = str (l.drop k) := by
    unfold str
    ext1
    simp [ByteArray.extract, ByteArray.copySlice]
    try exact List.take_of_length_le (by simp)
  simp [Instr.slice, run_underlying ht, Instr.sliceBounds, run_sliceBound, hs, hk, he]
theorem run_sto {P : Program} {t : TypeId} (ht : P.underlying t = some .string) (l : List UInt8) (k : Nat) (hk : k ≤ l.length) (x : Int) (hx : x = k) (w : World) : (Instr.slice t (.string (str l)) none (some (.int .i64 x)) none).run P w = .ok (.string (str (l.take k))) w := by
  subst hx
  have hs := str_size l
  have he : (str l).extract 0 k = str (l.take k) := by
    unfold str
    ext1
    simp [ByteArray.extract, ByteArray.copySlice]
  simp [Instr.slice, run_underlying ht, Instr.sliceBounds, run_sliceBound, hs, hk, he]
set_option maxRecDepth 100000 in
set_option maxHeartbeats 2000000 in
theorem rrepeat_any (c : UInt8) (n : Nat) (x y : Int) (w : World) (hx : x = c.toNat) (hy : y = n) (hn : n ≤ 1000000) :
    Calls Try.prog 23 #[.int .u8 x, .int .i64 y] w fun e w' => e = .returned (.string (str (List.replicate n c))) ∧ Below w.heap.size w w' := by
  subst hx hy
  go_enter Try.func23, Try.ntmps23
  go_wp2_with fail
  have ho0 : (w.alloc (.cells #[] 5)).ownsRow w.heap.size 5 1 (.slice (some ⟨w.heap.size, 0, none⟩) 0 0) 0 (bs (List.replicate 0 c)) := World.ownsRow_lit w #[] 0 (Nat.le_refl _) (by simp) (by simp)
  have hb0 : Below w.heap.size w (w.alloc (.cells #[] 5)) := (Below.refl _ _).alloc (Nat.le_refl _) _
  go_loopw [5, 6] (fun vo vk wr => ∃ k : Nat, k ≤ n ∧ vk = .int .i64 k ∧ wr.ownsRow w.heap.size 5 1 vo k (bs (List.replicate k c)) ∧ Below w.heap.size w wr) (fun _ vk _ => n - (intOf vk).toNat)
  case atStart => exact ⟨0, by omega, rfl, ho0, hb0⟩
  case round =>
    clear ho0 hb0
    obtain ⟨k, hk, rfl, ho, hb⟩ := hrel
    by_cases hlt : k < n
    · have hbs := hb.size
      have hlt' : (k : Int) < n := by omega
      have ho6 := own_keep' ho ((Below.refl wr.heap.size wr).alloc (Nat.le_refl _) (.cells #[B c] 5))
      have hrd1 : Rd (wr.alloc (.cells #[B c] 5)) (.slice (some ⟨wr.heap.size, 0, none⟩) 1 1) [c] := Rd.ofOwn' (World.ownsRow_lit wr #[B c] 1 (Nat.le_refl _) (by simp [maxLen]) (by simp)) (by simp)
      have hb6 := hb.alloc hbs (.cells #[B c] 5)
      have hb6s := hb6.size
      clear ho hb
      go_wp2_with (refine wpList_appB rfl _ _ rfl Try.underlying43 Try.infoU8 ho6 rfl hrd1 rfl (by simp; omega) hb6s ?_; intro v7 w7 hown7 hgr7 _)
      have hb7 := hb6.grown hgr7 hb6s (ownBlock_ge' ho6)
      have hown8 : w7.ownsRow w.heap.size 5 1 v7 (k + 1) (bs (List.replicate (k + 1) c)) := by rw [List.replicate_succ']; exact hown7
      clear hb6 ho6 hrd1 hgr7 hown7
      go_roundw
      case rel => exact ⟨k + 1, by omega, by go_num, hown8, hb7⟩
      case measure => simp [intOf]; omega
    · obtain rfl : k = n := by omega
      have hrd : Rd wr u5 (List.replicate k c) := Rd.ofOwn' ho (by omega)
      obtain ⟨a3, c3, rfl⟩ := hrd.form
      have hcx := run_str (P := Try.prog) Try.underlying43 Try.underlying5 Try.underlying9 hrd
      rw [List.length_replicate] at hcx
      rw [List.length_replicate]
      clear ho hrd
      go_wp2_with fail
      go_ret
      exact ⟨rfl, hb⟩
end Go.Proofs.Ytepdcpbgdfjobaa.W8
namespace Go.Proofs.Ytepdcpbgdfjobaa.W8
open Go.RowKit Go.Shelf
set_option linter.unusedVariables false
def RowI (w : World) (e g cap : Nat) (l : List Int) : Prop :=
  ∃ cur : Array Value, w.heap[g]? = some (.cells cur e (0, 0)) ∧ l.length ≤ cap ∧ cur.size = cap ∧ cur.toList.take l.length = is l
section
variable {w : World} {e g cap : Nat} {l : List Int}
theorem RowI.lt (h : RowI w e g cap l) : g < w.heap.size := by
  obtain ⟨cur, hg, _⟩ := h
  exact (Array.getElem?_eq_some_iff.1 hg).1
theorem RowI.le (h : RowI w e g cap l) : l.length ≤ cap := by
  obtain ⟨cur, hg, hl, _⟩ := h
  exact hl
theorem RowI.cell (h : RowI w e g cap l) (j : Nat) (hj : j < l.length) : w.cell? ⟨g, j, none⟩ = some (.int .i64 (ixI l j)) := by
  obtain ⟨cur, hg, hl, hs, ht⟩ := h
  rw [cell_of_row w g j cur e _ hg, ← is_get hj, ← ht, List.getElem?_take, if_pos hj]
  simp
theorem RowI.frozen (h : RowI w e g cap l) (j : Nat) : w.frozen? ⟨g, j, none⟩ = false := by
  obtain ⟨cur, hg, hl, hs, ht⟩ := h
  simp only [World.frozen?, hg, Bool.and_eq_false_iff, decide_eq_false_iff_not]
  right; omega
theorem RowI.store (h : RowI w e g cap l) (j : Nat) (c : Int) (hj : j < l.length) : RowI (w.setCell ⟨g, j, none⟩ (.int .i64 c)) e g cap (l.set j c) := by
  obtain ⟨cur, hg, hl, hs, ht⟩ := h
  refine ⟨cur.setIfInBounds j (.int .i64 c), ?_, by simpa using hl, by simpa using hs, ?_⟩
  · rw [setCell_eq_setRow w g j cur e _ (.int .i64 c) hg]
    exact setRow_heap w g cur _ e _ hg
  · rw [Array.toList_setIfInBounds, List.length_set, List.take_set, ht]
    simp [is, List.map_set]
theorem RowI.keep {w' : World} (h : RowI w e g cap l) (hk : w'.heap[g]? = w.heap[g]?) : RowI w' e g cap l := by
  obtain ⟨cur, hg, r⟩ := h
  exact ⟨cur, hk.trans hg, r⟩
theorem RowI.of_own {base n : Nat} (h : w.ownsRow base e 1 (.slice (some ⟨g, 0, none⟩) n cap) n (is l)) : RowI w e g cap l ∧ n = l.length ∧ base ≤ g := by
  have hl : l.length = n := by have := h.1; simpa [is_length] using this
  rcases h.2 with ⟨h', _⟩ | ⟨g', cap', cur, h', hb, hg, hn, hm, hs, ht⟩
  · simp at h'
  · simp only [Value.slice.injEq, Option.some.injEq, Addr.mk.injEq, and_true, true_and] at h'
    obtain ⟨rfl, rfl⟩ := h'
    exact ⟨⟨cur, hg, by omega, by simpa using hs, by rw [hl]; simpa using ht⟩, hl.symm, hb⟩
end
def keepL (S l : List Int) : List Int := l.filter fun x => S.contains x
theorem keepL_le (S l : List Int) : (keepL S l).length ≤ l.length := List.length_filter_le _ _
theorem keepL_snoc (S l : List Int) (x : Int) : keepL S (l ++ [x]) = if S.contains x = true then keepL S l ++ [x] else keepL S l := by
  unfold keepL
  rw [List.filter_append]
  by_cases h : S.contains x = true
  · rw [if_pos h]; simp only [List.filter_cons, h, if_true, List.filter_nil]
  · rw [if_neg h]; simp only [List.filter_cons, h, List.filter_nil]; simp
theorem keepL_all {S l : List Int} (h : ∀ t, t < l.length → S.contains (ixI l t) = true) : keepL S l = l := by
  unfold keepL
  rw [List.filter_eq_self]
  intro x hx
  obtain ⟨t, ht, rfl⟩ := List.getElem_of_mem hx
  rw [← ixI_get ht]
  exact h t ht
theorem keepL_first {S l : List Int} {k : Nat} (hk : k < l.length) (h : ∀ t, t < k → S.contains (ixI l t) = true) (hx : S.contains (ixI l k) = false) : keepL S (l.take (k + 1)) = l.take k := by
  rw [take_snocI l k hk, keepL_snoc, hx, if_neg (by decide)]
  refine keepL_all fun t ht => ?_
  rw [List.length_take] at ht
  rw [ixI_take (by omega)]
  exact h t (by omega)
def PB (w : World) (b8 mb n : Nat) (S : List Int) : Prop := Bx w b8 44 [.map (some mb)] ∧ MS w mb n S
set_option maxRecDepth 100000 in
theorem peel1_any (b8 mb n : Nat) (S : List Int) (x : Int) (w : World) (h : PB w b8 mb n S) (h1 : -9223372036854775808 ≤ x) (h2 : x ≤ 9223372036854775807) :
    Calls Try.prog 50 #[.int .i64 x, .pointer (some ⟨b8, 0, none⟩)] w fun e w' => e = .returned (.bool (!S.contains x)) ∧ w = w' := by
  have hc := h.1.cell (i := 0) rfl
  have hlook := h.2.run x h1 h2
  clear h
  generalize S.contains x = c at hlook
  go_enter Try.func50, Try.ntmps50
  go_wp2_with fail
  go_ret
  exact ⟨rfl, rfl⟩
def IdxP (S l : List Int) (r : Int) : Prop := (r = -1 ∧ ∀ t, t < l.length → S.contains (ixI l t) = true) ∨ ∃ k : Nat, r = k ∧ k < l.length ∧ (∀ t, t < k → S.contains (ixI l t) = true) ∧ S.contains (ixI l k) = false
set_option maxRecDepth 100000 in
set_option maxHeartbeats 2000000 in
theorem indexf_any (v : Value) (l : List Int) (b8 mb n : Nat) (S : List Int) (w : World) (hv : RdI w v l) (h : PB w b8 mb n S) :
    Calls Try.prog 71 #[v, .func (.func 50) #[] #[.pointer (some ⟨b8, 0, none⟩)]] w fun e w' => ∃ r : Int, e = .returned (.int .i64 r) ∧ IdxP S l r ∧ w = w' := by
  obtain ⟨h0, ⟨a, cap, b, off, rfl, hcap, hcell⟩, hrng⟩ := hv
  have HC := Lib.hid hcell; clear hcell
  have HP := Lib.hid (fun k (hk : k < l.length) => peel1_any b8 mb n S (ixI l k) w h (hrng k hk).1 (hrng k hk).2)
  clear hrng h
  go_enter Try.func71, Try.ntmps71
  go_wp2_with fail
  go_loop [8] (fun vk => ∃ k : Nat, k ≤ l.length ∧ vk = .int .i64 k ∧ Hid (∀ i, i < k → S.contains (ixI l i) = true)) (fun vk => l.length - (intOf vk).toNat)
  case atStart => exact ⟨0, by omega, rfl, Lib.hid (fun i h => by omega)⟩
  case round =>
    obtain ⟨k, hk, rfl, hz⟩ := hrel
    by_cases hlt : k < l.length
    · obtain ⟨ha, hcp⟩ := HC.out k hlt
      have hix := run_idx (P := Try.prog) Try.underlying24 Try.sizeInt (cap := cap) ha hlt _ rfl w
      have Ha := Lib.hid ha; clear ha
      have HQ := Lib.hid (HP.out k hlt)
      obtain ⟨y, hy⟩ : ∃ y, y = ixI l k := ⟨_, rfl⟩
      rw [← hy] at hcp HQ
      have Hy := Lib.hid hy; clear hy
      cases hc : S.contains y with
      | true =>
        rw [hc] at HQ
        have Hc := Lib.hid hc; clear hc
        go_wp2_with fail
        refine HQ.out.mono ?_
        rintro e w' ⟨rfl, rfl⟩
        go_wp2_with fail
        go_round
        case rel =>
          refine ⟨k + 1, by omega, by go_num, Lib.hid fun i hi => ?_⟩
          by_cases e : i = k
          · rw [e, ← Hy.out]; exact Hc.out
          · exact hz.out i (by omega)
        case measure => simp [intOf]; omega
      | false =>
        rw [hc] at HQ
        have Hc := Lib.hid hc; clear hc
        go_wp2_with fail
        refine HQ.out.mono ?_
        rintro e w' ⟨rfl, rfl⟩
        go_wp2_with fail
        go_ret
        exact ⟨_, rfl, .inr ⟨k, rfl, hlt, hz.out, by rw [← Hy.out]; exact Hc.out⟩, rfl⟩
    · obtain rfl : k = l.length := by omega
      go_wp2_with fail
      go_ret
      exact ⟨_, rfl, .inl ⟨rfl, hz.out⟩, rfl⟩
theorem grow_sets {w : World} {g : Nat} : ∀ (vs : List Value) (o : Nat) (W : World), w.grownBy W (some g) → w.grownBy (W.setCells g o vs) (some g)
  | [], _, _, h => h
  | v :: r, o, W, h => grow_sets r (o + 1) _ (grow_set h o v)
def Dk (S l L : List Int) (i j : Nat) : Prop := L.length = l.length ∧ i = (keepL S (l.take j)).length ∧ (∀ t, t < i → ixI L t = ixI (keepL S (l.take j)) t) ∧ ∀ t, j ≤ t → t < l.length → ixI L t = ixI l t
theorem Dk.no {S l L : List Int} {i j : Nat} (h : Dk S l L i j) (hj : j < l.length) (hc : S.contains (ixI l j) = false) : Dk S l L i (j + 1) := by
  obtain ⟨h1, h2, h3, h4⟩ := h
  have e : keepL S (l.take (j + 1)) = keepL S (l.take j) := by rw [take_snocI l j hj, keepL_snoc, hc, if_neg (by decide)]
  exact ⟨h1, by rw [e]; exact h2, by rw [e]; exact h3, fun t ht hl => h4 t (by omega) hl⟩
theorem ixI_set (l : List Int) (k i : Nat) (c : Int) (h : k < l.length) : ixI (l.set k c) i = if i = k then c else ixI l i := by
  unfold ixI
  rw [List.getD_eq_getElem?_getD, List.getD_eq_getElem?_getD, List.getElem?_set]
  by_cases e : i = k
  · subst e; rw [if_pos rfl, if_pos rfl, if_pos h]; rfl
  · rw [if_neg e, if_neg (Ne.symm e)]
theorem Dk.yes {S l L : List Int} {i j : Nat} (h : Dk S l L i j) (hij : i < j) (hj : j < l.length) (hc : S.contains (ixI l j) = true) : Dk S l (L.set i (ixI l j)) (i + 1) (j + 1) := by
  obtain ⟨h1, h2, h3, h4⟩ := h
  have e : keepL S (l.take (j + 1)) = keepL S (l.take j) ++ [ixI l j] := by rw [take_snocI l j hj, keepL_snoc, hc, if_pos rfl]
  refine ⟨by rw [List.length_set]; exact h1, by rw [e, List.length_append, h2]; rfl, fun t ht => ?_, fun t ht hl => ?_⟩
  · rw [ixI_set _ _ _ _ (by omega), e]
    by_cases e2 : t = i
    · subst e2
      rw [if_pos rfl, h2, ixI_last]
    · rw [if_neg e2, ixI_append (by omega), h3 t (by omega)]
  · rw [ixI_set _ _ _ _ (by omega), if_neg (by omega), h4 t (by omega) hl]
set_option maxRecDepth 100000 in
set_option maxHeartbeats 4000000 in
theorem delfunc_any (g cap n b8 mb n0 : Nat) (S l : List Int) (w : World) (hr : RowI w 3 g cap l) (hn : l.length = n) (hl : n ≤ 100000) (hb : ∀ x ∈ l, -9223372036854775808 ≤ x ∧ x ≤ 9223372036854775807) (h : PB w b8 mb n0 S) (hg8 : g ≠ b8) (hgm : g ≠ mb) :
    Calls Try.prog 48 #[.slice (some ⟨g, 0, none⟩) n cap, .func (.func 50) #[] #[.pointer (some ⟨b8, 0, none⟩)]] w fun e w' => ∃ v, e = .returned v ∧ RdI w' v (keepL S l) ∧ w.grownBy w' (some g) := by
  have hrd : RdI w (.slice (some ⟨g, 0, none⟩) n cap) l := ⟨by omega, ⟨_, cap, g, 0, by rw [hn], hr.le, fun i hi => ⟨rfl, by rw [Nat.zero_add]; exact hr.cell i hi⟩⟩, fun i hi => hb _ (ixI_mem hi)⟩
  have HI := Lib.hid (indexf_any _ l b8 mb n0 S w hrd h)
  have HP : Hid (∀ W, w.grownBy W (some g) → ∀ j, j < n → Calls Try.prog 50 #[.int .i64 (ixI l j), .pointer (some ⟨b8, 0, none⟩)] W fun e w' => e = .returned (.bool (!S.contains (ixI l j))) ∧ W = w') := Lib.hid fun W hW j hj =>
    peel1_any b8 mb n0 S (ixI l j) W ⟨(hW.5 b8 (Bx.lt h.1) (fun e => by have := Option.some.inj e; omega)).trans h.1, h.2.kept (hW.5 mb h.2.lt (fun e => by have := Option.some.inj e; omega))⟩ (hb _ (ixI_mem (by omega))).1 (hb _ (ixI_mem (by omega))).2
  have hncap : n ≤ cap := by rw [← hn]; exact hr.le
  have HRd := Lib.hid hrd; have HR := Lib.hid hr; have HN := Lib.hid hn; have HB := Lib.hid hb
  clear hrd hr hn hb h
  go_enter Try.func48, Try.ntmps48
  go_wp2_with fail
  refine HI.out.mono ?_
  rintro e w' ⟨r, rfl, (⟨rfl, hall⟩ | ⟨k, rfl, hk, hbefore, hno⟩), rfl⟩
  · have HA : Hid (keepL S l = l) := Lib.hid (keepL_all hall)
    clear hall
    go_wp2_with fail
    go_ret
    exact ⟨_, rfl, by rw [HA.out]; exact HRd.out, World.grownBy.refl _ _⟩
  · have hk2 : k < n := by rw [← HN.out]; exact hk
    have HD0 : Hid (Dk S l l k (k + 1)) := Lib.hid (by
      have e := keepL_first hk hbefore hno
      refine ⟨rfl, by rw [e, List.length_take]; omega, fun t ht => by rw [e, ixI_take ht], fun t _ _ => rfl⟩)
    have hr0 := HR.out
    clear hbefore hno hk
    go_wp2_with fail
    go_loopw [5, 6] (fun vi vj wr => ∃ (i j : Nat) (L : List Int), vi = .int .i64 i ∧ vj = .int .i64 j ∧ i < j ∧ j ≤ n ∧ Hid (Dk S l L i j) ∧ RowI wr 3 g cap L ∧ w.grownBy wr (some g)) (fun _ vj _ => n - (intOf vj).toNat)
    case atStart => exact ⟨k, k + 1, l, rfl, by go_num, by omega, by omega, HD0, hr0, World.grownBy.refl _ _⟩
    case round =>
      clear hr0
      obtain ⟨i, j, L, rfl, rfl, hij, hj, HD, hr, hg⟩ := hrel
      have hLl : L.length = n := HD.out.1.trans HN.out
      by_cases hlt : j < n
      · have hlt' : (j : Int) < n := by omega
        have hc := hr.cell j (by omega)
        rw [HD.out.2.2.2 j (Nat.le_refl _) (by rw [HN.out]; exact hlt)] at hc
        have hix := run_idx (P := Try.prog) (a := some ⟨g, 0, none⟩) (off := 0) (b := g) (n := n) (cap := cap) (k := j) Try.underlying24 Try.sizeInt rfl hlt _ rfl wr
        have hix2 := run_idx (P := Try.prog) (a := some ⟨g, 0, none⟩) (off := 0) (b := g) (n := n) (cap := cap) (k := i) Try.underlying24 Try.sizeInt rfl (by omega) _ rfl wr
        rw [Nat.zero_add] at hix hix2
        have HC := Lib.hid (HP.out wr hg j hlt)
        have hf := hr.frozen i
        have hci := hr.cell i (by omega)
        have hjl : j < l.length := by rw [HN.out]; exact hlt
        cases hcc : S.contains (ixI l j) with
        | false =>
          have HD2 := Lib.hid (HD.out.no hjl hcc)
          rw [hcc] at HC
          clear hcc
          generalize ixI l j = y at *
          go_wp2_with fail
          refine HC.out.mono ?_
          rintro e w' ⟨rfl, rfl⟩
          go_wp2_with fail
          go_roundw
          case rel =>
            refine ⟨_, _, _, _, _, _, _, _, _, _, _, _, _, _, _, _, _, _, _, _, _, _, _, ?_, rfl⟩
            exact ⟨i, j + 1, L, rfl, by go_num, by omega, by omega, HD2, hr, hg⟩
          case measure => simp [intOf]; omega
        | true =>
          have HD2 := Lib.hid (HD.out.yes hij hjl hcc)
          have HSt := Lib.hid (hr.store i (ixI l j) (by omega))
          have HGt := Lib.hid (grow_set hg i (.int .i64 (ixI l j)))
          rw [hcc] at HC
          clear hcc
          generalize ixI l j = y at *
          go_wp2_with fail
          refine HC.out.mono ?_
          rintro e w' ⟨rfl, rfl⟩
          clear hr hg
          go_wp2_with fail
          go_roundw
          case rel =>
            refine ⟨_, _, _, _, _, _, _, _, _, _, _, _, _, _, _, _, _, _, _, _, _, _, _, ?_, rfl⟩
            exact ⟨i + 1, j + 1, _, by go_num, by go_num, by omega, by omega, HD2, HSt.out, HGt.out⟩
          case measure => simp [intOf]; omega
      · obtain rfl : j = n := by omega
        have hin : i < j := hij
        have hif : Hid (i = (keepL S l).length ∧ ∀ t, t < i → ixI L t = ixI (keepL S l) t) := Lib.hid (by
          have e : l.take j = l := List.take_of_length_le (by rw [HN.out]; exact Nat.le_refl _)
          have h2 := HD.out.2.1; have h3 := HD.out.2.2.1
          rw [e] at h2 h3
          exact ⟨h2, h3⟩)
        have hcl : ∀ ty, (Builtin.clear_ #[24] ty #[.slice (some ⟨g, i, none⟩) (j - i) (cap - i)]).run Try.prog wr = .ok (.tuple #[]) (wr.setCells g i (List.replicate (j - i) (.int .i64 0))) := fun ty =>
          Lib.run_clear_slice wr _ _ ty _ Try.underlying24 (fun _ => by kernel_rfl) rfl rfl g i _ _ (by omega) (fun t ht => by rw [hr.cell (i + t) (by omega)]; rfl) (fun t ht => hr.frozen _)
        have HEnd : Hid (RdI (wr.setCells g i (List.replicate (j - i) (.int .i64 0))) (.slice (some ⟨g, 0, none⟩) i cap) (keepL S l) ∧ w.grownBy (wr.setCells g i (List.replicate (j - i) (.int .i64 0))) (some g)) := Lib.hid (by
          have hki := hif.out.1
          refine ⟨⟨by omega, ⟨_, cap, g, 0, by rw [hif.out.1], by omega, fun t ht => ⟨rfl, ?_⟩⟩, fun t ht => ?_⟩, grow_sets _ _ _ hg⟩
          · rw [Nat.zero_add, World.cell?_setCells_out _ _ _ _ _ (fun _ _ => .inl (by show t < i; omega)), hr.cell t (by omega), hif.out.2 t (by omega)]
          · exact HB.out _ (List.mem_filter.1 (ixI_mem ht)).1)
        clear hr hg
        go_wp2_with fail
        go_ret
        exact ⟨_, rfl, HEnd.out.1, HEnd.out.2⟩
end Go.Proofs.Ytepdcpbgdfjobaa.W8
namespace Go.Proofs.Ytepdcpbgdfjobaa.W8
open Go.RowKit Go.Shelf
set_option linter.unusedVariables false
theorem pk_low {R : List UInt8} {ws : List Int} {f : Int} {s : List UInt8} {x : Nat} (hx : (x : Int) < f) : ∀ k, G.ix (pkL R ws f s k) x = G.ix R x
  | 0 => rfl
  | k + 1 => by
    unfold pkL
    split
    · exact pk_low hx k
    · rw [ix_set_ne _ _ (by omega)]
      exact pk_low hx k
theorem passS_low {f : Int} {st : List UInt8 × List Int × Bool} {k : Nat} {x : Nat} (hx : (x : Int) < f) : G.ix (passS f st k).1 x = G.ix st.1 x := by
  unfold passS
  dsimp only
  split
  · exact pk_low hx _
  · rfl
theorem passN_low {f : Int} {raw : List UInt8} {S : List Int} {x : Nat} (hx : (x : Int) < f) : ∀ k, G.ix (passN f raw S k).1 x = G.ix raw x
  | 0 => rfl
  | k + 1 => by rw [passN, passS_low hx, passN_low hx k]
theorem itS_low {f : Int} {raw : List UInt8} {S : List Int} {x : Nat} (hx : (x : Int) < f) : ∀ i, G.ix (itS f raw S i).1 x = G.ix raw x
  | 0 => rfl
  | i + 1 => by
    rw [itS_succ]
    show G.ix (passN f _ _ nw).1 x = _
    rw [passN_low hx, itS_low hx i]
theorem take_same {a b : List UInt8} (hl : a.length = b.length) {n : Nat} (hn : n ≤ a.length) (h : ∀ x, x < n → G.ix a x = G.ix b x) : a.take n = b.take n := by
  refine G.ext_ix (by simp; omega) fun x hx => ?_
  have h1 : x < n := by rw [List.length_take] at hx; omega
  rw [ix_take h1, ix_take h1]
  exact h x h1
def SndQ (raw : List UInt8) (m : Int) (r : List UInt8 × Int × Int) : Prop :=
  (r.1 = [] ∧ r.2.1 = 0 ∧ r.2.2 ≠ 0) ∨ (raw.length = 2352 ∧ r.1.length = 2352 ∧ vldB r.1 m = true ∧ r.1.take 12 = raw.take 12 ∧ (m = 1 → r.1.take 16 = raw.take 16) ∧ r.2.1 = (G.allN r.1 raw 2352 : Int) ∧ r.2.2 = 0)
theorem dec_sound {raw : List UInt8} {m : Int} {l : List Int} {w w' : World} {e : Ending} (h : Dec8 raw m l w e w') :
    (∃ r : List UInt8 × Int × Int, e = .returned (.tuple #[.string (str r.1), .int .i64 r.2.1, .int .i64 r.2.2]) ∧ SndQ raw m r) ∧ Below w.heap.size w w' := by
  obtain ⟨⟨r, he, hr⟩, hb⟩ := h
  refine ⟨⟨r, he, ?_⟩, hb⟩
  rcases hr with ⟨_, rfl⟩ | ⟨⟨hfit, _⟩, i, _, rfl⟩
  · exact .inl ⟨rfl, rfl, by decide⟩
  · unfold decR
    obtain ⟨hm, hlen⟩ := fit_fst hfit
    have hl2 := itS_length (fstI m) raw l (i + 1)
    rw [hlen] at hl2
    split
    next hc =>
      have h12 : 12 ≤ fstI m := by rcases fst_12 hm with h | h <;> omega
      refine .inr ⟨hlen, hl2, ?_, take_same (by rw [hl2, hlen]) (by rw [hl2]; omega) (fun x hx => itS_low (by omega) _), fun h1 => take_same (by rw [hl2, hlen]) (by rw [hl2]; omega) (fun x hx => itS_low (by subst h1; show (x : Int) < 16; omega) _), rfl, rfl⟩
      unfold vldB
      rw [hm, hc.2]
      simp [hl2]
    next => exact .inl ⟨rfl, rfl, by decide⟩
theorem keep_mem {S l : List Int} (h : ∀ x ∈ S, x ∈ l) (x : Int) : x ∈ keepL S l ↔ x ∈ S := by
  unfold keepL
  rw [List.mem_filter, List.contains_iff_mem]
  exact ⟨fun h => h.2, fun hx => ⟨h x hx, hx⟩⟩
theorem posN8_congr {ws S T : List Int} (h : ∀ x, x ∈ S ↔ x ∈ T) : ∀ k, posN8 ws S k = posN8 ws T k
  | 0 => rfl
  | k + 1 => by
    have e : S.contains (ixI ws k) = T.contains (ixI ws k) := by
      rw [Bool.eq_iff_iff, List.contains_iff_mem, List.contains_iff_mem]
      exact h _
    rw [posN8, posN8, posN8_congr h k, e]
theorem fix_count {S l : List Int} (hS : ∀ x ∈ S, x ∈ l) (hF : FixP S) {k : Nat} (hk : k < 138) : (posN8 (wd k) (keepL S l) (wd k).length).length ≠ 1 ∧ (posN8 (wd k) (keepL S l) (wd k).length).length ≠ 2 := by
  rw [posN8_congr (keep_mem hS)]
  have h := hF k hk
  unfold agS posS at h
  rw [Bool.and_eq_false_iff, decide_eq_false_iff_not, decide_eq_false_iff_not] at h
  omega
theorem ers_sorted {f : Int} {l : List Int} (h : ersB f l = true) : l.Pairwise (· ≤ ·) := by
  rw [List.pairwise_iff_getElem]
  intro i j hi hj hij
  have := ersN_lt h j i hij hj
  rw [ixI_get hi, ixI_get hj] at this
  omega
theorem keep_sorted {f : Int} {S l : List Int} (h : ersB f l = true) : (keepL S l).Pairwise (· ≤ ·) := (ers_sorted h).sublist List.filter_sublist
end Go.Proofs.Ytepdcpbgdfjobaa.W8
namespace Go.Proofs.Ytepdcpbgdfjobaa.W8
open Go.RowKit Go.Shelf
set_option linter.unusedVariables false
set_option maxRecDepth 100000 in
set_option maxHeartbeats 1000000 in
theorem bsearch_nil (a : Option Addr) (c : Nat) (x : Int) (w : World) : Calls Try.prog 28 #[.slice a 0 c, .int .i64 x] w fun e w' => (∃ p : Int, e = .returned (.tuple #[.int .i64 p, .bool false])) ∧ w = w' := by
  go_enter Try.func28, Try.ntmps28
  go_wp2_with fail
  go_loopw [7, 8] (fun vi vj wr => vi = .int .i64 0 ∧ vj = .int .i64 0 ∧ wr = w) (fun _ _ _ => 0)
  case atStart => exact ⟨rfl, rfl, rfl⟩
  case round =>
    obtain ⟨rfl, rfl, rfl⟩ := hrel
    have hd0 : decide ((0 : Int) < 0) = false := by decide
    go_wp2_with fail
    go_ret2
    exact ⟨⟨0, rfl⟩, rfl⟩
theorem bsearch_any (v : Value) (l : List Int) (x : Int) (w : World) (hv : RdI w v l) (hl : l.length ≤ 100000) (hs : l.Pairwise (· ≤ ·)) :
    Calls Try.prog 28 #[v, .int .i64 x] w fun e w' => (∃ p : Int, e = .returned (.tuple #[.int .i64 p, .bool (l.contains x)])) ∧ Below w.heap.size w w' := by
  obtain ⟨h0, ⟨a, cap, b, off, rfl, hcap, hcell⟩, hrng⟩ := hv
  rcases Nat.eq_zero_or_pos l.length with hz | hpos
  · have e : l = [] := List.length_eq_zero_iff.1 hz
    subst e
    refine (bsearch_nil a cap x w).mono ?_
    rintro e w' ⟨⟨p, rfl⟩, rfl⟩
    exact ⟨⟨p, rfl⟩, Below.refl _ _⟩
  · obtain ⟨rfl, _⟩ := hcell 0 hpos
    refine (Try.slices_BinarySearch_int b off l.length cap l x w (Nat.le_refl _) (by omega) (fun j hj => (hcell j hj).2) (by rw [List.take_length]; exact hs)).mono ?_
    rintro e w' ⟨rfl, q, rfl⟩
    rw [List.take_length]
    exact ⟨⟨_, rfl⟩, Below.drewN (Below.refl _ _) q⟩
end Go.Proofs.Ytepdcpbgdfjobaa.W8
namespace Go.Proofs.Ytepdcpbgdfjobaa.W8
open Go.RowKit Go.Shelf
set_option linter.unusedVariables false
attribute [local go_sem] Oper.semAt_some
def Mk (B B1 : Nat) (w : World) (ds : List Deferred) : Prop := ∃ Ds : List Nat, ds = Ds.map (fun D => { target := .collected D, args := #[] }) ∧ Ds.Nodup ∧ ∀ D ∈ Ds, B ≤ D ∧ D < B1 ∧ w.heap[D]? = some (.deferred (some []))
def PeelP (m : Int) (l : List Int) (w : World) (e : Ending) (w' : World) : Prop :=
  ((¬ (fstB m = true ∧ ersB (fstI m) l = true) ∧ e = .returned (.tuple #[.slice none 0 0, .int .i64 1])) ∨
   ((fstB m = true ∧ ersB (fstI m) l = true) ∧ ∃ (v : Value) (i : Nat), e = .returned (.tuple #[v, .int .i64 0]) ∧ RdI w' v (keepL (itP l i) l) ∧ FixP (itP l i))) ∧ Below w.heap.size w w'
theorem cell_cells {w : World} {b o : Nat} {v : Value} (h : w.cell? ⟨b, o, none⟩ = some v) {x : Option (List Deferred)} (hk : w.heap[b]? = some (.deferred x)) : False := by
  simp [World.cell?, hk] at h
theorem rdI_put {W : World} {v : Value} {l : List Int} {D : Nat} {x : Option (List Deferred)} (h : RdI W v l) (hk : W.heap[D]? = some (.deferred x)) (o : Obj) : RdI (W.putObj D o) v l := by
  obtain ⟨h0, ⟨a, cap, b, off, e, hc, hcell⟩, hr⟩ := h
  refine ⟨h0, ⟨a, cap, b, off, e, hc, fun i hi => ⟨(hcell i hi).1, ?_⟩⟩, hr⟩
  have h2 := (hcell i hi).2
  have hne : b ≠ D := fun e => by subst e; exact cell_cells h2 hk
  exact (World.cell?_of_block (World.putObj_heap_other hne)).trans h2
theorem leaves_marks {F : Fence} {n : Nat} {P : Program} {fn : Func} {tmps : Array Value} {R : Ending → World → Prop} {v : Value} {l : List Int} {n0 : Nat} {w0 : World} (hn : n0 ≤ w0.heap.size)
    (hend : ∀ W, RdI W v l → Below n0 w0 W → LeavesInM F n P fn tmps R [] .returning W) : ∀ (Ds : List Nat) (W : World), Ds.Nodup → (∀ D ∈ Ds, n0 ≤ D ∧ W.heap[D]? = some (.deferred (some []))) → RdI W v l → Below n0 w0 W →
    LeavesInM F n P fn tmps R (Ds.map fun D => { target := .collected D, args := #[] }) .returning W
  | [], W, _, _, hv, hb => hend W hv hb
  | D :: Ds, W, hnd, hD, hv, hb => by
    obtain ⟨h1, hK⟩ := hD D (List.mem_cons_self ..)
    have hn2 := List.nodup_cons.1 hnd
    refine ⟨by simp, .inl ⟨D, _, rfl, run_takeDeferred hK, ?_⟩⟩
    refine leaves_marks hn hend Ds _ hn2.2 (fun D' hD' => ?_) (rdI_put hv hK _) ((stays_below hn (Nat.le_refl _)).putObj (.deferred none) hb h1 hK rfl)
    obtain ⟨h3, h4⟩ := hD D' (List.mem_cons_of_mem _ hD')
    exact ⟨h3, (World.putObj_heap_other (fun e => hn2.1 (by rw [← e]; exact hD'))).trans h4⟩
structure PeS (W : World) (b8 b9 mb n0 B0 B1 : Nat) (S : List Int) (c : Bool) (ds : List Deferred) (w : World) : Prop where
  x8 : Bx W b8 44 [.map (some mb)]
  x9 : Bx W b9 4 [.bool c]
  ms : MS W mb n0 S
  mks : Mk (b8 + 1) B1 W ds
  bl : Below B0 w W
theorem Mk.kept {B B1 B2 : Nat} {W W' : World} {ds : List Deferred} (h : Mk B B1 W ds) (hk : ∀ D, B ≤ D → D < B1 → W.heap[D]? = some (.deferred (some [])) → W'.heap[D]? = W.heap[D]?) (hB : B1 ≤ B2) : Mk B B2 W' ds := by
  obtain ⟨Ds, h1, h2, h3⟩ := h
  refine ⟨Ds, h1, h2, fun D hD => ?_⟩
  obtain ⟨h4, h5, h6⟩ := h3 D hD
  exact ⟨h4, by omega, (hk D h4 h5 h6).trans h6⟩
theorem bx_ne {W : World} {b t D : Nat} {cs : List Value} {x : Option (List Deferred)} (h : Bx W b t cs) (hk : W.heap[D]? = some (.deferred x)) : b ≠ D := fun e => by
  subst e
  have h2 : W.heap[b]? = _ := h
  rw [hk] at h2
  cases h2
section
variable {W W' : World} {b8 b9 mb n0 B0 B1 : Nat} {S : List Int} {c : Bool} {ds : List Deferred} {w : World}
theorem PeS.call (h : PeS W b8 b9 mb n0 B0 B1 S c ds w) (hb : Below W.heap.size W W') (hB : B0 ≤ W.heap.size) : PeS W' b8 b9 mb n0 B0 B1 S c ds w :=
  ⟨h.x8.call hb, h.x9.call hb, h.ms.below hb, h.mks.kept (fun D _ _ hk => hb.block D (Array.getElem?_eq_some_iff.1 hk).1) (Nat.le_refl _), h.bl.trans (hb.mono hB)⟩
theorem PeS.rel {S' : List Int} (h : PeS W b8 b9 mb n0 B0 B1 S c ds w) (hm : MS W' mb n0 S') (hg : W.grownBy W' (some mb)) (h1 : mb < b8) (h2 : b8 < b9) (h3 : B0 ≤ mb) (hB : B0 ≤ W.heap.size) : PeS W' b8 b9 mb n0 B0 B1 S' c ds w :=
  ⟨(hg.block _ h.x8.lt (fun e => by have := Option.some.inj e; omega)).trans h.x8, (hg.block _ h.x9.lt (fun e => by have := Option.some.inj e; omega)).trans h.x9, hm,
    h.mks.kept (fun D hD _ hk => hg.block D (Array.getElem?_eq_some_iff.1 hk).1 (fun e => by have := Option.some.inj e; omega)) (Nat.le_refl _), h.bl.grown hg hB (fun j e => by have := Option.some.inj e; omega)⟩
theorem PeS.flag (h : PeS W b8 b9 mb n0 B0 B1 S c ds w) (c' : Bool) (h1 : mb < b8) (h2 : b8 < b9) (h3 : B0 ≤ mb) : PeS (W.setCell ⟨b9, 0, none⟩ (.bool c')) b8 b9 mb n0 B0 B1 S c' ds w :=
  ⟨h.x8.far (p := ⟨b9, 0, none⟩) (show b9 ≠ b8 by omega) _, h.x9.set 0 (.bool c'), h.ms.kept (Below.heap_setCell W ⟨b9, 0, none⟩ _ mb (show mb ≠ b9 by omega)),
    h.mks.kept (fun D _ _ hk => Below.heap_setCell W ⟨b9, 0, none⟩ _ D (fun e => bx_ne h.x9 hk e.symm)) (Nat.le_refl _), h.bl.setCell (p := ⟨b9, 0, none⟩) (show B0 ≤ b9 by omega) _⟩
theorem PeS.wide {B2 : Nat} (h : PeS W b8 b9 mb n0 B0 B1 S c ds w) (hB : B1 ≤ B2) : PeS W b8 b9 mb n0 B0 B2 S c ds w := ⟨h.x8, h.x9, h.ms, h.mks.kept (fun _ _ _ _ => rfl) hB, h.bl⟩
theorem PeS.stays {B : Nat} (hB0 : B0 ≤ w.heap.size) (hB : B0 ≤ B) (h1 : B1 ≤ B) (h2 : mb < B) : Stays B fun W => PeS W b8 b9 mb n0 B0 B1 S c ds w := fun _ W W' row h hg hr =>
  ⟨(stays_bx B _ _ _).grown h.x8 hg hr, (stays_bx B _ _ _).grown h.x9 hg hr, (stays_ms h2 S).grown h.ms hg hr,
    h.mks.kept (fun D _ hD hk => hg.block D (Array.getElem?_eq_some_iff.1 hk).1 (fun e => by have := (hr D e.symm).1; omega)) (Nat.le_refl _), (stays_below hB0 hB).grown h.bl hg hr⟩
end
def flagAt (W : World) (v : Value) : Nat := match v with
  | .pointer (some p) => match W.cell? p with
    | some (.bool true) => 1
    | _ => 0
  | _ => 0
theorem delfunc_nil (a : Option Addr) (cap b8 mb n0 : Nat) (S : List Int) (w : World) (h : PB w b8 mb n0 S) :
    Calls Try.prog 48 #[.slice a 0 cap, .func (.func 50) #[] #[.pointer (some ⟨b8, 0, none⟩)]] w fun e w' => e = .returned (.slice a 0 cap) ∧ w = w' := by
  have hrd : RdI w (.slice a 0 cap) [] := ⟨by simp, ⟨a, cap, 0, 0, rfl, by simp, fun i hi => by simp at hi⟩, fun i hi => by simp at hi⟩
  have HI := Lib.hid (indexf_any _ [] b8 mb n0 S w hrd h)
  clear hrd h
  go_enter Try.func48, Try.ntmps48
  go_wp2_with fail
  refine HI.out.mono ?_
  rintro e w' ⟨r, rfl, (⟨rfl, hall⟩ | ⟨k, rfl, hk, hbefore, hno⟩), rfl⟩
  · clear hall
    go_wp2_with fail
    go_ret
    exact ⟨rfl, rfl⟩
  · simp at hk
theorem clone8_any (v : Value) (l : List Int) (w : World) (hv : RdI w v l) (hl : l.length ≤ 100000) :
    Calls Try.prog 49 #[v] w fun e w' => (∃ v', e = .returned v' ∧ ((l = [] ∧ ∃ a c, v' = .slice a 0 c) ∨ ∃ g c, v' = .slice (some ⟨g, 0, none⟩) l.length c ∧ RowI w' 3 g c l ∧ w.heap.size ≤ g)) ∧ Below w.heap.size w w' := by
  obtain ⟨h0, ⟨a, cap, b, off, rfl, hcap, hcell⟩, hrng⟩ := hv
  by_cases hn : l = []
  · subst hn
    cases a with
    | none =>
      refine (Try.slices_Clone_int_nil _ cap w).mono ?_
      rintro e w' ⟨rfl, rfl⟩
      exact ⟨⟨_, rfl, .inl ⟨rfl, _, _, rfl⟩⟩, Below.refl _ _⟩
    | some a =>
      refine (Try.slices_Clone_int_zero a cap w).mono ?_
      rintro e w' ⟨v', rfl, ho, _, hb⟩
      obtain ⟨a6, c6, rfl⟩ := ownD_form ho
      exact ⟨⟨_, rfl, .inl ⟨rfl, _, _, rfl⟩⟩, hb⟩
  · have hpos : 0 < l.length := by
      rcases l with _ | ⟨x, r⟩
      · exact absurd rfl hn
      · simp
    obtain ⟨rfl, _⟩ := hcell 0 hpos
    refine (Try.slices_Clone_int b off l.length cap l w (Nat.le_refl _) (by omega) (fun j hj => (hcell j hj).2)).mono ?_
    rintro e w' ⟨v', rfl, ho, _, hb⟩
    have ho2 : w'.ownsRow w.heap.size 3 1 v' l.length (is l) := by
      have e : (l.take l.length).map (Value.int .i64) = is l := by rw [List.take_length]; rfl
      rw [← e]; exact ho
    obtain ⟨g, c, rfl, _⟩ := own_int0 ho2 hpos
    obtain ⟨h1, _, h2⟩ := RowI.of_own ho2
    exact ⟨⟨_, rfl, .inr ⟨g, c, rfl, h1, h2⟩⟩, hb⟩
theorem flag_bx {W : World} {b : Nat} {c : Bool} (h : Bx W b 4 [.bool c]) : flagAt W (.pointer (some ⟨b, 0, none⟩)) = if c = true then 1 else 0 := by
  unfold flagAt
  dsimp only
  rw [h.cell (i := 0) rfl]
  cases c <;> rfl
set_option maxRecDepth 100000 in
set_option maxHeartbeats 8000000 in
theorem peel_ok (m : Int) (ev : Value) (l : List Int) (w : World) (hv : RdI w ev l) (hl : l.length ≤ 100000) (hm : fstB m = true) :
    Calls Try.prog 26 #[.int .i64 m, ev] w (PeelP m l w) := by
  have HF := Lib.hid (fun W => first_any m W)
  rw [hm] at HF
  have HSet := Lib.hid (fun W (hb : Below w.heap.size w W) => set_any (fstI m) ev l W (hv.keep hb) hl)
  have HV := Lib.hid hv
  obtain ⟨hw0, ⟨ea, ec, eb, eo, rfl, hec, hecell⟩, hwr⟩ := hv
  have HM := Lib.hid hm
  unfold PeelP
  generalize fstI m = f at *
  clear hm hecell hwr
  refine (callsIn_wide (n := 5)).1 ?_
  refine callsIn_of_wp_marks Try.func26 rfl trivial ?_ rfl
  simp only [Try.ntmps26, List.size_toArray, List.length_cons, List.length_nil, Nat.reduceAdd, Nat.reduceSub, Array.replicate_succ, Array.replicate_zero, List.push_toArray, List.append_toArray, List.nil_append, List.cons_append]
  gi_wp2_with (first | (refine ⟨trivial, ?_⟩; gi_at_call 33; refine (callsIn_wide.2 (HF.out _)).mono ?_; rintro e w' ⟨rfl, rfl⟩))
  refine ⟨trivial, ?_⟩
  refine (callsIn_wide.2 (HSet.out _ (Below.refl _ _))).mono ?_
  rintro e w1 (⟨he, rfl, hb1⟩ | ⟨he, rfl, hms, hb1⟩)
  · have HE := Lib.hid he
    clear he
    gi_wp2
    refine ⟨_, results_tmp2 rfl _ _ _, ?_⟩
    exact ⟨.inl ⟨fun h => (by rw [HE.out] at h; cases h.2), rfl⟩, hb1.alloc hb1.size _⟩
  · have HE := Lib.hid he
    obtain ⟨mb, hmb⟩ : ∃ mb, mb = w.heap.size := ⟨_, rfl⟩
    rw [← hmb] at hms
    rw [← hmb]
    have HMB := Lib.hid hmb
    have hmlt := hms.lt
    have hHM := Lib.hid hms
    clear he hmb hms
    gi_wp2
    obtain ⟨b8, hb8⟩ : ∃ b8, b8 = w1.heap.size := ⟨_, rfl⟩
    have X8 := (Bx.new w1 44 [.map (some mb)]).alloc (.cells #[.bool true] 4)
    have X9 := Bx.new (w1.alloc (.cells #[.map (some mb)] 44)) 4 [.bool true]
    rw [World.size_alloc] at X9
    have hbb : Below w1.heap.size w1 ((w1.alloc (.cells #[.map (some mb)] 44)).alloc (.cells #[.bool true] 4)) := ((Below.refl _ w1).alloc (Nat.le_refl _) _).alloc (by simp) _
    have hms0 := hHM.out.below hbb
    have hb0 := hb1.trans (hbb.mono hb1.size)
    rw [← hb8] at X8 X9 ⊢
    have HB8 := Lib.hid hb8
    have hP0 : PeS ((w1.alloc (.cells #[.map (some mb)] 44)).alloc (.cells #[.bool true] 4)) b8 (b8 + 1) mb l.length w.heap.size 0 (itP l 0) true [] w := ⟨X8, X9, hms0, ⟨[], rfl, List.nodup_nil, fun D hD => by cases hD⟩, hb0⟩
    have hmb8 : mb < b8 := by rw [HB8.out]; exact hmlt
    have hwb : w.heap.size ≤ mb := by rw [HMB.out]; exact Nat.le_refl _
    clear X8 X9 hms0 hb0 hbb hb1 hb8 hmlt hHM
    refine wpIn_loop (fun a W => ∃ (i : Nat) (c : Bool) (b9 : Nat) (u27 u28 u43 : Value) (ds : List Deferred), a = { tmps := List.toArray (.int .i64 m :: .slice ea l.length ec :: undef :: undef :: .slice none 0 0 :: .int .i64 0 :: .int .i64 f :: .bool true :: .pointer (some ⟨b8, 0, none⟩) :: .pointer (some ⟨b9, 0, none⟩) :: undef :: undef :: .tuple #[.int .i64 f, .bool true] :: .int .i64 m :: .tuple #[.int .i64 f, .bool true] :: .int .i64 f :: .bool true :: .bool true :: .bool false :: .tuple #[.map (some mb), .bool true] :: .int .i64 f :: .slice ea l.length ec :: .tuple #[.map (some mb), .bool true] :: .map (some mb) :: .bool true :: .bool true :: .bool false :: u27 :: u28 :: undef :: undef :: undef :: undef :: undef :: undef :: undef :: undef :: undef :: undef :: undef :: undef :: undef :: undef :: u43 :: undef :: undef :: undef :: undef :: []), defers := ds } ∧ PeS W b8 b9 mb l.length w.heap.size W.heap.size (itP l i) c ds w ∧ b8 < b9 ∧ (c = false → FixP (itP l i)))
      (fun a W => 2 * mlen W mb + flagAt W (a.tmps.getD 9 undef)) ⟨0, true, b8 + 1, undef, undef, undef, [], rfl, hP0.wide (Nat.zero_le _), by omega, fun h => by cases h⟩ ?_
    rintro a W ⟨i, c, b9, u27, u28, u43, ds, rfl, hP, hb9, hfix⟩
    clear hP0
    cases c with
    | false =>
      have HFix := Lib.hid (hfix rfl)
      have HPS := Lib.hid hP
      have q9 := hP.x9.cell (i := 0) rfl
      clear hP hfix
      have HCl := Lib.hid (clone8_any (.slice ea l.length ec) l W (HV.out.keep (HPS.out.bl)) hl)
      have hwW : w.heap.size ≤ W.heap.size := HPS.out.bl.size
      gi_wp2_with (first | (refine ⟨trivial, ?_⟩; gi_at_call 49; refine (callsIn_wide.2 HCl.out).mono ?_; rintro e W2 ⟨⟨v2, rfl, hv2⟩, hb2⟩))
      have HJ2 := Lib.hid (HPS.out.call hb2 hwW)
      have hend : ∀ (v : Value) (W3 : World), RdI W3 v (keepL (itP l i) l) → Below w.heap.size w W3 → (((¬ (fstB m = true ∧ ersB f l = true) ∧ Ending.returned (.tuple #[v, .int .i64 0]) = .returned (.tuple #[.slice none 0 0, .int .i64 1])) ∨
   ((fstB m = true ∧ ersB f l = true) ∧ ∃ (v2 : Value) (i : Nat), Ending.returned (.tuple #[v, .int .i64 0]) = .returned (.tuple #[v2, .int .i64 0]) ∧ RdI W3 v2 (keepL (itP l i) l) ∧ FixP (itP l i))) ∧ Below w.heap.size w W3) := fun v W3 h1 h2 => ⟨.inr ⟨⟨HM.out, HE.out⟩, v, i, rfl, h1, HFix.out⟩, h2⟩
      have HEnd := Lib.hid hend
      clear hend hb2
      have hbl := HPS.out.x8.lt
      have hml := HPS.out.ms.lt
      have hw2 : w.heap.size ≤ W2.heap.size := HJ2.out.bl.size
      have hbd : ∀ x ∈ l, -9223372036854775808 ≤ x ∧ x ≤ 9223372036854775807 := fun x hx => by
        obtain ⟨t, ht, rfl⟩ := List.getElem_of_mem hx
        rw [← ixI_get ht]
        exact HV.out.2.2 t ht
      have HBd := Lib.hid hbd
      obtain ⟨Ds, rfl, hnd, hD⟩ := HJ2.out.mks
      have HD := Lib.hid hD
      have HND := Lib.hid hnd
      clear hbd hD hnd
      rcases hv2 with ⟨hl0, a2, c2, rfl⟩ | ⟨g, c2, rfl, hr2, hg2⟩
      · have HL0 := Lib.hid hl0
        clear hl0
        refine ⟨trivial, ?_⟩
        refine (callsIn_wide.2 (delfunc_nil a2 c2 b8 mb l.length (itP l i) W2 ⟨HJ2.out.x8, HJ2.out.ms⟩)).mono ?_
        rintro e W3 ⟨rfl, rfl⟩
        gi_wp2
        refine leaves_marks (v := .slice a2 0 c2) (l := keepL (itP l i) l) (Nat.le_refl _) (fun W' h1 h2 => ⟨_, results_tmp2 rfl _ _ _, HEnd.out _ _ h1 h2⟩) Ds W2 HND.out (fun D hD => ⟨by have := (HD.out D hD).1; omega, (HD.out D hD).2.2⟩) ?_ HJ2.out.bl
        have e : keepL (itP l i) l = [] := by rw [HL0.out]; rfl
        rw [e]
        exact ⟨by simp, ⟨a2, c2, 0, 0, rfl, by simp, fun i hi => by simp at hi⟩, fun i hi => by simp at hi⟩
      · refine ⟨trivial, ?_⟩
        refine (callsIn_wide.2 (delfunc_any g c2 l.length b8 mb l.length (itP l i) l W2 hr2 rfl hl HBd.out ⟨HJ2.out.x8, HJ2.out.ms⟩ (by omega) (by omega))).mono ?_
        rintro e W3 ⟨v3, rfl, hv3, hg3⟩
        have HV3 := Lib.hid hv3; have HG3 := Lib.hid hg3
        clear hv3 hg3 hr2
        gi_wp2
        refine leaves_marks (v := v3) (l := keepL (itP l i) l) (Nat.le_refl _) (fun W' h1 h2 => ⟨_, results_tmp2 rfl _ _ _, HEnd.out _ _ h1 h2⟩) Ds W3 HND.out (fun D hD => ?_) HV3.out (HJ2.out.bl.grown HG3.out hw2 (fun j e => by have := Option.some.inj e; omega))
        obtain ⟨d1, d2, d3⟩ := HD.out D hD
        exact ⟨by omega, (HG3.out.block D (Array.getElem?_eq_some_iff.1 d3).1 (fun e => by have := Option.some.inj e; omega)).trans d3⟩
    | true =>
      clear hfix
      have HPS := Lib.hid hP
      have q9 := hP.x9.cell (i := 0) rfl
      have f9 := hP.x9.free 0
      clear hP
      gi_wp2_with (first | (refine ⟨trivial, ?_⟩; gi_at_call 34; refine (words_in 4 _).mono ?_; rintro e w' ⟨rfl, rfl⟩))
      have hP1 := HPS.out.flag false hmb8 hb9 hwb
      have hz1 : (W.setCell ⟨b9, 0, none⟩ (.bool false)).heap.size = W.heap.size := by simp
      have hml : mb < W.heap.size := HPS.out.ms.lt
      have hwW : w.heap.size ≤ W.heap.size := HPS.out.bl.size
      obtain ⟨W0, hW0⟩ : ∃ W0, W0 = W.setCell ⟨b9, 0, none⟩ (.bool false) := ⟨_, rfl⟩
      rw [← hW0] at hP1 hz1 ⊢
      have hseq := words_gives 4 (by omega) W0
      clear hW0 q9 f9
      generalize hS : itP l i = S at *
      refine wpIn_range_gives1 (n := 5) rfl (by omega) (gf := 60) (lb := #[]) rfl trivial (enters_of Try.func60 (by kernel_rfl) rfl) hseq rfl
        (fun k W' => PeS W' b8 b9 mb l.length w.heap.size W.heap.size (pkN S k) (agN S k) ds w)
        (fun _ _ => False)
        (fun v => { tmps := List.toArray (.int .i64 m :: .slice ea l.length ec :: undef :: undef :: .slice none 0 0 :: .int .i64 0 :: .int .i64 f :: .bool true :: .pointer (some ⟨b8, 0, none⟩) :: .pointer (some ⟨b9, 0, none⟩) :: v :: undef :: .tuple #[.int .i64 f, .bool true] :: .int .i64 m :: .tuple #[.int .i64 f, .bool true] :: .int .i64 f :: .bool true :: .bool true :: .bool false :: .tuple #[.map (some mb), .bool true] :: .int .i64 f :: .slice ea l.length ec :: .tuple #[.map (some mb), .bool true] :: .map (some mb) :: .bool true :: .bool true :: .bool false :: .bool true :: .func (.func 60) #[] #[] :: v :: undef :: undef :: undef :: undef :: undef :: undef :: undef :: undef :: undef :: undef :: undef :: undef :: undef :: u43 :: undef :: undef :: undef :: undef :: []), defers := [] })
        (fun k => PeS.stays (Nat.le_refl _) (by omega) (by omega) (by omega))
        (fun c => Stays.const _ _)
        (fun k v => GW.stays _ _ _ _) hP1 ?assign ?body ?done ?stop
      case assign =>
        intro l' v W' K _ hK
        gi_wp2
        exact hK
      case stop =>
        rintro D c W' _ h _
        exact h.elim
      case body =>
        rintro l' k v W1 hk hJ hg
        have hwb := wd_bd hk
        have hwl := wd_length k
        have hlen : (wd k).length ≤ 45 := by rw [hwl]; split <;> omega
        have hri := rdI_own (w := W1) hg rfl (by omega) (fun x hx => by have := hwb x hx; omega)
        have HPo := Lib.hid (positions8_any v (wd k) mb l.length (pkN S k) W1 hri hJ.ms (by omega))
        have HRel : Hid (∀ W2, Below W1.heap.size W1 W2 → Calls Try.prog 47 #[v, .map (some mb)] W2 (RelP mb l.length (rel (pkN S k) (wd k)) W2)) := Lib.hid fun W2 h2 =>
          release_any v (wd k) mb l.length (pkN S k) W2 (offI_own (g := mb) (w := W2) (own_keep' hg h2) (by omega) rfl (by omega) (fun x hx => by have := hwb x hx; omega)) (hJ.ms.below h2) (by omega)
        have hpk := pkS_eq (pkN S k) k
        have hpn : pkN S (k + 1) = pkS (pkN S k) k := rfl
        have han : agN S (k + 1) = (agN S k || agS (pkN S k) k) := rfl
        rw [hpk] at hpn
        have hag : agS (pkN S k) k = (decide (1 ≤ (posS (wd k) (pkN S k)).length) && decide ((posS (wd k) (pkN S k)).length ≤ 2)) := rfl
        have hnl : (posS (wd k) (pkN S k)).length ≤ 45 := by have := posN8_len (wd k) (pkN S k) (wd k).length; unfold posS; omega
        generalize posS (wd k) (pkN S k) = ps at *
        generalize hpl : ps.length = n at *
        have HPL := Lib.hid hpl
        have HPN := Lib.hid hpn; have HAN := Lib.hid han; have HAG := Lib.hid hag
        have HJ := Lib.hid hJ
        have q8 := hJ.x8.cell (i := 0) rfl
        have hwW1 : w.heap.size ≤ W1.heap.size := hJ.bl.size
        clear hwb hwl hlen hri hpk hpn han hag hpl hJ hP1 hseq
        by_cases hA : 1 ≤ n ∧ n ≤ 2
        · have hag : agS (pkN S k) k = true := by rw [HAG.out, decide_eq_true hA.1, decide_eq_true hA.2]; rfl
          have HP2 : Hid (pkN S (k + 1) = rel (pkN S k) (wd k) ∧ agN S (k + 1) = true) := Lib.hid ⟨by rw [HPN.out, hag, if_pos rfl], by rw [HAN.out, hag, Bool.or_true]⟩
          obtain ⟨hA1, hA2⟩ := hA
          clear hag HPN HAN HAG
          gi_wp2_with (first | (refine ⟨trivial, ?_⟩; gi_at_call 46; refine (CallsIn.inRound l' (callsIn_wide.2 HPo.out)).mono ?_; rintro e W2 ⟨v2, rfl, ho, hb2⟩; obtain ⟨a6, c6, rfl⟩ := ownD_form ho; clear ho; have HJ2 := Lib.hid (HJ.out.call hb2 hwW1); have q8' := HJ2.out.x8.cell (i := 0) rfl; have hwW2 : w.heap.size ≤ W2.heap.size := HJ2.out.bl.size) | (refine ⟨trivial, ?_⟩; gi_at_call 47; refine (CallsIn.inRound l' (callsIn_wide.2 (HRel.out _ hb2))).mono ?_; rintro e W3 ⟨rfl, hm3, hg3⟩; have HJ3 := Lib.hid (HJ2.out.rel hm3 hg3 hmb8 hb9 hwb hwW2); have q9' := HJ3.out.x9.cell (i := 0) rfl; have f9' := HJ3.out.x9.free 0; have HG3 := Lib.hid hg3; clear hm3 hg3))
          refine ⟨((kf_below hb2).trans (KeepsFrom.of_grownBy HG3.out (fun j e => by have := Option.some.inj e; omega))).trans (kf_set _ _ _ _), ?_⟩
          show PeS _ b8 b9 mb l.length w.heap.size W.heap.size (pkN S (k + 1)) (agN S (k + 1)) ds w
          rw [HP2.out.1, HP2.out.2]
          exact HJ3.out.flag true hmb8 hb9 hwb
        · have hag : agS (pkN S k) k = false := by
            rw [HAG.out, Bool.and_eq_false_iff, decide_eq_false_iff_not, decide_eq_false_iff_not]
            omega
          have HP2 : Hid (pkN S (k + 1) = pkN S k ∧ agN S (k + 1) = agN S k) := Lib.hid ⟨by rw [HPN.out, hag, if_neg (by decide)], by rw [HAN.out, hag, Bool.or_false]⟩
          clear hag HPN HAN HAG
          by_cases hA1 : 1 ≤ n
          · have hA2 : 2 < n := by omega
            clear hA
            gi_wp2_with (first | (refine ⟨trivial, ?_⟩; gi_at_call 46; refine (CallsIn.inRound l' (callsIn_wide.2 HPo.out)).mono ?_; rintro e W2 ⟨v2, rfl, ho, hb2⟩; obtain ⟨a6, c6, rfl⟩ := ownD_form ho; clear ho; have HJ2 := Lib.hid (HJ.out.call hb2 hwW1); have q8' := HJ2.out.x8.cell (i := 0) rfl; have hwW2 : w.heap.size ≤ W2.heap.size := HJ2.out.bl.size))
            refine ⟨kf_below hb2, ?_⟩
            show PeS _ b8 b9 mb l.length w.heap.size W.heap.size (pkN S (k + 1)) (agN S (k + 1)) ds w
            rw [HP2.out.1, HP2.out.2]
            exact HJ2.out
          · have hA2 : n = 0 := by omega
            have HA2 := Lib.hid hA2
            clear hA hA2
            gi_wp2_with (first | (refine ⟨trivial, ?_⟩; gi_at_call 46; refine (CallsIn.inRound l' (callsIn_wide.2 HPo.out)).mono ?_; rintro e W2 ⟨v2, rfl, ho, hb2⟩; obtain ⟨a6, c6, rfl⟩ := ownD_form ho; clear ho; have HJ2 := Lib.hid (HJ.out.call hb2 hwW1); have q8' := HJ2.out.x8.cell (i := 0) rfl; have hwW2 : w.heap.size ≤ W2.heap.size := HJ2.out.bl.size))
            refine ⟨kf_below hb2, ?_⟩
            show PeS _ b8 b9 mb l.length w.heap.size W.heap.size (pkN S (k + 1)) (agN S (k + 1)) ds w
            rw [HP2.out.1, HP2.out.2]
            exact HJ2.out
      case done =>
        rintro D W' hD hJ hK
        clear hP1 hseq
        have hz9 := hJ.x9.lt
        have hDl : D < W'.heap.size := (Array.getElem?_eq_some_iff.1 hK).1
        have q9 := hJ.x9.cell (i := 0) rfl
        have hal := (Below.refl W'.heap.size W').alloc (Nat.le_refl _) (.cells #[.bool (agN S 138)] 4)
        have hwW' : w.heap.size ≤ W'.heap.size := hJ.bl.size
        have hb9l := HPS.out.x9.lt
        have hN : Hid (PeS (W'.alloc (.cells #[.bool (agN S 138)] 4)) b8 W'.heap.size mb l.length w.heap.size (W'.alloc (.cells #[.bool (agN S 138)] 4)).heap.size (pkN S 138) (agN S 138) ({ target := .collected D, args := #[] } :: ds) w ∧ mlen (W'.alloc (.cells #[.bool (agN S 138)] 4)) mb = (pkN S 138).length ∧ flagAt (W'.alloc (.cells #[.bool (agN S 138)] 4)) (.pointer (some ⟨W'.heap.size, 0, none⟩)) = (if agN S 138 = true then 1 else 0) ∧ b8 < W'.heap.size) := Lib.hid (by
          have h2 := hJ.call hal hwW'
          have hX : Bx (W'.alloc (.cells #[.bool (agN S 138)] 4)) W'.heap.size 4 [.bool (agN S 138)] := Bx.new _ _ _
          refine ⟨⟨h2.x8, hX, h2.ms, ?_, h2.bl⟩, h2.ms.mlen, flag_bx hX, by omega⟩
          obtain ⟨Ds, e1, e2, e3⟩ := h2.mks
          refine ⟨D :: Ds, by rw [e1]; rfl, List.nodup_cons.2 ⟨fun hm => by have := (e3 D hm).2.1; omega, e2⟩, fun D' hD' => ?_⟩
          rcases List.mem_cons.1 hD' with e | hm
          · subst e
            exact ⟨by omega, by rw [World.size_alloc]; omega, (hal.block D' hDl).trans hK⟩
          · have := e3 D' hm
            exact ⟨this.1, by rw [World.size_alloc]; omega, this.2.2⟩)
        have hMu : Hid (mlen W mb = S.length ∧ flagAt W (.pointer (some ⟨b9, 0, none⟩)) = 1) := Lib.hid ⟨HPS.out.ms.mlen, flag_bx HPS.out.x9⟩
        have hlt : Hid (agN S 138 = true → (pkN S 138).length < S.length) := Lib.hid (agN_lt 138)
        have hno : Hid (agN S 138 = false → pkN S 138 = S ∧ FixP S) := Lib.hid fun h => ⟨(agN_no 138 h).1, fix_of_no h⟩
        have hit : Hid (itP l (i + 1) = pkN S 138) := Lib.hid (by rw [itP_succ, hS])
        clear hJ hK hal
        generalize agN S 138 = cc at *
        generalize pkN S 138 = S2 at *
        gi_wp2
        refine ⟨⟨i + 1, cc, W'.heap.size, _, _, _, _, rfl, by rw [hit.out]; exact hN.out.1, hN.out.2.2.2, fun h => by rw [hit.out, (hno.out h).1]; exact (hno.out h).2⟩, ?_⟩
        show 2 * mlen (W'.alloc (.cells #[.bool cc] 4)) mb + flagAt (W'.alloc (.cells #[.bool cc] 4)) (.pointer (some ⟨W'.heap.size, 0, none⟩)) < 2 * mlen W mb + flagAt W (.pointer (some ⟨b9, 0, none⟩))
        have m1 := hN.out.2.1; have m2 := hN.out.2.2.1; have m3 := hMu.out.1; have m4 := hMu.out.2; have m5 := hlt.out; have m6 := hno.out
        rw [m1, m2, m3, m4]
        cases cc with
        | true => have := m5 rfl; rw [if_pos rfl]; omega
        | false => rw [(m6 rfl).1, if_neg (by decide)]; omega
set_option maxRecDepth 100000 in
theorem peel_bad (m : Int) (ea : Option Addr) (el ec : Nat) (w : World) (hm : fstB m = false) :
    Calls Try.prog 26 #[.int .i64 m, .slice ea el ec] w fun e w' => e = .returned (.tuple #[.slice none 0 0, .int .i64 1]) ∧ w = w' := by
  have HF := Lib.hid (fun W => first_any m W)
  rw [hm] at HF
  clear hm
  refine (callsIn_wide (n := 5)).1 ?_
  refine callsIn_of_wp_marks Try.func26 rfl trivial ?_ rfl
  simp only [Try.ntmps26, List.size_toArray, List.length_cons, List.length_nil, Nat.reduceAdd, Nat.reduceSub, Array.replicate_succ, Array.replicate_zero, List.push_toArray, List.append_toArray, List.nil_append, List.cons_append]
  gi_wp2_with (first | (refine ⟨trivial, ?_⟩; gi_at_call 33; refine (callsIn_wide.2 (HF.out _)).mono ?_; rintro e w' ⟨rfl, rfl⟩))
  exact ⟨_, results_tmp2 rfl _ _ _, rfl, rfl⟩
theorem peel_any (m : Int) (ev : Value) (l : List Int) (w : World) (hv : RdI w ev l) (hl : l.length ≤ 100000) :
    Calls Try.prog 26 #[.int .i64 m, ev] w (PeelP m l w) := by
  cases hm : fstB m with
  | true => exact peel_ok m ev l w hv hl hm
  | false =>
    obtain ⟨_, ⟨a, c, _, _, rfl, _⟩, _⟩ := hv
    refine (peel_bad m a _ c w hm).mono ?_
    rintro e w' ⟨rfl, rfl⟩
    exact ⟨.inl ⟨fun h => (by rw [hm] at h; cases h.1), rfl⟩, Below.refl _ _⟩
end Go.Proofs.Ytepdcpbgdfjobaa.W8
namespace Go.Proofs.Ytepdcpbgdfjobaa
open Go.ChangeShapes Go.WideShapes Go.ChangeAt Go.RowKit
set_option linter.unusedVariables false
def CameI (w : World) (v : Value) (l : List Int) : Prop :=
  (l.length ≤ 17592186044416 → RdI w v l) ∧ l.length ≤ 9223372036854775807 ∧ ∃ a c, v = .slice a l.length c
theorem RdI.nil (w : World) : RdI w (.slice none 0 0) [] := ⟨by simp, ⟨none, 0, 0, 0, rfl, by simp, fun i hi => by simp at hi⟩, fun i hi => by simp at hi⟩
section
variable {H : Type} {enc : TypeId × Value → H} {w : World} {base b0 : Nat} {held : Bool}
set_option maxRecDepth 100000 in
theorem open_cints {v : Value} {d : DataW H} {ps : List MemPlace} {r : Reach}
    (hval : Value.okWide Try.prog w r b0 24 v) (hd : DataW.Trod enc Try.prog w base (fun _ => true) held 24 v d ps) : ∃ l : List Int, CameI w v l := by
  obtain ⟨a, len, cap, rfl⟩ := okWide_slice Try.underlying24 hval
  obtain ⟨fuel, hf⟩ := hd
  rcases open_ints Try.underlying24 Try.underlying3 (by kernel_rfl) hf with ⟨hcs, _⟩ | ⟨x, l, c, zs, hcs, _, hl, hm, hz, _, hcell, hwz⟩
  · simp [Value.cells] at hcs
    obtain ⟨rfl, rfl, rfl⟩ := hcs
    exact ⟨[], fun _ => RdI.nil w, by simp, none, 0, rfl⟩
  · simp [Value.cells] at hcs
    obtain ⟨rfl, rfl, rfl⟩ := hcs
    have hz' : zs.length = cap := by simpa using hz
    have hL : (zs.take len).length = len := by simp; omega
    unfold maxLen at hm
    have hr : ∀ i, i < len → ixI (zs.take len) i = zs.getD i 0 := fun i hi => by unfold ixI; simp [hi]
    refine ⟨zs.take len, fun hb => ?_, by rw [hL]; omega, some x, cap, by rw [hL]⟩
    refine ⟨hb, ?_, fun i hi => ?_⟩
    · rw [hL]
      by_cases h0 : len = 0
      · subst h0
        exact ⟨_, cap, 0, 0, rfl, hl, fun i hi => by omega⟩
      · obtain ⟨b, off, rfl, hcc⟩ := ints_at hcell (by omega)
        refine ⟨_, cap, b, off, rfl, hl, fun i hi => ⟨rfl, ?_⟩⟩
        rw [hcc i (by omega), hr i hi]
    · rw [hL] at hi
      have hi' : i < zs.length := by omega
      have hw := hwz (zs[i]) (List.getElem_mem hi')
      rw [hr i hi]
      have e1 : zs.getD i 0 = zs[i] := by simp [hi']
      rw [e1]
      simpa [Lit.wf, IntKind.min, IntKind.max, IntKind.signed, IntKind.bits] using hw
end
theorem Try.sizeU16 : (Try.prog.info? 22).map (·.size) = some 1 := by kernel_rfl
def RdU (w : World) (v : Value) (l : List Int) : Prop :=
  l.length ≤ 17592186044416 ∧ (∃ a cap b off, v = .slice a l.length cap ∧ l.length ≤ cap ∧ ∀ i, i < l.length → a = some ⟨b, off, none⟩ ∧ w.cell? ⟨b, off + i, none⟩ = some (.int .u16 (ixI l i))) ∧ ∀ i, i < l.length → 0 ≤ ixI l i ∧ ixI l i ≤ 65535
def CameU (w : World) (v : Value) (l : List Int) : Prop :=
  (l.length ≤ 17592186044416 → RdU w v l) ∧ l.length ≤ 9223372036854775807 ∧ ∃ a c, v = .slice a l.length c
theorem RdU.nil (w : World) : RdU w (.slice none 0 0) [] := ⟨by simp, ⟨none, 0, 0, 0, rfl, by simp, fun i hi => by simp at hi⟩, fun i hi => by simp at hi⟩
section
variable {H : Type} {enc : TypeId × Value → H} {w : World} {base b0 : Nat} {held : Bool}
end
end Go.Proofs.Ytepdcpbgdfjobaa
namespace Go.Proofs.Ytepdcpbgdfjobaa.W8
open Go.RowKit Go.Shelf
set_option linter.unusedVariables false
theorem ext_strS (l : List UInt8) (n : Nat) : (str l).extract 0 n = str (l.take n) := by
  unfold str
  ext1
  simp [ByteArray.extract, ByteArray.copySlice]
def snd1V (A Y P12 P16 : ByteArray) (m N : Int) (i : Nat) (v : Value) (W : World) : Prop := match i with
  | 0 => v = .string Y
  | 1 => v = .int .i64 2352
  | 2 => v = .string A
  | 3 => v = .int .i64 2352
  | 4 => v = .bool false
  | 5 => v = .bool false
  | 6 => v = .string Y
  | 7 => v = .int .i64 2352
  | 8 => v = .bool false
  | 9 => v = .bool false
  | 10 => v = .bool false
  | 11 => v = .string Y
  | 12 => v = .int .i64 m
  | 13 => v = .bool true
  | 14 => v = .bool false
  | 15 => v = .bool false
  | 16 => v = .bool false
  | 17 => v = .string Y
  | 18 => v = .string P12
  | 19 => v = .string A
  | 20 => v = .string P12
  | 21 => v = .bool false
  | 22 => v = .bool false
  | 23 => v = .bool false
  | 24 => v = .int .i64 m
  | 25 => v = .bool true
  | 26 => v = .bool true
  | 27 => v = .string Y
  | 28 => v = .string P16
  | 29 => v = .string A
  | 30 => v = .string P16
  | 31 => v = .bool false
  | 32 => v = .bool false
  | 33 => v = .bool false
  | 34 => v = .bool false
  | 35 => v = .int .i64 N
  | 36 => v = .string Y
  | 37 => v = .string A
  | 38 => v = .int .i64 N
  | 39 => v = .bool false
  | 40 => v = .bool false
  | _ => True
theorem snd1V_keep (A Y P12 P16 : ByteArray) (m N : Int) (i : Nat) (v : Value) (W W' : World) (hR : (fun w W => Below w.heap.size w W) W W') (h : snd1V A Y P12 P16 m N i v W) : snd1V A Y P12 P16 m N i v W' := by
  unfold snd1V at h ⊢
  split at h <;> first | exact h
def snd0V (A Y P12 P16 : ByteArray) (m N : Int) (i : Nat) (v : Value) (W : World) : Prop := match i with
  | 0 => v = .string Y
  | 1 => v = .int .i64 2352
  | 2 => v = .string A
  | 3 => v = .int .i64 2352
  | 4 => v = .bool false
  | 5 => v = .bool false
  | 6 => v = .string Y
  | 7 => v = .int .i64 2352
  | 8 => v = .bool false
  | 9 => v = .bool false
  | 10 => v = .bool false
  | 11 => v = .string Y
  | 12 => v = .int .i64 m
  | 13 => v = .bool true
  | 14 => v = .bool false
  | 15 => v = .bool false
  | 16 => v = .bool false
  | 17 => v = .string Y
  | 18 => v = .string P12
  | 19 => v = .string A
  | 20 => v = .string P12
  | 21 => v = .bool false
  | 22 => v = .bool false
  | 23 => v = .bool false
  | 24 => v = .int .i64 m
  | 25 => v = .bool false
  | 26 => v = .bool false
  | 32 => v = .bool false
  | 33 => v = .bool false
  | 34 => v = .bool false
  | 35 => v = .int .i64 N
  | 36 => v = .string Y
  | 37 => v = .string A
  | 38 => v = .int .i64 N
  | 39 => v = .bool false
  | 40 => v = .bool false
  | _ => True
theorem snd0V_keep (A Y P12 P16 : ByteArray) (m N : Int) (i : Nat) (v : Value) (W W' : World) (hR : (fun w W => Below w.heap.size w W) W W') (h : snd0V A Y P12 P16 m N i v W) : snd0V A Y P12 P16 m N i v W' := by
  unfold snd0V at h ⊢
  split at h <;> first | exact h
set_option maxRecDepth 100000 in
set_option maxHeartbeats 32000000 in
theorem sound_ok (w : World) (a : List UInt8) (m : Int) (ev : Value) (l : List Int) (hr : RdI w ev l) (ha : a.length ≤ 2400) (hl : l.length ≤ 600) : Calls Try.prog 9 #[.string (str a), .int .i64 m, ev] w fun e w' => e = .returned (.bool true) ∧ Below w.heap.size w w' := by
  have HRd := Lib.hid hr
  have HDe := Lib.hid (fun W (hb : Below w.heap.size w W) => decode8_any a m ev l W (hr.keep hb) (by omega) (by omega))
  have HPe := Lib.hid (fun W (hb : Below w.heap.size w W) => peel_any m ev l W (hr.keep hb) (by omega))
  obtain ⟨hw0, ⟨sa, sc, ab, ao, rfl, hac, hcell⟩, hwr⟩ := hr
  clear hcell hwr
  have hsa := str_size a
  have hq : (str []).toList = [] := str_toList []
  go_enter Try.func9, Try.ntmps9
  go_wp2_with fail
  refine (awake8_any _).mono ?_
  rintro e w0 ⟨rfl, hb0⟩
  go_wp2_with fail
  refine (HDe.out _ hb0).mono ?_
  intro e w1 hd
  obtain ⟨⟨⟨R, N, z⟩, rfl, hS⟩, hb1⟩ := dec_sound hd
  have hB2 := hb0.trans (hb1.mono hb0.size)
  clear hd hb0 hb1
  dsimp only
  rcases hS with ⟨h1, h2, h3⟩ | hS
  · dsimp only at h1 h2 h3
    subst h1 h2
    have hz : (z == 0) = false := by simpa using h3
    clear h3
    go_wp2_with fail
    refine (HPe.out _ hB2).mono ?_
    rintro e w3 ⟨(⟨hno, rfl⟩ | ⟨⟨hm1, hE⟩, rv, i, rfl, hrest, hfix⟩), hb3⟩
    · have hB3 := hB2.trans (hb3.mono hB2.size)
      clear hno hB2 hb3
      go_wp2_with fail
      go_ret
      exact ⟨rfl, hB3⟩
    · have hB3 := hB2.trans (hb3.mono hB2.size)
      have hsub : ∀ x ∈ itP l i, x ∈ l := fun x hx => (itP_subl l i).subset hx
      have HFix : Hid (∀ j, j < 138 → (posN8 (wd j) (keepL (itP l i) l) (wd j).length).length ≠ 1 ∧ (posN8 (wd j) (keepL (itP l i) l) (wd j).length).length ≠ 2) := Lib.hid (fun j hj => fix_count hsub hfix hj)
      have HMem : Hid (∀ x ∈ keepL (itP l i) l, x ∈ l) := Lib.hid (fun x hx => (List.mem_filter.1 hx).1)
      have HSo := Lib.hid (keep_sorted (S := itP l i) hE)
      have HLL : Hid ((keepL (itP l i) l).length ≤ 100000) := Lib.hid (by have := keepL_le (itP l i) l; omega)
      have HRR := Lib.hid hrest
      have HB3 := Lib.hid hB3
      obtain ⟨hk0, ⟨ra, rc, rb, ro, rfl, hrc, _⟩, _⟩ := hrest
      clear hsub hfix hE hB2 hb3 hB3
      generalize keepL (itP l i) l = L at *
      go_wp2_with fail
      go_loopw [101] (fun vk wr => ∃ k : Nat, k ≤ L.length ∧ vk = .int .i64 k ∧ Below w3.heap.size w3 wr) (fun vk _ => L.length - (intOf vk).toNat)
      case atStart => exact ⟨0, by omega, rfl, Below.refl _ _⟩
      case round =>
        obtain ⟨k, hk, rfl, hb⟩ := hrel
        by_cases hlt : k < L.length
        · have hrr := HRR.out.keep hb
          obtain ⟨_, ⟨xa, xc, xb, xo, hvv, hxc, hxcell⟩, hxr⟩ := hrr
          injection hvv with e1 e2 e3
          subst e1 e3
          obtain ⟨hxa, hxw⟩ := hxcell k hlt
          have hix := run_idx (P := Try.prog) Try.underlying24 Try.sizeInt (cap := rc) hxa hlt _ rfl wr
          have hcont : G.cont l (ixI L k) = true := (G.cont_iff _ _).2 (HMem.out _ (ixI_mem hlt))
          have HCo := Lib.hid (containsI_any _ l (ixI L k) wr (HRd.out.keep (HB3.out.trans (hb.mono HB3.out.size))))
          rw [hcont] at HCo
          have Ha := Lib.hid hxa
          clear hxcell hxr hxa e2 hcont
          generalize ixI L k = y at *
          go_wp2_with fail
          refine HCo.out.mono ?_
          rintro e w4 ⟨rfl, rfl⟩
          go_wp2_with fail
          go_roundw
          case rel => exact ⟨k + 1, by omega, by go_num, hb⟩
          case measure => simp [intOf]; omega
        · go_wp2_with fail
          go_loopw [110] (fun vj wo => ∃ j : Nat, j ≤ 138 ∧ vj = .int .i64 j ∧ Below w3.heap.size w3 wo) (fun vj _ => 138 - (intOf vj).toNat)
          case atStart => exact ⟨0, by omega, rfl, hb⟩
          case round =>
            clear hb
            obtain ⟨j, hj, rfl, hbo⟩ := hrel
            obtain ⟨wo0, rfl⟩ : ∃ w0 : World, w0 = wr := ⟨_, rfl⟩
            by_cases hj138 : j < 138
            · have hjl : (j : Int) < 138 := by omega
              by_cases hj86 : j < 86
              · have hwd : wd j = pw j := if_pos hj86
                have HFx := Lib.hid (HFix.out j hj138)
                rw [hwd, pw_length] at HFx
                have HPw := Lib.hid (pword_ok j (j : Int) wo0 rfl hj86)
                go_wp2_with fail
                refine HPw.out.mono ?_
                rintro e W4 ⟨v, rfl, hown, hb3⟩
                have hri := rdI_own hown (pw_length j) (by omega) (fun x hx => by have := pw_bd hj86 x hx; omega)
                obtain ⟨wa, wc, rfl⟩ := ownD_form hown
                obtain ⟨n, hn⟩ : ∃ n : Nat, n = 26 := ⟨_, rfl⟩
                have HN : Hid ((pw j).length = n) := Lib.hid (by rw [hn, pw_length])
                have HWs := Lib.hid hri
                rw [← hn] at HFx HWs ⊢
                clear hown hri hwd
                generalize pw j = ws at *
                have hn45 : n ≤ 45 := by omega
                clear hn
                have hb4 := hbo.trans (hb3.mono hbo.size)
                clear hbo hb3
                go_wp2_with fail
                go_loopw [16, 128] (fun vc vt wi => ∃ t : Nat, t ≤ n ∧ vt = .int .i64 t ∧ vc = .int .i64 ((posN8 ws L t).length : Int) ∧ Below W4.heap.size W4 wi ∧ Below w3.heap.size w3 wi) (fun _ vt _ => n - (intOf vt).toNat)
                case atStart => exact ⟨0, by omega, rfl, rfl, Below.refl _ _, hb4⟩
                case round =>
                  obtain ⟨t, ht, rfl, rfl, hbi, hbj⟩ := hrel
                  by_cases hlt2 : t < n
                  · have hws := HWs.out.keep hbi
                    obtain ⟨_, ⟨xa, xc, xb, xo, hvv, hxc, hxcell⟩, hxr⟩ := hws
                    injection hvv with e1 e2 e3
                    subst e1 e3
                    obtain ⟨hxa, hxw⟩ := hxcell t (by rw [HN.out]; exact hlt2)
                    have hix := run_idx (P := Try.prog) Try.underlying24 Try.sizeInt (cap := wc) hxa hlt2 _ rfl wr
                    have HBs := Lib.hid (fun W (hW : Below w3.heap.size w3 W) => bsearch_any (.slice ra L.length rc) L (ixI ws t) W (HRR.out.keep hW) HLL.out HSo.out)
                    have hps : posN8 ws L (t + 1) = if L.contains (ixI ws t) = true then posN8 ws L t ++ [(t : Int)] else posN8 ws L t := rfl
                    have hpl := posN8_len ws L t
                    have Ha := Lib.hid hxa
                    have HB2 := Lib.hid hbi; have HB3 := Lib.hid hbj
                    clear hxcell hxr hxa e2 hbi hbj
                    generalize ixI ws t = y at *
                    cases hcc : L.contains y with
                    | true =>
                      rw [hcc, if_pos rfl] at hps
                      have HPs : Hid ((posN8 ws L (t + 1)).length = (posN8 ws L t).length + 1) := Lib.hid (by rw [hps, List.length_append]; rfl)
                      rw [hcc] at HBs
                      clear hcc hps
                      generalize (posN8 ws L t).length = q at *
                      go_wp2_with fail
                      refine (HBs.out _ HB3.out).mono ?_
                      rintro e w5 ⟨⟨p, rfl⟩, hb5⟩
                      have HB4 := Lib.hid (HB2.out.trans (hb5.mono HB2.out.size)); have HB5 := Lib.hid (HB3.out.trans (hb5.mono HB3.out.size))
                      clear hb5
                      go_wp2_with fail
                      go_roundw
                      case rel => exact ⟨t + 1, by omega, by go_num, by rw [HPs.out]; go_num, HB4.out, HB5.out⟩
                      case measure => simp [intOf]; omega
                    | false =>
                      rw [hcc, if_neg (by decide)] at hps
                      have HPs : Hid ((posN8 ws L (t + 1)).length = (posN8 ws L t).length) := Lib.hid (by rw [hps])
                      rw [hcc] at HBs
                      clear hcc hps
                      generalize (posN8 ws L t).length = q at *
                      go_wp2_with fail
                      refine (HBs.out _ HB3.out).mono ?_
                      rintro e w5 ⟨⟨p, rfl⟩, hb5⟩
                      have HB4 := Lib.hid (HB2.out.trans (hb5.mono HB2.out.size)); have HB5 := Lib.hid (HB3.out.trans (hb5.mono HB3.out.size))
                      clear hb5
                      go_wp2_with fail
                      go_roundw
                      case rel => exact ⟨t + 1, by omega, by go_num, by rw [HPs.out], HB4.out, HB5.out⟩
                      case measure => simp [intOf]; omega
                  · obtain rfl : n = t := by omega
                    have hf1 := HFx.out.1; have hf2 := HFx.out.2
                    generalize (posN8 ws L n).length = q at *
                    have hq1 : ((q : Int) == 1) = false := by simp; omega
                    have hq2 : ((q : Int) == 2) = false := by simp; omega
                    clear hf1 hf2
                    go_wp2_with fail
                    go_roundw
                    case rel => exact ⟨j + 1, by omega, by go_num, hbj⟩
                    case measure => simp [intOf]; omega
              · have hwd : wd j = qw (j - 86) := if_neg hj86
                have HFx := Lib.hid (HFix.out j hj138)
                rw [hwd, qw_length] at HFx
                have HPw := Lib.hid (pword_bad (j : Int) wo0 (.inr (by omega)))
                have HQw := Lib.hid (qword_ok (j - 86) ((j : Int) - 86) wo0 (by omega) (by omega))
                go_wp2_with fail
                refine HPw.out.mono ?_
                rintro e W9 ⟨rfl, rfl⟩
                go_wp2_with fail
                refine HQw.out.mono ?_
                rintro e W4 ⟨v, rfl, hown, hb3⟩
                have hri := rdI_own hown (qw_length (j - 86)) (by omega) (fun x hx => by have := qw_bd (m := j - 86) (by omega) x hx; omega)
                obtain ⟨wa, wc, rfl⟩ := ownD_form hown
                obtain ⟨n, hn⟩ : ∃ n : Nat, n = 45 := ⟨_, rfl⟩
                have HN : Hid ((qw (j - 86)).length = n) := Lib.hid (by rw [hn, qw_length])
                have HWs := Lib.hid hri
                rw [← hn] at HFx HWs ⊢
                clear hown hri hwd
                generalize qw (j - 86) = ws at *
                have hn45 : n ≤ 45 := by omega
                clear hn
                have hb4 := hbo.trans (hb3.mono hbo.size)
                clear hbo hb3
                go_wp2_with fail
                go_loopw [16, 128] (fun vc vt wi => ∃ t : Nat, t ≤ n ∧ vt = .int .i64 t ∧ vc = .int .i64 ((posN8 ws L t).length : Int) ∧ Below W4.heap.size W4 wi ∧ Below w3.heap.size w3 wi) (fun _ vt _ => n - (intOf vt).toNat)
                case atStart => exact ⟨0, by omega, rfl, rfl, Below.refl _ _, hb4⟩
                case round =>
                  obtain ⟨t, ht, rfl, rfl, hbi, hbj⟩ := hrel
                  by_cases hlt2 : t < n
                  · have hws := HWs.out.keep hbi
                    obtain ⟨_, ⟨xa, xc, xb, xo, hvv, hxc, hxcell⟩, hxr⟩ := hws
                    injection hvv with e1 e2 e3
                    subst e1 e3
                    obtain ⟨hxa, hxw⟩ := hxcell t (by rw [HN.out]; exact hlt2)
                    have hix := run_idx (P := Try.prog) Try.underlying24 Try.sizeInt (cap := wc) hxa hlt2 _ rfl wr
                    have HBs := Lib.hid (fun W (hW : Below w3.heap.size w3 W) => bsearch_any (.slice ra L.length rc) L (ixI ws t) W (HRR.out.keep hW) HLL.out HSo.out)
                    have hps : posN8 ws L (t + 1) = if L.contains (ixI ws t) = true then posN8 ws L t ++ [(t : Int)] else posN8 ws L t := rfl
                    have hpl := posN8_len ws L t
                    have Ha := Lib.hid hxa
                    have HB2 := Lib.hid hbi; have HB3 := Lib.hid hbj
                    clear hxcell hxr hxa e2 hbi hbj
                    generalize ixI ws t = y at *
                    cases hcc : L.contains y with
                    | true =>
                      rw [hcc, if_pos rfl] at hps
                      have HPs : Hid ((posN8 ws L (t + 1)).length = (posN8 ws L t).length + 1) := Lib.hid (by rw [hps, List.length_append]; rfl)
                      rw [hcc] at HBs
                      clear hcc hps
                      generalize (posN8 ws L t).length = q at *
                      go_wp2_with fail
                      refine (HBs.out _ HB3.out).mono ?_
                      rintro e w5 ⟨⟨p, rfl⟩, hb5⟩
                      have HB4 := Lib.hid (HB2.out.trans (hb5.mono HB2.out.size)); have HB5 := Lib.hid (HB3.out.trans (hb5.mono HB3.out.size))
                      clear hb5
                      go_wp2_with fail
                      go_roundw
                      case rel => exact ⟨t + 1, by omega, by go_num, by rw [HPs.out]; go_num, HB4.out, HB5.out⟩
                      case measure => simp [intOf]; omega
                    | false =>
                      rw [hcc, if_neg (by decide)] at hps
                      have HPs : Hid ((posN8 ws L (t + 1)).length = (posN8 ws L t).length) := Lib.hid (by rw [hps])
                      rw [hcc] at HBs
                      clear hcc hps
                      generalize (posN8 ws L t).length = q at *
                      go_wp2_with fail
                      refine (HBs.out _ HB3.out).mono ?_
                      rintro e w5 ⟨⟨p, rfl⟩, hb5⟩
                      have HB4 := Lib.hid (HB2.out.trans (hb5.mono HB2.out.size)); have HB5 := Lib.hid (HB3.out.trans (hb5.mono HB3.out.size))
                      clear hb5
                      go_wp2_with fail
                      go_roundw
                      case rel => exact ⟨t + 1, by omega, by go_num, by rw [HPs.out], HB4.out, HB5.out⟩
                      case measure => simp [intOf]; omega
                  · obtain rfl : n = t := by omega
                    have hf1 := HFx.out.1; have hf2 := HFx.out.2
                    generalize (posN8 ws L n).length = q at *
                    have hq1 : ((q : Int) == 1) = false := by simp; omega
                    have hq2 : ((q : Int) == 2) = false := by simp; omega
                    clear hf1 hf2
                    go_wp2_with fail
                    go_roundw
                    case rel => exact ⟨j + 1, by omega, by go_num, hbj⟩
                    case measure => simp [intOf]; omega
            · obtain rfl : j = 138 := by omega
              go_wp2_with fail
              go_ret
              exact ⟨rfl, HB3.out.trans (hbo.mono HB3.out.size)⟩
  · dsimp only at hS
    obtain ⟨hal, hRl, hvl, h12, h16, rfl, rfl⟩ := hS
    have HV := Lib.hid (fun W => valid8_any R m W (by omega))
    rw [hvl] at HV
    have HDi := Lib.hid (fun W => differ_any R a W (by rw [hal, hRl]) (by omega))
    rw [hRl] at HDi
    have HSY : Hid ((str R).size = 2352) := Lib.hid (by rw [str_size, hRl])
    have HSA : Hid ((str a).size = 2352) := Lib.hid (by rw [str_size, hal])
    have HXY : Hid ((str R).extract 0 12 = str (a.take 12)) := Lib.hid (by rw [ext_strS, h12])
    have HXA : Hid ((str a).extract 0 12 = str (a.take 12)) := Lib.hid (ext_strS _ _)
    have HXB : Hid ((str a).extract 0 16 = str (a.take 16)) := Lib.hid (ext_strS _ _)
    have HXZ0 : Hid (m = 1 → (str R).extract 0 16 = str (a.take 16)) := Lib.hid (fun h => by rw [ext_strS, h16 h])
    generalize str (a.take 12) = P12 at *
    generalize str (a.take 16) = P16 at *
    generalize str R = Y at *
    generalize ((G.allN R a 2352 : Nat) : Int) = N at *
    rw [hal] at hsa
    clear hvl h12 h16 hRl hal
    generalize str a = A at *
    by_cases hm1 : m = 1
    · have HXZ := Lib.hid (HXZ0.out hm1)
      have HQ1 : Hid ((m == 1) = true) := Lib.hid (by simpa using hm1)
      clear hm1 HXZ0
      have HB2 := Lib.hid hB2
      clear hB2
      go_wp2_with fail
      refine wp_region_inr (by kernel_rfl) (fun w W => Below w.heap.size w W) (fun W => Below w1.heap.size w1 W) (snd1V A Y P12 P16 m N) (fun _ => false) (by kernel_rfl) (fun W W' hb h => h.trans (hb.mono h.size)) (snd1V_keep A Y P12 P16 m N) ((Below.refl _ _).drew) ⟨?_, ?_, ?_, ?_, ?_, ?_, ?_, ?_, ?_, ?_, ?_, ?_, ?_, ?_, ?_, ?_, ?_, ?_, ?_, ?_, ?_, ?_, ?_, ?_, ?_, ?_, ?_, ?_, ?_, ?_, ?_, ?_, ?_, ?_, ?_, ?_, ?_, ?_, ?_, ?_, ?_, trivial⟩ ?_
      · intro a W hc hsz hold hdep
        have o7 : a.tmps.getD 7 undef = .string Y := hold 7 (by kernel_rfl)
        clear hsz hold hdep
        refine stepR_do rfl (wanted_none rfl) ?_
        refine stepR_val (v := .string Y) (Below.refl _ _) rfl fun K hK => ?_
        go_simp
        exact hK
      · intro a W hc hsz hold hdep
        have d0 : a.tmps.getD 41 undef = .string Y := hdep 0 (by kernel_rfl) rfl _ rfl
        have e0 : a.tmps[41]?.getD undef = .string Y := by rw [← Array.getD_eq_getD_getElem?]; exact d0
        have hs := HSY.out
        clear hsz hold hdep
        refine stepR_do rfl (wanted_none rfl) ?_
        refine stepR_val (v := .int .i64 2352) (Below.refl _ _) rfl fun K hK => ?_
        go_simp
        exact hK
      · intro a W hc hsz hold hdep
        have o0 : a.tmps.getD 0 undef = .string A := hold 0 (by kernel_rfl)
        clear hsz hold hdep
        refine stepR_do rfl (wanted_none rfl) ?_
        refine stepR_val (v := .string A) (Below.refl _ _) rfl fun K hK => ?_
        go_simp
        exact hK
      · intro a W hc hsz hold hdep
        have d2 : a.tmps.getD 43 undef = .string A := hdep 2 (by kernel_rfl) rfl _ rfl
        have e2 : a.tmps[43]?.getD undef = .string A := by rw [← Array.getD_eq_getD_getElem?]; exact d2
        have hs := HSA.out
        clear hsz hold hdep
        refine stepR_do rfl (wanted_none rfl) ?_
        refine stepR_val (v := .int .i64 2352) (Below.refl _ _) rfl fun K hK => ?_
        go_simp
        exact hK
      · intro a W hc hsz hold hdep
        have d1 : a.tmps.getD 42 undef = .int .i64 2352 := hdep 1 (by kernel_rfl) rfl _ rfl
        have d3 : a.tmps.getD 44 undef = .int .i64 2352 := hdep 3 (by kernel_rfl) rfl _ rfl
        clear hsz hold hdep
        refine stepR_do rfl (wanted_none rfl) ?_
        refine stepR_val (v := .bool false) (Below.refl _ _) rfl fun K hK => ?_
        go_simp
        exact hK
      · intro a W hc hsz hold hdep
        have d4 : a.tmps.getD 45 undef = .bool false := hdep 4 (by kernel_rfl) rfl _ rfl
        clear hsz hold hdep
        refine stepR_do rfl (wanted_none rfl) ?_
        refine stepR_val (v := .bool false) (Below.refl _ _) rfl fun K hK => ?_
        go_simp
        exact hK
      · intro a W hc hsz hold hdep
        have o7 : a.tmps.getD 7 undef = .string Y := hold 7 (by kernel_rfl)
        have g6 : a.tmps.getD 46 undef = .bool false := hdep 5 (by kernel_rfl) rfl _ rfl
        clear hsz hold hdep
        refine stepR_do rfl ((wanted_of (want := false) rfl rfl g6).trans rfl) ?_
        clear g6
        refine stepR_val (v := .string Y) (Below.refl _ _) rfl fun K hK => ?_
        go_simp
        exact hK
      · intro a W hc hsz hold hdep
        have d6 : a.tmps.getD 47 undef = .string Y := hdep 6 (by kernel_rfl) rfl _ rfl
        have e6 : a.tmps[47]?.getD undef = .string Y := by rw [← Array.getD_eq_getD_getElem?]; exact d6
        have g7 : a.tmps.getD 46 undef = .bool false := hdep 5 (by kernel_rfl) rfl _ rfl
        have hs := HSY.out
        clear hsz hold hdep
        refine stepR_do rfl ((wanted_of (want := false) rfl rfl g7).trans rfl) ?_
        clear g7
        refine stepR_val (v := .int .i64 2352) (Below.refl _ _) rfl fun K hK => ?_
        go_simp
        exact hK
      · intro a W hc hsz hold hdep
        have d7 : a.tmps.getD 48 undef = .int .i64 2352 := hdep 7 (by kernel_rfl) rfl _ rfl
        have g8 : a.tmps.getD 46 undef = .bool false := hdep 5 (by kernel_rfl) rfl _ rfl
        clear hsz hold hdep
        refine stepR_do rfl ((wanted_of (want := false) rfl rfl g8).trans rfl) ?_
        clear g8
        refine stepR_val (v := .bool false) (Below.refl _ _) rfl fun K hK => ?_
        go_simp
        exact hK
      · intro a W hc hsz hold hdep
        have d5 : a.tmps.getD 46 undef = .bool false := hdep 5 (by kernel_rfl) rfl _ rfl
        have d8 : a.tmps.getD 49 undef = .bool false := hdep 8 (by kernel_rfl) rfl _ rfl
        clear hsz hold hdep
        refine stepR_do rfl (wanted_none rfl) ?_
        refine stepR_val (v := .bool false) (Below.refl _ _) rfl fun K hK => ?_
        go_simp
        exact hK
      · intro a W hc hsz hold hdep
        have d9 : a.tmps.getD 50 undef = .bool false := hdep 9 (by kernel_rfl) rfl _ rfl
        clear hsz hold hdep
        refine stepR_do rfl (wanted_none rfl) ?_
        refine stepR_val (v := .bool false) (Below.refl _ _) rfl fun K hK => ?_
        go_simp
        exact hK
      · intro a W hc hsz hold hdep
        have o7 : a.tmps.getD 7 undef = .string Y := hold 7 (by kernel_rfl)
        have g11 : a.tmps.getD 51 undef = .bool false := hdep 10 (by kernel_rfl) rfl _ rfl
        clear hsz hold hdep
        refine stepR_do rfl ((wanted_of (want := false) rfl rfl g11).trans rfl) ?_
        clear g11
        refine stepR_val (v := .string Y) (Below.refl _ _) rfl fun K hK => ?_
        go_simp
        exact hK
      · intro a W hc hsz hold hdep
        have o1 : a.tmps.getD 1 undef = .int .i64 m := hold 1 (by kernel_rfl)
        have g12 : a.tmps.getD 51 undef = .bool false := hdep 10 (by kernel_rfl) rfl _ rfl
        clear hsz hold hdep
        refine stepR_do rfl ((wanted_of (want := false) rfl rfl g12).trans rfl) ?_
        clear g12
        refine stepR_val (v := .int .i64 m) (Below.refl _ _) rfl fun K hK => ?_
        go_simp
        exact hK
      · intro a W hc hsz hold hdep
        have d11 : a.tmps.getD 52 undef = .string Y := hdep 11 (by kernel_rfl) rfl _ rfl
        have e11 : a.tmps[52]?.getD undef = .string Y := by rw [← Array.getD_eq_getD_getElem?]; exact d11
        have d12 : a.tmps.getD 53 undef = .int .i64 m := hdep 12 (by kernel_rfl) rfl _ rfl
        have e12 : a.tmps[53]?.getD undef = .int .i64 m := by rw [← Array.getD_eq_getD_getElem?]; exact d12
        have g13 : a.tmps.getD 51 undef = .bool false := hdep 10 (by kernel_rfl) rfl _ rfl
        clear hsz hold hdep
        refine stepR_do rfl ((wanted_of (want := false) rfl rfl g13).trans rfl) ?_
        clear g13
        refine stepR_call (v := .bool true) (fun W' hb => hb) (fun _ => rfl) fun K hK => ?_
        go_simp
        refine (HV.out W).mono ?_
        rintro e w' ⟨rfl, hb'⟩
        exact hK _ hb'
      · intro a W hc hsz hold hdep
        have d13 : a.tmps.getD 54 undef = .bool true := hdep 13 (by kernel_rfl) rfl _ rfl
        have g14 : a.tmps.getD 51 undef = .bool false := hdep 10 (by kernel_rfl) rfl _ rfl
        clear hsz hold hdep
        refine stepR_do rfl ((wanted_of (want := false) rfl rfl g14).trans rfl) ?_
        clear g14
        refine stepR_val (v := .bool false) (Below.refl _ _) rfl fun K hK => ?_
        go_simp
        exact hK
      · intro a W hc hsz hold hdep
        have d10 : a.tmps.getD 51 undef = .bool false := hdep 10 (by kernel_rfl) rfl _ rfl
        have d14 : a.tmps.getD 55 undef = .bool false := hdep 14 (by kernel_rfl) rfl _ rfl
        clear hsz hold hdep
        refine stepR_do rfl (wanted_none rfl) ?_
        refine stepR_val (v := .bool false) (Below.refl _ _) rfl fun K hK => ?_
        go_simp
        exact hK
      · intro a W hc hsz hold hdep
        have d15 : a.tmps.getD 56 undef = .bool false := hdep 15 (by kernel_rfl) rfl _ rfl
        clear hsz hold hdep
        refine stepR_do rfl (wanted_none rfl) ?_
        refine stepR_val (v := .bool false) (Below.refl _ _) rfl fun K hK => ?_
        go_simp
        exact hK
      · intro a W hc hsz hold hdep
        have o7 : a.tmps.getD 7 undef = .string Y := hold 7 (by kernel_rfl)
        have g17 : a.tmps.getD 57 undef = .bool false := hdep 16 (by kernel_rfl) rfl _ rfl
        clear hsz hold hdep
        refine stepR_do rfl ((wanted_of (want := false) rfl rfl g17).trans rfl) ?_
        clear g17
        refine stepR_val (v := .string Y) (Below.refl _ _) rfl fun K hK => ?_
        go_simp
        exact hK
      · intro a W hc hsz hold hdep
        have d17 : a.tmps.getD 58 undef = .string Y := hdep 17 (by kernel_rfl) rfl _ rfl
        have g18 : a.tmps.getD 57 undef = .bool false := hdep 16 (by kernel_rfl) rfl _ rfl
        have hs := HSY.out
        have hx := HXY.out
        clear hsz hold hdep
        refine stepR_do rfl ((wanted_of (want := false) rfl rfl g18).trans rfl) ?_
        clear g18
        refine stepR_val (v := .string P12) (Below.refl _ _) rfl fun K hK => ?_
        go_simp
        exact hK
      · intro a W hc hsz hold hdep
        have o0 : a.tmps.getD 0 undef = .string A := hold 0 (by kernel_rfl)
        have g19 : a.tmps.getD 57 undef = .bool false := hdep 16 (by kernel_rfl) rfl _ rfl
        clear hsz hold hdep
        refine stepR_do rfl ((wanted_of (want := false) rfl rfl g19).trans rfl) ?_
        clear g19
        refine stepR_val (v := .string A) (Below.refl _ _) rfl fun K hK => ?_
        go_simp
        exact hK
      · intro a W hc hsz hold hdep
        have d19 : a.tmps.getD 60 undef = .string A := hdep 19 (by kernel_rfl) rfl _ rfl
        have g20 : a.tmps.getD 57 undef = .bool false := hdep 16 (by kernel_rfl) rfl _ rfl
        have hs := HSA.out
        have hx := HXA.out
        clear hsz hold hdep
        refine stepR_do rfl ((wanted_of (want := false) rfl rfl g20).trans rfl) ?_
        clear g20
        refine stepR_val (v := .string P12) (Below.refl _ _) rfl fun K hK => ?_
        go_simp
        exact hK
      · intro a W hc hsz hold hdep
        have d18 : a.tmps.getD 59 undef = .string P12 := hdep 18 (by kernel_rfl) rfl _ rfl
        have d20 : a.tmps.getD 61 undef = .string P12 := hdep 20 (by kernel_rfl) rfl _ rfl
        have g21 : a.tmps.getD 57 undef = .bool false := hdep 16 (by kernel_rfl) rfl _ rfl
        clear hsz hold hdep
        refine stepR_do rfl ((wanted_of (want := false) rfl rfl g21).trans rfl) ?_
        clear g21
        refine stepR_val (v := .bool false) (Below.refl _ _) rfl fun K hK => ?_
        go_simp
        exact hK
      · intro a W hc hsz hold hdep
        have d16 : a.tmps.getD 57 undef = .bool false := hdep 16 (by kernel_rfl) rfl _ rfl
        have d21 : a.tmps.getD 62 undef = .bool false := hdep 21 (by kernel_rfl) rfl _ rfl
        clear hsz hold hdep
        refine stepR_do rfl (wanted_none rfl) ?_
        refine stepR_val (v := .bool false) (Below.refl _ _) rfl fun K hK => ?_
        go_simp
        exact hK
      · intro a W hc hsz hold hdep
        have d22 : a.tmps.getD 63 undef = .bool false := hdep 22 (by kernel_rfl) rfl _ rfl
        clear hsz hold hdep
        refine stepR_do rfl (wanted_none rfl) ?_
        refine stepR_val (v := .bool false) (Below.refl _ _) rfl fun K hK => ?_
        go_simp
        exact hK
      · intro a W hc hsz hold hdep
        have o1 : a.tmps.getD 1 undef = .int .i64 m := hold 1 (by kernel_rfl)
        have g24 : a.tmps.getD 64 undef = .bool false := hdep 23 (by kernel_rfl) rfl _ rfl
        clear hsz hold hdep
        refine stepR_do rfl ((wanted_of (want := false) rfl rfl g24).trans rfl) ?_
        clear g24
        refine stepR_val (v := .int .i64 m) (Below.refl _ _) rfl fun K hK => ?_
        go_simp
        exact hK
      · intro a W hc hsz hold hdep
        have d24 : a.tmps.getD 65 undef = .int .i64 m := hdep 24 (by kernel_rfl) rfl _ rfl
        have g25 : a.tmps.getD 64 undef = .bool false := hdep 23 (by kernel_rfl) rfl _ rfl
        have hq := HQ1.out
        clear hsz hold hdep
        refine stepR_do rfl ((wanted_of (want := false) rfl rfl g25).trans rfl) ?_
        clear g25
        refine stepR_val (v := .bool true) (Below.refl _ _) rfl fun K hK => ?_
        go_simp
        exact hK
      · intro a W hc hsz hold hdep
        have d25 : a.tmps.getD 66 undef = .bool true := hdep 25 (by kernel_rfl) rfl _ rfl
        have g26 : a.tmps.getD 64 undef = .bool false := hdep 23 (by kernel_rfl) rfl _ rfl
        clear hsz hold hdep
        refine stepR_do rfl ((wanted_of (want := false) rfl rfl g26).trans rfl) ?_
        clear g26
        refine stepR_val (v := .bool true) (Below.refl _ _) rfl fun K hK => ?_
        go_simp
        exact hK
      · intro a W hc hsz hold hdep
        have o7 : a.tmps.getD 7 undef = .string Y := hold 7 (by kernel_rfl)
        have g27 : a.tmps.getD 67 undef = .bool true := hdep 26 (by kernel_rfl) rfl _ rfl
        clear hsz hold hdep
        refine stepR_do rfl ((wanted_of (want := true) rfl rfl g27).trans rfl) ?_
        clear g27
        refine stepR_val (v := .string Y) (Below.refl _ _) rfl fun K hK => ?_
        go_simp
        exact hK
      · intro a W hc hsz hold hdep
        have d27 : a.tmps.getD 68 undef = .string Y := hdep 27 (by kernel_rfl) rfl _ rfl
        have g28 : a.tmps.getD 67 undef = .bool true := hdep 26 (by kernel_rfl) rfl _ rfl
        have hs := HSY.out
        have hx := HXZ.out
        clear hsz hold hdep
        refine stepR_do rfl ((wanted_of (want := true) rfl rfl g28).trans rfl) ?_
        clear g28
        refine stepR_val (v := .string P16) (Below.refl _ _) rfl fun K hK => ?_
        go_simp
        exact hK
      · intro a W hc hsz hold hdep
        have o0 : a.tmps.getD 0 undef = .string A := hold 0 (by kernel_rfl)
        have g29 : a.tmps.getD 67 undef = .bool true := hdep 26 (by kernel_rfl) rfl _ rfl
        clear hsz hold hdep
        refine stepR_do rfl ((wanted_of (want := true) rfl rfl g29).trans rfl) ?_
        clear g29
        refine stepR_val (v := .string A) (Below.refl _ _) rfl fun K hK => ?_
        go_simp
        exact hK
      · intro a W hc hsz hold hdep
        have d29 : a.tmps.getD 70 undef = .string A := hdep 29 (by kernel_rfl) rfl _ rfl
        have g30 : a.tmps.getD 67 undef = .bool true := hdep 26 (by kernel_rfl) rfl _ rfl
        have hs := HSA.out
        have hx := HXB.out
        clear hsz hold hdep
        refine stepR_do rfl ((wanted_of (want := true) rfl rfl g30).trans rfl) ?_
        clear g30
        refine stepR_val (v := .string P16) (Below.refl _ _) rfl fun K hK => ?_
        go_simp
        exact hK
      · intro a W hc hsz hold hdep
        have d28 : a.tmps.getD 69 undef = .string P16 := hdep 28 (by kernel_rfl) rfl _ rfl
        have d30 : a.tmps.getD 71 undef = .string P16 := hdep 30 (by kernel_rfl) rfl _ rfl
        have g31 : a.tmps.getD 67 undef = .bool true := hdep 26 (by kernel_rfl) rfl _ rfl
        clear hsz hold hdep
        refine stepR_do rfl ((wanted_of (want := true) rfl rfl g31).trans rfl) ?_
        clear g31
        refine stepR_val (v := .bool false) (Below.refl _ _) rfl fun K hK => ?_
        go_simp
        exact hK
      · intro a W hc hsz hold hdep
        have d26 : a.tmps.getD 67 undef = .bool true := hdep 26 (by kernel_rfl) rfl _ rfl
        have d31 : a.tmps.getD 72 undef = .bool false := hdep 31 (by kernel_rfl) rfl _ rfl
        have g32 : a.tmps.getD 64 undef = .bool false := hdep 23 (by kernel_rfl) rfl _ rfl
        clear hsz hold hdep
        refine stepR_do rfl ((wanted_of (want := false) rfl rfl g32).trans rfl) ?_
        clear g32
        refine stepR_val (v := .bool false) (Below.refl _ _) rfl fun K hK => ?_
        go_simp
        exact hK
      · intro a W hc hsz hold hdep
        have d23 : a.tmps.getD 64 undef = .bool false := hdep 23 (by kernel_rfl) rfl _ rfl
        have d32 : a.tmps.getD 73 undef = .bool false := hdep 32 (by kernel_rfl) rfl _ rfl
        clear hsz hold hdep
        refine stepR_do rfl (wanted_none rfl) ?_
        refine stepR_val (v := .bool false) (Below.refl _ _) rfl fun K hK => ?_
        go_simp
        exact hK
      · intro a W hc hsz hold hdep
        have d33 : a.tmps.getD 74 undef = .bool false := hdep 33 (by kernel_rfl) rfl _ rfl
        clear hsz hold hdep
        refine stepR_do rfl (wanted_none rfl) ?_
        refine stepR_val (v := .bool false) (Below.refl _ _) rfl fun K hK => ?_
        go_simp
        exact hK
      · intro a W hc hsz hold hdep
        have o8 : a.tmps.getD 8 undef = .int .i64 N := hold 8 (by kernel_rfl)
        have g35 : a.tmps.getD 75 undef = .bool false := hdep 34 (by kernel_rfl) rfl _ rfl
        clear hsz hold hdep
        refine stepR_do rfl ((wanted_of (want := false) rfl rfl g35).trans rfl) ?_
        clear g35
        refine stepR_val (v := .int .i64 N) (Below.refl _ _) rfl fun K hK => ?_
        go_simp
        exact hK
      · intro a W hc hsz hold hdep
        have o7 : a.tmps.getD 7 undef = .string Y := hold 7 (by kernel_rfl)
        have g36 : a.tmps.getD 75 undef = .bool false := hdep 34 (by kernel_rfl) rfl _ rfl
        clear hsz hold hdep
        refine stepR_do rfl ((wanted_of (want := false) rfl rfl g36).trans rfl) ?_
        clear g36
        refine stepR_val (v := .string Y) (Below.refl _ _) rfl fun K hK => ?_
        go_simp
        exact hK
      · intro a W hc hsz hold hdep
        have o0 : a.tmps.getD 0 undef = .string A := hold 0 (by kernel_rfl)
        have g37 : a.tmps.getD 75 undef = .bool false := hdep 34 (by kernel_rfl) rfl _ rfl
        clear hsz hold hdep
        refine stepR_do rfl ((wanted_of (want := false) rfl rfl g37).trans rfl) ?_
        clear g37
        refine stepR_val (v := .string A) (Below.refl _ _) rfl fun K hK => ?_
        go_simp
        exact hK
      · intro a W hc hsz hold hdep
        have d36 : a.tmps.getD 77 undef = .string Y := hdep 36 (by kernel_rfl) rfl _ rfl
        have e36 : a.tmps[77]?.getD undef = .string Y := by rw [← Array.getD_eq_getD_getElem?]; exact d36
        have d37 : a.tmps.getD 78 undef = .string A := hdep 37 (by kernel_rfl) rfl _ rfl
        have e37 : a.tmps[78]?.getD undef = .string A := by rw [← Array.getD_eq_getD_getElem?]; exact d37
        have g38 : a.tmps.getD 75 undef = .bool false := hdep 34 (by kernel_rfl) rfl _ rfl
        clear hsz hold hdep
        refine stepR_do rfl ((wanted_of (want := false) rfl rfl g38).trans rfl) ?_
        clear g38
        refine stepR_call (v := .int .i64 N) (fun W' hb => hb) (fun _ => rfl) fun K hK => ?_
        go_simp
        refine (HDi.out W).mono ?_
        rintro e w' ⟨rfl, hb'⟩
        exact hK _ hb'
      · intro a W hc hsz hold hdep
        have d35 : a.tmps.getD 76 undef = .int .i64 N := hdep 35 (by kernel_rfl) rfl _ rfl
        have d38 : a.tmps.getD 79 undef = .int .i64 N := hdep 38 (by kernel_rfl) rfl _ rfl
        have g39 : a.tmps.getD 75 undef = .bool false := hdep 34 (by kernel_rfl) rfl _ rfl
        clear hsz hold hdep
        refine stepR_do rfl ((wanted_of (want := false) rfl rfl g39).trans rfl) ?_
        clear g39
        refine stepR_val (v := .bool false) (Below.refl _ _) rfl fun K hK => ?_
        go_simp
        exact hK
      · intro a W hc hsz hold hdep
        have d34 : a.tmps.getD 75 undef = .bool false := hdep 34 (by kernel_rfl) rfl _ rfl
        have d39 : a.tmps.getD 80 undef = .bool false := hdep 39 (by kernel_rfl) rfl _ rfl
        clear hsz hold hdep
        refine stepR_do rfl (wanted_none rfl) ?_
        refine stepR_val (v := .bool false) (Below.refl _ _) rfl fun K hK => ?_
        go_simp
        exact hK
      · intro a W hC hd hsz hold hval
        have d1 : a.tmps.getD 1 undef = .int .i64 m := hold 1 (by kernel_rfl)
        have d2 : a.tmps.getD 2 undef = .slice sa l.length sc := hold 2 (by kernel_rfl)
        have d81 : a.tmps.getD 81 undef = .bool false := hval 40 _ rfl rfl
        clear hold
        obtain ⟨tm, df⟩ := a
        replace hd : df = [] := hd
        replace hsz : tm.size = 149 := hsz
        replace d1 : tm.getD 1 undef = .int .i64 m := d1
        replace d2 : tm.getD 2 undef = .slice sa l.length sc := d2
        replace d81 : tm.getD 81 undef = .bool false := d81
        subst hd
        have e : tm = List.toArray (tm.getD 0 undef :: tm.getD 1 undef :: tm.getD 2 undef :: tm.getD 3 undef :: tm.getD 4 undef :: tm.getD 5 undef :: tm.getD 6 undef :: tm.getD 7 undef :: tm.getD 8 undef :: tm.getD 9 undef :: tm.getD 10 undef :: tm.getD 11 undef :: tm.getD 12 undef :: tm.getD 13 undef :: tm.getD 14 undef :: tm.getD 15 undef :: tm.getD 16 undef :: tm.getD 17 undef :: tm.getD 18 undef :: tm.getD 19 undef :: tm.getD 20 undef :: tm.getD 21 undef :: tm.getD 22 undef :: tm.getD 23 undef :: tm.getD 24 undef :: tm.getD 25 undef :: tm.getD 26 undef :: tm.getD 27 undef :: tm.getD 28 undef :: tm.getD 29 undef :: tm.getD 30 undef :: tm.getD 31 undef :: tm.getD 32 undef :: tm.getD 33 undef :: tm.getD 34 undef :: tm.getD 35 undef :: tm.getD 36 undef :: tm.getD 37 undef :: tm.getD 38 undef :: tm.getD 39 undef :: tm.getD 40 undef :: tm.getD 41 undef :: tm.getD 42 undef :: tm.getD 43 undef :: tm.getD 44 undef :: tm.getD 45 undef :: tm.getD 46 undef :: tm.getD 47 undef :: tm.getD 48 undef :: tm.getD 49 undef :: tm.getD 50 undef :: tm.getD 51 undef :: tm.getD 52 undef :: tm.getD 53 undef :: tm.getD 54 undef :: tm.getD 55 undef :: tm.getD 56 undef :: tm.getD 57 undef :: tm.getD 58 undef :: tm.getD 59 undef :: tm.getD 60 undef :: tm.getD 61 undef :: tm.getD 62 undef :: tm.getD 63 undef :: tm.getD 64 undef :: tm.getD 65 undef :: tm.getD 66 undef :: tm.getD 67 undef :: tm.getD 68 undef :: tm.getD 69 undef :: tm.getD 70 undef :: tm.getD 71 undef :: tm.getD 72 undef :: tm.getD 73 undef :: tm.getD 74 undef :: tm.getD 75 undef :: tm.getD 76 undef :: tm.getD 77 undef :: tm.getD 78 undef :: tm.getD 79 undef :: tm.getD 80 undef :: tm.getD 81 undef :: tm.getD 82 undef :: tm.getD 83 undef :: tm.getD 84 undef :: tm.getD 85 undef :: tm.getD 86 undef :: tm.getD 87 undef :: tm.getD 88 undef :: tm.getD 89 undef :: tm.getD 90 undef :: tm.getD 91 undef :: tm.getD 92 undef :: tm.getD 93 undef :: tm.getD 94 undef :: tm.getD 95 undef :: tm.getD 96 undef :: tm.getD 97 undef :: tm.getD 98 undef :: tm.getD 99 undef :: tm.getD 100 undef :: tm.getD 101 undef :: tm.getD 102 undef :: tm.getD 103 undef :: tm.getD 104 undef :: tm.getD 105 undef :: tm.getD 106 undef :: tm.getD 107 undef :: tm.getD 108 undef :: tm.getD 109 undef :: tm.getD 110 undef :: tm.getD 111 undef :: tm.getD 112 undef :: tm.getD 113 undef :: tm.getD 114 undef :: tm.getD 115 undef :: tm.getD 116 undef :: tm.getD 117 undef :: tm.getD 118 undef :: tm.getD 119 undef :: tm.getD 120 undef :: tm.getD 121 undef :: tm.getD 122 undef :: tm.getD 123 undef :: tm.getD 124 undef :: tm.getD 125 undef :: tm.getD 126 undef :: tm.getD 127 undef :: tm.getD 128 undef :: tm.getD 129 undef :: tm.getD 130 undef :: tm.getD 131 undef :: tm.getD 132 undef :: tm.getD 133 undef :: tm.getD 134 undef :: tm.getD 135 undef :: tm.getD 136 undef :: tm.getD 137 undef :: tm.getD 138 undef :: tm.getD 139 undef :: tm.getD 140 undef :: tm.getD 141 undef :: tm.getD 142 undef :: tm.getD 143 undef :: tm.getD 144 undef :: tm.getD 145 undef :: tm.getD 146 undef :: tm.getD 147 undef :: tm.getD 148 undef :: []) := arr_eq tm 149 hsz
        rw [d1, d2, d81] at e
        clear d1 d2 d81 hsz
        generalize tm.getD 0 undef = v0 at e
        generalize tm.getD 3 undef = v3 at e
        generalize tm.getD 4 undef = v4 at e
        generalize tm.getD 5 undef = v5 at e
        generalize tm.getD 6 undef = v6 at e
        generalize tm.getD 7 undef = v7 at e
        generalize tm.getD 8 undef = v8 at e
        generalize tm.getD 9 undef = v9 at e
        generalize tm.getD 10 undef = v10 at e
        generalize tm.getD 11 undef = v11 at e
        generalize tm.getD 12 undef = v12 at e
        generalize tm.getD 13 undef = v13 at e
        generalize tm.getD 14 undef = v14 at e
        generalize tm.getD 15 undef = v15 at e
        generalize tm.getD 16 undef = v16 at e
        generalize tm.getD 17 undef = v17 at e
        generalize tm.getD 18 undef = v18 at e
        generalize tm.getD 19 undef = v19 at e
        generalize tm.getD 20 undef = v20 at e
        generalize tm.getD 21 undef = v21 at e
        generalize tm.getD 22 undef = v22 at e
        generalize tm.getD 23 undef = v23 at e
        generalize tm.getD 24 undef = v24 at e
        generalize tm.getD 25 undef = v25 at e
        generalize tm.getD 26 undef = v26 at e
        generalize tm.getD 27 undef = v27 at e
        generalize tm.getD 28 undef = v28 at e
        generalize tm.getD 29 undef = v29 at e
        generalize tm.getD 30 undef = v30 at e
        generalize tm.getD 31 undef = v31 at e
        generalize tm.getD 32 undef = v32 at e
        generalize tm.getD 33 undef = v33 at e
        generalize tm.getD 34 undef = v34 at e
        generalize tm.getD 35 undef = v35 at e
        generalize tm.getD 36 undef = v36 at e
        generalize tm.getD 37 undef = v37 at e
        generalize tm.getD 38 undef = v38 at e
        generalize tm.getD 39 undef = v39 at e
        generalize tm.getD 40 undef = v40 at e
        generalize tm.getD 41 undef = v41 at e
        generalize tm.getD 42 undef = v42 at e
        generalize tm.getD 43 undef = v43 at e
        generalize tm.getD 44 undef = v44 at e
        generalize tm.getD 45 undef = v45 at e
        generalize tm.getD 46 undef = v46 at e
        generalize tm.getD 47 undef = v47 at e
        generalize tm.getD 48 undef = v48 at e
        generalize tm.getD 49 undef = v49 at e
        generalize tm.getD 50 undef = v50 at e
        generalize tm.getD 51 undef = v51 at e
        generalize tm.getD 52 undef = v52 at e
        generalize tm.getD 53 undef = v53 at e
        generalize tm.getD 54 undef = v54 at e
        generalize tm.getD 55 undef = v55 at e
        generalize tm.getD 56 undef = v56 at e
        generalize tm.getD 57 undef = v57 at e
        generalize tm.getD 58 undef = v58 at e
        generalize tm.getD 59 undef = v59 at e
        generalize tm.getD 60 undef = v60 at e
        generalize tm.getD 61 undef = v61 at e
        generalize tm.getD 62 undef = v62 at e
        generalize tm.getD 63 undef = v63 at e
        generalize tm.getD 64 undef = v64 at e
        generalize tm.getD 65 undef = v65 at e
        generalize tm.getD 66 undef = v66 at e
        generalize tm.getD 67 undef = v67 at e
        generalize tm.getD 68 undef = v68 at e
        generalize tm.getD 69 undef = v69 at e
        generalize tm.getD 70 undef = v70 at e
        generalize tm.getD 71 undef = v71 at e
        generalize tm.getD 72 undef = v72 at e
        generalize tm.getD 73 undef = v73 at e
        generalize tm.getD 74 undef = v74 at e
        generalize tm.getD 75 undef = v75 at e
        generalize tm.getD 76 undef = v76 at e
        generalize tm.getD 77 undef = v77 at e
        generalize tm.getD 78 undef = v78 at e
        generalize tm.getD 79 undef = v79 at e
        generalize tm.getD 80 undef = v80 at e
        generalize tm.getD 82 undef = v82 at e
        generalize tm.getD 83 undef = v83 at e
        generalize tm.getD 84 undef = v84 at e
        generalize tm.getD 85 undef = v85 at e
        generalize tm.getD 86 undef = v86 at e
        generalize tm.getD 87 undef = v87 at e
        generalize tm.getD 88 undef = v88 at e
        generalize tm.getD 89 undef = v89 at e
        generalize tm.getD 90 undef = v90 at e
        generalize tm.getD 91 undef = v91 at e
        generalize tm.getD 92 undef = v92 at e
        generalize tm.getD 93 undef = v93 at e
        generalize tm.getD 94 undef = v94 at e
        generalize tm.getD 95 undef = v95 at e
        generalize tm.getD 96 undef = v96 at e
        generalize tm.getD 97 undef = v97 at e
        generalize tm.getD 98 undef = v98 at e
        generalize tm.getD 99 undef = v99 at e
        generalize tm.getD 100 undef = v100 at e
        generalize tm.getD 101 undef = v101 at e
        generalize tm.getD 102 undef = v102 at e
        generalize tm.getD 103 undef = v103 at e
        generalize tm.getD 104 undef = v104 at e
        generalize tm.getD 105 undef = v105 at e
        generalize tm.getD 106 undef = v106 at e
        generalize tm.getD 107 undef = v107 at e
        generalize tm.getD 108 undef = v108 at e
        generalize tm.getD 109 undef = v109 at e
        generalize tm.getD 110 undef = v110 at e
        generalize tm.getD 111 undef = v111 at e
        generalize tm.getD 112 undef = v112 at e
        generalize tm.getD 113 undef = v113 at e
        generalize tm.getD 114 undef = v114 at e
        generalize tm.getD 115 undef = v115 at e
        generalize tm.getD 116 undef = v116 at e
        generalize tm.getD 117 undef = v117 at e
        generalize tm.getD 118 undef = v118 at e
        generalize tm.getD 119 undef = v119 at e
        generalize tm.getD 120 undef = v120 at e
        generalize tm.getD 121 undef = v121 at e
        generalize tm.getD 122 undef = v122 at e
        generalize tm.getD 123 undef = v123 at e
        generalize tm.getD 124 undef = v124 at e
        generalize tm.getD 125 undef = v125 at e
        generalize tm.getD 126 undef = v126 at e
        generalize tm.getD 127 undef = v127 at e
        generalize tm.getD 128 undef = v128 at e
        generalize tm.getD 129 undef = v129 at e
        generalize tm.getD 130 undef = v130 at e
        generalize tm.getD 131 undef = v131 at e
        generalize tm.getD 132 undef = v132 at e
        generalize tm.getD 133 undef = v133 at e
        generalize tm.getD 134 undef = v134 at e
        generalize tm.getD 135 undef = v135 at e
        generalize tm.getD 136 undef = v136 at e
        generalize tm.getD 137 undef = v137 at e
        generalize tm.getD 138 undef = v138 at e
        generalize tm.getD 139 undef = v139 at e
        generalize tm.getD 140 undef = v140 at e
        generalize tm.getD 141 undef = v141 at e
        generalize tm.getD 142 undef = v142 at e
        generalize tm.getD 143 undef = v143 at e
        generalize tm.getD 144 undef = v144 at e
        generalize tm.getD 145 undef = v145 at e
        generalize tm.getD 146 undef = v146 at e
        generalize tm.getD 147 undef = v147 at e
        generalize tm.getD 148 undef = v148 at e
        subst e
        have hB2 := HB2.out.trans (hC.mono HB2.out.size)
        clear hC hval
        go_wp2_with fail
        refine (HPe.out _ hB2).mono ?_
        rintro e w3 ⟨(⟨hno, rfl⟩ | ⟨⟨hm1, hE⟩, rv, i, rfl, hrest, hfix⟩), hb3⟩
        · have hB3 := hB2.trans (hb3.mono hB2.size)
          clear hno hB2 hb3
          go_wp2_with fail
          go_ret
          exact ⟨rfl, hB3⟩
        · have hB3 := hB2.trans (hb3.mono hB2.size)
          have hsub : ∀ x ∈ itP l i, x ∈ l := fun x hx => (itP_subl l i).subset hx
          have HFix : Hid (∀ j, j < 138 → (posN8 (wd j) (keepL (itP l i) l) (wd j).length).length ≠ 1 ∧ (posN8 (wd j) (keepL (itP l i) l) (wd j).length).length ≠ 2) := Lib.hid (fun j hj => fix_count hsub hfix hj)
          have HMem : Hid (∀ x ∈ keepL (itP l i) l, x ∈ l) := Lib.hid (fun x hx => (List.mem_filter.1 hx).1)
          have HSo := Lib.hid (keep_sorted (S := itP l i) hE)
          have HLL : Hid ((keepL (itP l i) l).length ≤ 100000) := Lib.hid (by have := keepL_le (itP l i) l; omega)
          have HRR := Lib.hid hrest
          have HB3 := Lib.hid hB3
          obtain ⟨hk0, ⟨ra, rc, rb, ro, rfl, hrc, _⟩, _⟩ := hrest
          clear hsub hfix hE hB2 hb3 hB3
          generalize keepL (itP l i) l = L at *
          go_wp2_with fail
          go_loopw [101] (fun vk wr => ∃ k : Nat, k ≤ L.length ∧ vk = .int .i64 k ∧ Below w3.heap.size w3 wr) (fun vk _ => L.length - (intOf vk).toNat)
          case atStart => exact ⟨0, by omega, rfl, Below.refl _ _⟩
          case round =>
            obtain ⟨k, hk, rfl, hb⟩ := hrel
            by_cases hlt : k < L.length
            · have hrr := HRR.out.keep hb
              obtain ⟨_, ⟨xa, xc, xb, xo, hvv, hxc, hxcell⟩, hxr⟩ := hrr
              injection hvv with e1 e2 e3
              subst e1 e3
              obtain ⟨hxa, hxw⟩ := hxcell k hlt
              have hix := run_idx (P := Try.prog) Try.underlying24 Try.sizeInt (cap := rc) hxa hlt _ rfl wr
              have hcont : G.cont l (ixI L k) = true := (G.cont_iff _ _).2 (HMem.out _ (ixI_mem hlt))
              have HCo := Lib.hid (containsI_any _ l (ixI L k) wr (HRd.out.keep (HB3.out.trans (hb.mono HB3.out.size))))
              rw [hcont] at HCo
              have Ha := Lib.hid hxa
              clear hxcell hxr hxa e2 hcont
              generalize ixI L k = y at *
              go_wp2_with fail
              refine HCo.out.mono ?_
              rintro e w4 ⟨rfl, rfl⟩
              go_wp2_with fail
              go_roundw
              case rel => exact ⟨k + 1, by omega, by go_num, hb⟩
              case measure => simp [intOf]; omega
            · go_wp2_with fail
              go_loopw [110] (fun vj wo => ∃ j : Nat, j ≤ 138 ∧ vj = .int .i64 j ∧ Below w3.heap.size w3 wo) (fun vj _ => 138 - (intOf vj).toNat)
              case atStart => exact ⟨0, by omega, rfl, hb⟩
              case round =>
                clear hb
                obtain ⟨j, hj, rfl, hbo⟩ := hrel
                obtain ⟨wo0, rfl⟩ : ∃ w0 : World, w0 = wr := ⟨_, rfl⟩
                by_cases hj138 : j < 138
                · have hjl : (j : Int) < 138 := by omega
                  by_cases hj86 : j < 86
                  · have hwd : wd j = pw j := if_pos hj86
                    have HFx := Lib.hid (HFix.out j hj138)
                    rw [hwd, pw_length] at HFx
                    have HPw := Lib.hid (pword_ok j (j : Int) wo0 rfl hj86)
                    go_wp2_with fail
                    refine HPw.out.mono ?_
                    rintro e W4 ⟨v, rfl, hown, hb3⟩
                    have hri := rdI_own hown (pw_length j) (by omega) (fun x hx => by have := pw_bd hj86 x hx; omega)
                    obtain ⟨wa, wc, rfl⟩ := ownD_form hown
                    obtain ⟨n, hn⟩ : ∃ n : Nat, n = 26 := ⟨_, rfl⟩
                    have HN : Hid ((pw j).length = n) := Lib.hid (by rw [hn, pw_length])
                    have HWs := Lib.hid hri
                    rw [← hn] at HFx HWs ⊢
                    clear hown hri hwd
                    generalize pw j = ws at *
                    have hn45 : n ≤ 45 := by omega
                    clear hn
                    have hb4 := hbo.trans (hb3.mono hbo.size)
                    clear hbo hb3
                    go_wp2_with fail
                    go_loopw [16, 128] (fun vc vt wi => ∃ t : Nat, t ≤ n ∧ vt = .int .i64 t ∧ vc = .int .i64 ((posN8 ws L t).length : Int) ∧ Below W4.heap.size W4 wi ∧ Below w3.heap.size w3 wi) (fun _ vt _ => n - (intOf vt).toNat)
                    case atStart => exact ⟨0, by omega, rfl, rfl, Below.refl _ _, hb4⟩
                    case round =>
                      obtain ⟨t, ht, rfl, rfl, hbi, hbj⟩ := hrel
                      by_cases hlt2 : t < n
                      · have hws := HWs.out.keep hbi
                        obtain ⟨_, ⟨xa, xc, xb, xo, hvv, hxc, hxcell⟩, hxr⟩ := hws
                        injection hvv with e1 e2 e3
                        subst e1 e3
                        obtain ⟨hxa, hxw⟩ := hxcell t (by rw [HN.out]; exact hlt2)
                        have hix := run_idx (P := Try.prog) Try.underlying24 Try.sizeInt (cap := wc) hxa hlt2 _ rfl wr
                        have HBs := Lib.hid (fun W (hW : Below w3.heap.size w3 W) => bsearch_any (.slice ra L.length rc) L (ixI ws t) W (HRR.out.keep hW) HLL.out HSo.out)
                        have hps : posN8 ws L (t + 1) = if L.contains (ixI ws t) = true then posN8 ws L t ++ [(t : Int)] else posN8 ws L t := rfl
                        have hpl := posN8_len ws L t
                        have Ha := Lib.hid hxa
                        have HB2 := Lib.hid hbi; have HB3 := Lib.hid hbj
                        clear hxcell hxr hxa e2 hbi hbj
                        generalize ixI ws t = y at *
                        cases hcc : L.contains y with
                        | true =>
                          rw [hcc, if_pos rfl] at hps
                          have HPs : Hid ((posN8 ws L (t + 1)).length = (posN8 ws L t).length + 1) := Lib.hid (by rw [hps, List.length_append]; rfl)
                          rw [hcc] at HBs
                          clear hcc hps
                          generalize (posN8 ws L t).length = q at *
                          go_wp2_with fail
                          refine (HBs.out _ HB3.out).mono ?_
                          rintro e w5 ⟨⟨p, rfl⟩, hb5⟩
                          have HB4 := Lib.hid (HB2.out.trans (hb5.mono HB2.out.size)); have HB5 := Lib.hid (HB3.out.trans (hb5.mono HB3.out.size))
                          clear hb5
                          go_wp2_with fail
                          go_roundw
                          case rel => exact ⟨t + 1, by omega, by go_num, by rw [HPs.out]; go_num, HB4.out, HB5.out⟩
                          case measure => simp [intOf]; omega
                        | false =>
                          rw [hcc, if_neg (by decide)] at hps
                          have HPs : Hid ((posN8 ws L (t + 1)).length = (posN8 ws L t).length) := Lib.hid (by rw [hps])
                          rw [hcc] at HBs
                          clear hcc hps
                          generalize (posN8 ws L t).length = q at *
                          go_wp2_with fail
                          refine (HBs.out _ HB3.out).mono ?_
                          rintro e w5 ⟨⟨p, rfl⟩, hb5⟩
                          have HB4 := Lib.hid (HB2.out.trans (hb5.mono HB2.out.size)); have HB5 := Lib.hid (HB3.out.trans (hb5.mono HB3.out.size))
                          clear hb5
                          go_wp2_with fail
                          go_roundw
                          case rel => exact ⟨t + 1, by omega, by go_num, by rw [HPs.out], HB4.out, HB5.out⟩
                          case measure => simp [intOf]; omega
                      · obtain rfl : n = t := by omega
                        have hf1 := HFx.out.1; have hf2 := HFx.out.2
                        generalize (posN8 ws L n).length = q at *
                        have hq1 : ((q : Int) == 1) = false := by simp; omega
                        have hq2 : ((q : Int) == 2) = false := by simp; omega
                        clear hf1 hf2
                        go_wp2_with fail
                        go_roundw
                        case rel => exact ⟨j + 1, by omega, by go_num, hbj⟩
                        case measure => simp [intOf]; omega
                  · have hwd : wd j = qw (j - 86) := if_neg hj86
                    have HFx := Lib.hid (HFix.out j hj138)
                    rw [hwd, qw_length] at HFx
                    have HPw := Lib.hid (pword_bad (j : Int) wo0 (.inr (by omega)))
                    have HQw := Lib.hid (qword_ok (j - 86) ((j : Int) - 86) wo0 (by omega) (by omega))
                    go_wp2_with fail
                    refine HPw.out.mono ?_
                    rintro e W9 ⟨rfl, rfl⟩
                    go_wp2_with fail
                    refine HQw.out.mono ?_
                    rintro e W4 ⟨v, rfl, hown, hb3⟩
                    have hri := rdI_own hown (qw_length (j - 86)) (by omega) (fun x hx => by have := qw_bd (m := j - 86) (by omega) x hx; omega)
                    obtain ⟨wa, wc, rfl⟩ := ownD_form hown
                    obtain ⟨n, hn⟩ : ∃ n : Nat, n = 45 := ⟨_, rfl⟩
                    have HN : Hid ((qw (j - 86)).length = n) := Lib.hid (by rw [hn, qw_length])
                    have HWs := Lib.hid hri
                    rw [← hn] at HFx HWs ⊢
                    clear hown hri hwd
                    generalize qw (j - 86) = ws at *
                    have hn45 : n ≤ 45 := by omega
                    clear hn
                    have hb4 := hbo.trans (hb3.mono hbo.size)
                    clear hbo hb3
                    go_wp2_with fail
                    go_loopw [16, 128] (fun vc vt wi => ∃ t : Nat, t ≤ n ∧ vt = .int .i64 t ∧ vc = .int .i64 ((posN8 ws L t).length : Int) ∧ Below W4.heap.size W4 wi ∧ Below w3.heap.size w3 wi) (fun _ vt _ => n - (intOf vt).toNat)
                    case atStart => exact ⟨0, by omega, rfl, rfl, Below.refl _ _, hb4⟩
                    case round =>
                      obtain ⟨t, ht, rfl, rfl, hbi, hbj⟩ := hrel
                      by_cases hlt2 : t < n
                      · have hws := HWs.out.keep hbi
                        obtain ⟨_, ⟨xa, xc, xb, xo, hvv, hxc, hxcell⟩, hxr⟩ := hws
                        injection hvv with e1 e2 e3
                        subst e1 e3
                        obtain ⟨hxa, hxw⟩ := hxcell t (by rw [HN.out]; exact hlt2)
                        have hix := run_idx (P := Try.prog) Try.underlying24 Try.sizeInt (cap := wc) hxa hlt2 _ rfl wr
                        have HBs := Lib.hid (fun W (hW : Below w3.heap.size w3 W) => bsearch_any (.slice ra L.length rc) L (ixI ws t) W (HRR.out.keep hW) HLL.out HSo.out)
                        have hps : posN8 ws L (t + 1) = if L.contains (ixI ws t) = true then posN8 ws L t ++ [(t : Int)] else posN8 ws L t := rfl
                        have hpl := posN8_len ws L t
                        have Ha := Lib.hid hxa
                        have HB2 := Lib.hid hbi; have HB3 := Lib.hid hbj
                        clear hxcell hxr hxa e2 hbi hbj
                        generalize ixI ws t = y at *
                        cases hcc : L.contains y with
                        | true =>
                          rw [hcc, if_pos rfl] at hps
                          have HPs : Hid ((posN8 ws L (t + 1)).length = (posN8 ws L t).length + 1) := Lib.hid (by rw [hps, List.length_append]; rfl)
                          rw [hcc] at HBs
                          clear hcc hps
                          generalize (posN8 ws L t).length = q at *
                          go_wp2_with fail
                          refine (HBs.out _ HB3.out).mono ?_
                          rintro e w5 ⟨⟨p, rfl⟩, hb5⟩
                          have HB4 := Lib.hid (HB2.out.trans (hb5.mono HB2.out.size)); have HB5 := Lib.hid (HB3.out.trans (hb5.mono HB3.out.size))
                          clear hb5
                          go_wp2_with fail
                          go_roundw
                          case rel => exact ⟨t + 1, by omega, by go_num, by rw [HPs.out]; go_num, HB4.out, HB5.out⟩
                          case measure => simp [intOf]; omega
                        | false =>
                          rw [hcc, if_neg (by decide)] at hps
                          have HPs : Hid ((posN8 ws L (t + 1)).length = (posN8 ws L t).length) := Lib.hid (by rw [hps])
                          rw [hcc] at HBs
                          clear hcc hps
                          generalize (posN8 ws L t).length = q at *
                          go_wp2_with fail
                          refine (HBs.out _ HB3.out).mono ?_
                          rintro e w5 ⟨⟨p, rfl⟩, hb5⟩
                          have HB4 := Lib.hid (HB2.out.trans (hb5.mono HB2.out.size)); have HB5 := Lib.hid (HB3.out.trans (hb5.mono HB3.out.size))
                          clear hb5
                          go_wp2_with fail
                          go_roundw
                          case rel => exact ⟨t + 1, by omega, by go_num, by rw [HPs.out], HB4.out, HB5.out⟩
                          case measure => simp [intOf]; omega
                      · obtain rfl : n = t := by omega
                        have hf1 := HFx.out.1; have hf2 := HFx.out.2
                        generalize (posN8 ws L n).length = q at *
                        have hq1 : ((q : Int) == 1) = false := by simp; omega
                        have hq2 : ((q : Int) == 2) = false := by simp; omega
                        clear hf1 hf2
                        go_wp2_with fail
                        go_roundw
                        case rel => exact ⟨j + 1, by omega, by go_num, hbj⟩
                        case measure => simp [intOf]; omega
                · obtain rfl : j = 138 := by omega
                  go_wp2_with fail
                  go_ret
                  exact ⟨rfl, HB3.out.trans (hbo.mono HB3.out.size)⟩
    · have HQ1 : Hid ((m == 1) = false) := Lib.hid (by simpa using hm1)
      clear hm1 HXZ0
      have HB2 := Lib.hid hB2
      clear hB2
      go_wp2_with fail
      refine wp_region_inr (by kernel_rfl) (fun w W => Below w.heap.size w W) (fun W => Below w1.heap.size w1 W) (snd0V A Y P12 P16 m N) (fun i => i == 27 || i == 28 || i == 29 || i == 30 || i == 31) (by kernel_rfl) (fun W W' hb h => h.trans (hb.mono h.size)) (snd0V_keep A Y P12 P16 m N) ((Below.refl _ _).drew) ⟨?_, ?_, ?_, ?_, ?_, ?_, ?_, ?_, ?_, ?_, ?_, ?_, ?_, ?_, ?_, ?_, ?_, ?_, ?_, ?_, ?_, ?_, ?_, ?_, ?_, ?_, ?_, ?_, ?_, ?_, ?_, ?_, ?_, ?_, ?_, ?_, ?_, ?_, ?_, ?_, ?_, trivial⟩ ?_
      · intro a W hc hsz hold hdep
        have o7 : a.tmps.getD 7 undef = .string Y := hold 7 (by kernel_rfl)
        clear hsz hold hdep
        refine stepR_do rfl (wanted_none rfl) ?_
        refine stepR_val (v := .string Y) (Below.refl _ _) rfl fun K hK => ?_
        go_simp
        exact hK
      · intro a W hc hsz hold hdep
        have d0 : a.tmps.getD 41 undef = .string Y := hdep 0 (by kernel_rfl) rfl _ rfl
        have e0 : a.tmps[41]?.getD undef = .string Y := by rw [← Array.getD_eq_getD_getElem?]; exact d0
        have hs := HSY.out
        clear hsz hold hdep
        refine stepR_do rfl (wanted_none rfl) ?_
        refine stepR_val (v := .int .i64 2352) (Below.refl _ _) rfl fun K hK => ?_
        go_simp
        exact hK
      · intro a W hc hsz hold hdep
        have o0 : a.tmps.getD 0 undef = .string A := hold 0 (by kernel_rfl)
        clear hsz hold hdep
        refine stepR_do rfl (wanted_none rfl) ?_
        refine stepR_val (v := .string A) (Below.refl _ _) rfl fun K hK => ?_
        go_simp
        exact hK
      · intro a W hc hsz hold hdep
        have d2 : a.tmps.getD 43 undef = .string A := hdep 2 (by kernel_rfl) rfl _ rfl
        have e2 : a.tmps[43]?.getD undef = .string A := by rw [← Array.getD_eq_getD_getElem?]; exact d2
        have hs := HSA.out
        clear hsz hold hdep
        refine stepR_do rfl (wanted_none rfl) ?_
        refine stepR_val (v := .int .i64 2352) (Below.refl _ _) rfl fun K hK => ?_
        go_simp
        exact hK
      · intro a W hc hsz hold hdep
        have d1 : a.tmps.getD 42 undef = .int .i64 2352 := hdep 1 (by kernel_rfl) rfl _ rfl
        have d3 : a.tmps.getD 44 undef = .int .i64 2352 := hdep 3 (by kernel_rfl) rfl _ rfl
        clear hsz hold hdep
        refine stepR_do rfl (wanted_none rfl) ?_
        refine stepR_val (v := .bool false) (Below.refl _ _) rfl fun K hK => ?_
        go_simp
        exact hK
      · intro a W hc hsz hold hdep
        have d4 : a.tmps.getD 45 undef = .bool false := hdep 4 (by kernel_rfl) rfl _ rfl
        clear hsz hold hdep
        refine stepR_do rfl (wanted_none rfl) ?_
        refine stepR_val (v := .bool false) (Below.refl _ _) rfl fun K hK => ?_
        go_simp
        exact hK
      · intro a W hc hsz hold hdep
        have o7 : a.tmps.getD 7 undef = .string Y := hold 7 (by kernel_rfl)
        have g6 : a.tmps.getD 46 undef = .bool false := hdep 5 (by kernel_rfl) rfl _ rfl
        clear hsz hold hdep
        refine stepR_do rfl ((wanted_of (want := false) rfl rfl g6).trans rfl) ?_
        clear g6
        refine stepR_val (v := .string Y) (Below.refl _ _) rfl fun K hK => ?_
        go_simp
        exact hK
      · intro a W hc hsz hold hdep
        have d6 : a.tmps.getD 47 undef = .string Y := hdep 6 (by kernel_rfl) rfl _ rfl
        have e6 : a.tmps[47]?.getD undef = .string Y := by rw [← Array.getD_eq_getD_getElem?]; exact d6
        have g7 : a.tmps.getD 46 undef = .bool false := hdep 5 (by kernel_rfl) rfl _ rfl
        have hs := HSY.out
        clear hsz hold hdep
        refine stepR_do rfl ((wanted_of (want := false) rfl rfl g7).trans rfl) ?_
        clear g7
        refine stepR_val (v := .int .i64 2352) (Below.refl _ _) rfl fun K hK => ?_
        go_simp
        exact hK
      · intro a W hc hsz hold hdep
        have d7 : a.tmps.getD 48 undef = .int .i64 2352 := hdep 7 (by kernel_rfl) rfl _ rfl
        have g8 : a.tmps.getD 46 undef = .bool false := hdep 5 (by kernel_rfl) rfl _ rfl
        clear hsz hold hdep
        refine stepR_do rfl ((wanted_of (want := false) rfl rfl g8).trans rfl) ?_
        clear g8
        refine stepR_val (v := .bool false) (Below.refl _ _) rfl fun K hK => ?_
        go_simp
        exact hK
      · intro a W hc hsz hold hdep
        have d5 : a.tmps.getD 46 undef = .bool false := hdep 5 (by kernel_rfl) rfl _ rfl
        have d8 : a.tmps.getD 49 undef = .bool false := hdep 8 (by kernel_rfl) rfl _ rfl
        clear hsz hold hdep
        refine stepR_do rfl (wanted_none rfl) ?_
        refine stepR_val (v := .bool false) (Below.refl _ _) rfl fun K hK => ?_
        go_simp
        exact hK
      · intro a W hc hsz hold hdep
        have d9 : a.tmps.getD 50 undef = .bool false := hdep 9 (by kernel_rfl) rfl _ rfl
        clear hsz hold hdep
        refine stepR_do rfl (wanted_none rfl) ?_
        refine stepR_val (v := .bool false) (Below.refl _ _) rfl fun K hK => ?_
        go_simp
        exact hK
      · intro a W hc hsz hold hdep
        have o7 : a.tmps.getD 7 undef = .string Y := hold 7 (by kernel_rfl)
        have g11 : a.tmps.getD 51 undef = .bool false := hdep 10 (by kernel_rfl) rfl _ rfl
        clear hsz hold hdep
        refine stepR_do rfl ((wanted_of (want := false) rfl rfl g11).trans rfl) ?_
        clear g11
        refine stepR_val (v := .string Y) (Below.refl _ _) rfl fun K hK => ?_
        go_simp
        exact hK
      · intro a W hc hsz hold hdep
        have o1 : a.tmps.getD 1 undef = .int .i64 m := hold 1 (by kernel_rfl)
        have g12 : a.tmps.getD 51 undef = .bool false := hdep 10 (by kernel_rfl) rfl _ rfl
        clear hsz hold hdep
        refine stepR_do rfl ((wanted_of (want := false) rfl rfl g12).trans rfl) ?_
        clear g12
        refine stepR_val (v := .int .i64 m) (Below.refl _ _) rfl fun K hK => ?_
        go_simp
        exact hK
      · intro a W hc hsz hold hdep
        have d11 : a.tmps.getD 52 undef = .string Y := hdep 11 (by kernel_rfl) rfl _ rfl
        have e11 : a.tmps[52]?.getD undef = .string Y := by rw [← Array.getD_eq_getD_getElem?]; exact d11
        have d12 : a.tmps.getD 53 undef = .int .i64 m := hdep 12 (by kernel_rfl) rfl _ rfl
        have e12 : a.tmps[53]?.getD undef = .int .i64 m := by rw [← Array.getD_eq_getD_getElem?]; exact d12
        have g13 : a.tmps.getD 51 undef = .bool false := hdep 10 (by kernel_rfl) rfl _ rfl
        clear hsz hold hdep
        refine stepR_do rfl ((wanted_of (want := false) rfl rfl g13).trans rfl) ?_
        clear g13
        refine stepR_call (v := .bool true) (fun W' hb => hb) (fun _ => rfl) fun K hK => ?_
        go_simp
        refine (HV.out W).mono ?_
        rintro e w' ⟨rfl, hb'⟩
        exact hK _ hb'
      · intro a W hc hsz hold hdep
        have d13 : a.tmps.getD 54 undef = .bool true := hdep 13 (by kernel_rfl) rfl _ rfl
        have g14 : a.tmps.getD 51 undef = .bool false := hdep 10 (by kernel_rfl) rfl _ rfl
        clear hsz hold hdep
        refine stepR_do rfl ((wanted_of (want := false) rfl rfl g14).trans rfl) ?_
        clear g14
        refine stepR_val (v := .bool false) (Below.refl _ _) rfl fun K hK => ?_
        go_simp
        exact hK
      · intro a W hc hsz hold hdep
        have d10 : a.tmps.getD 51 undef = .bool false := hdep 10 (by kernel_rfl) rfl _ rfl
        have d14 : a.tmps.getD 55 undef = .bool false := hdep 14 (by kernel_rfl) rfl _ rfl
        clear hsz hold hdep
        refine stepR_do rfl (wanted_none rfl) ?_
        refine stepR_val (v := .bool false) (Below.refl _ _) rfl fun K hK => ?_
        go_simp
        exact hK
      · intro a W hc hsz hold hdep
        have d15 : a.tmps.getD 56 undef = .bool false := hdep 15 (by kernel_rfl) rfl _ rfl
        clear hsz hold hdep
        refine stepR_do rfl (wanted_none rfl) ?_
        refine stepR_val (v := .bool false) (Below.refl _ _) rfl fun K hK => ?_
        go_simp
        exact hK
      · intro a W hc hsz hold hdep
        have o7 : a.tmps.getD 7 undef = .string Y := hold 7 (by kernel_rfl)
        have g17 : a.tmps.getD 57 undef = .bool false := hdep 16 (by kernel_rfl) rfl _ rfl
        clear hsz hold hdep
        refine stepR_do rfl ((wanted_of (want := false) rfl rfl g17).trans rfl) ?_
        clear g17
        refine stepR_val (v := .string Y) (Below.refl _ _) rfl fun K hK => ?_
        go_simp
        exact hK
      · intro a W hc hsz hold hdep
        have d17 : a.tmps.getD 58 undef = .string Y := hdep 17 (by kernel_rfl) rfl _ rfl
        have g18 : a.tmps.getD 57 undef = .bool false := hdep 16 (by kernel_rfl) rfl _ rfl
        have hs := HSY.out
        have hx := HXY.out
        clear hsz hold hdep
        refine stepR_do rfl ((wanted_of (want := false) rfl rfl g18).trans rfl) ?_
        clear g18
        refine stepR_val (v := .string P12) (Below.refl _ _) rfl fun K hK => ?_
        go_simp
        exact hK
      · intro a W hc hsz hold hdep
        have o0 : a.tmps.getD 0 undef = .string A := hold 0 (by kernel_rfl)
        have g19 : a.tmps.getD 57 undef = .bool false := hdep 16 (by kernel_rfl) rfl _ rfl
        clear hsz hold hdep
        refine stepR_do rfl ((wanted_of (want := false) rfl rfl g19).trans rfl) ?_
        clear g19
        refine stepR_val (v := .string A) (Below.refl _ _) rfl fun K hK => ?_
        go_simp
        exact hK
      · intro a W hc hsz hold hdep
        have d19 : a.tmps.getD 60 undef = .string A := hdep 19 (by kernel_rfl) rfl _ rfl
        have g20 : a.tmps.getD 57 undef = .bool false := hdep 16 (by kernel_rfl) rfl _ rfl
        have hs := HSA.out
        have hx := HXA.out
        clear hsz hold hdep
        refine stepR_do rfl ((wanted_of (want := false) rfl rfl g20).trans rfl) ?_
        clear g20
        refine stepR_val (v := .string P12) (Below.refl _ _) rfl fun K hK => ?_
        go_simp
        exact hK
      · intro a W hc hsz hold hdep
        have d18 : a.tmps.getD 59 undef = .string P12 := hdep 18 (by kernel_rfl) rfl _ rfl
        have d20 : a.tmps.getD 61 undef = .string P12 := hdep 20 (by kernel_rfl) rfl _ rfl
        have g21 : a.tmps.getD 57 undef = .bool false := hdep 16 (by kernel_rfl) rfl _ rfl
        clear hsz hold hdep
        refine stepR_do rfl ((wanted_of (want := false) rfl rfl g21).trans rfl) ?_
        clear g21
        refine stepR_val (v := .bool false) (Below.refl _ _) rfl fun K hK => ?_
        go_simp
        exact hK
      · intro a W hc hsz hold hdep
        have d16 : a.tmps.getD 57 undef = .bool false := hdep 16 (by kernel_rfl) rfl _ rfl
        have d21 : a.tmps.getD 62 undef = .bool false := hdep 21 (by kernel_rfl) rfl _ rfl
        clear hsz hold hdep
        refine stepR_do rfl (wanted_none rfl) ?_
        refine stepR_val (v := .bool false) (Below.refl _ _) rfl fun K hK => ?_
        go_simp
        exact hK
      · intro a W hc hsz hold hdep
        have d22 : a.tmps.getD 63 undef = .bool false := hdep 22 (by kernel_rfl) rfl _ rfl
        clear hsz hold hdep
        refine stepR_do rfl (wanted_none rfl) ?_
        refine stepR_val (v := .bool false) (Below.refl _ _) rfl fun K hK => ?_
        go_simp
        exact hK
      · intro a W hc hsz hold hdep
        have o1 : a.tmps.getD 1 undef = .int .i64 m := hold 1 (by kernel_rfl)
        have g24 : a.tmps.getD 64 undef = .bool false := hdep 23 (by kernel_rfl) rfl _ rfl
        clear hsz hold hdep
        refine stepR_do rfl ((wanted_of (want := false) rfl rfl g24).trans rfl) ?_
        clear g24
        refine stepR_val (v := .int .i64 m) (Below.refl _ _) rfl fun K hK => ?_
        go_simp
        exact hK
      · intro a W hc hsz hold hdep
        have d24 : a.tmps.getD 65 undef = .int .i64 m := hdep 24 (by kernel_rfl) rfl _ rfl
        have g25 : a.tmps.getD 64 undef = .bool false := hdep 23 (by kernel_rfl) rfl _ rfl
        have hq := HQ1.out
        clear hsz hold hdep
        refine stepR_do rfl ((wanted_of (want := false) rfl rfl g25).trans rfl) ?_
        clear g25
        refine stepR_val (v := .bool false) (Below.refl _ _) rfl fun K hK => ?_
        go_simp
        exact hK
      · intro a W hc hsz hold hdep
        have d25 : a.tmps.getD 66 undef = .bool false := hdep 25 (by kernel_rfl) rfl _ rfl
        have g26 : a.tmps.getD 64 undef = .bool false := hdep 23 (by kernel_rfl) rfl _ rfl
        clear hsz hold hdep
        refine stepR_do rfl ((wanted_of (want := false) rfl rfl g26).trans rfl) ?_
        clear g26
        refine stepR_val (v := .bool false) (Below.refl _ _) rfl fun K hK => ?_
        go_simp
        exact hK
      · intro a W hc hsz hold hdep
        have g27 : a.tmps.getD 67 undef = .bool false := hdep 26 (by kernel_rfl) rfl _ rfl
        exact stepR_skip rfl ((wanted_of (want := true) rfl rfl g27).trans rfl)
      · intro a W hc hsz hold hdep
        have g28 : a.tmps.getD 67 undef = .bool false := hdep 26 (by kernel_rfl) rfl _ rfl
        exact stepR_skip rfl ((wanted_of (want := true) rfl rfl g28).trans rfl)
      · intro a W hc hsz hold hdep
        have g29 : a.tmps.getD 67 undef = .bool false := hdep 26 (by kernel_rfl) rfl _ rfl
        exact stepR_skip rfl ((wanted_of (want := true) rfl rfl g29).trans rfl)
      · intro a W hc hsz hold hdep
        have g30 : a.tmps.getD 67 undef = .bool false := hdep 26 (by kernel_rfl) rfl _ rfl
        exact stepR_skip rfl ((wanted_of (want := true) rfl rfl g30).trans rfl)
      · intro a W hc hsz hold hdep
        have g31 : a.tmps.getD 67 undef = .bool false := hdep 26 (by kernel_rfl) rfl _ rfl
        exact stepR_skip rfl ((wanted_of (want := true) rfl rfl g31).trans rfl)
      · intro a W hc hsz hold hdep
        have d26 : a.tmps.getD 67 undef = .bool false := hdep 26 (by kernel_rfl) rfl _ rfl
        have g32 : a.tmps.getD 64 undef = .bool false := hdep 23 (by kernel_rfl) rfl _ rfl
        clear hsz hold hdep
        refine stepR_do rfl ((wanted_of (want := false) rfl rfl g32).trans rfl) ?_
        clear g32
        refine stepR_val (v := .bool false) (Below.refl _ _) rfl fun K hK => ?_
        go_simp
        exact hK
      · intro a W hc hsz hold hdep
        have d23 : a.tmps.getD 64 undef = .bool false := hdep 23 (by kernel_rfl) rfl _ rfl
        have d32 : a.tmps.getD 73 undef = .bool false := hdep 32 (by kernel_rfl) rfl _ rfl
        clear hsz hold hdep
        refine stepR_do rfl (wanted_none rfl) ?_
        refine stepR_val (v := .bool false) (Below.refl _ _) rfl fun K hK => ?_
        go_simp
        exact hK
      · intro a W hc hsz hold hdep
        have d33 : a.tmps.getD 74 undef = .bool false := hdep 33 (by kernel_rfl) rfl _ rfl
        clear hsz hold hdep
        refine stepR_do rfl (wanted_none rfl) ?_
        refine stepR_val (v := .bool false) (Below.refl _ _) rfl fun K hK => ?_
        go_simp
        exact hK
      · intro a W hc hsz hold hdep
        have o8 : a.tmps.getD 8 undef = .int .i64 N := hold 8 (by kernel_rfl)
        have g35 : a.tmps.getD 75 undef = .bool false := hdep 34 (by kernel_rfl) rfl _ rfl
        clear hsz hold hdep
        refine stepR_do rfl ((wanted_of (want := false) rfl rfl g35).trans rfl) ?_
        clear g35
        refine stepR_val (v := .int .i64 N) (Below.refl _ _) rfl fun K hK => ?_
        go_simp
        exact hK
      · intro a W hc hsz hold hdep
        have o7 : a.tmps.getD 7 undef = .string Y := hold 7 (by kernel_rfl)
        have g36 : a.tmps.getD 75 undef = .bool false := hdep 34 (by kernel_rfl) rfl _ rfl
        clear hsz hold hdep
        refine stepR_do rfl ((wanted_of (want := false) rfl rfl g36).trans rfl) ?_
        clear g36
        refine stepR_val (v := .string Y) (Below.refl _ _) rfl fun K hK => ?_
        go_simp
        exact hK
      · intro a W hc hsz hold hdep
        have o0 : a.tmps.getD 0 undef = .string A := hold 0 (by kernel_rfl)
        have g37 : a.tmps.getD 75 undef = .bool false := hdep 34 (by kernel_rfl) rfl _ rfl
        clear hsz hold hdep
        refine stepR_do rfl ((wanted_of (want := false) rfl rfl g37).trans rfl) ?_
        clear g37
        refine stepR_val (v := .string A) (Below.refl _ _) rfl fun K hK => ?_
        go_simp
        exact hK
      · intro a W hc hsz hold hdep
        have d36 : a.tmps.getD 77 undef = .string Y := hdep 36 (by kernel_rfl) rfl _ rfl
        have e36 : a.tmps[77]?.getD undef = .string Y := by rw [← Array.getD_eq_getD_getElem?]; exact d36
        have d37 : a.tmps.getD 78 undef = .string A := hdep 37 (by kernel_rfl) rfl _ rfl
        have e37 : a.tmps[78]?.getD undef = .string A := by rw [← Array.getD_eq_getD_getElem?]; exact d37
        have g38 : a.tmps.getD 75 undef = .bool false := hdep 34 (by kernel_rfl) rfl _ rfl
        clear hsz hold hdep
        refine stepR_do rfl ((wanted_of (want := false) rfl rfl g38).trans rfl) ?_
        clear g38
        refine stepR_call (v := .int .i64 N) (fun W' hb => hb) (fun _ => rfl) fun K hK => ?_
        go_simp
        refine (HDi.out W).mono ?_
        rintro e w' ⟨rfl, hb'⟩
        exact hK _ hb'
      · intro a W hc hsz hold hdep
        have d35 : a.tmps.getD 76 undef = .int .i64 N := hdep 35 (by kernel_rfl) rfl _ rfl
        have d38 : a.tmps.getD 79 undef = .int .i64 N := hdep 38 (by kernel_rfl) rfl _ rfl
        have g39 : a.tmps.getD 75 undef = .bool false := hdep 34 (by kernel_rfl) rfl _ rfl
        clear hsz hold hdep
        refine stepR_do rfl ((wanted_of (want := false) rfl rfl g39).trans rfl) ?_
        clear g39
        refine stepR_val (v := .bool false) (Below.refl _ _) rfl fun K hK => ?_
        go_simp
        exact hK
      · intro a W hc hsz hold hdep
        have d34 : a.tmps.getD 75 undef = .bool false := hdep 34 (by kernel_rfl) rfl _ rfl
        have d39 : a.tmps.getD 80 undef = .bool false := hdep 39 (by kernel_rfl) rfl _ rfl
        clear hsz hold hdep
        refine stepR_do rfl (wanted_none rfl) ?_
        refine stepR_val (v := .bool false) (Below.refl _ _) rfl fun K hK => ?_
        go_simp
        exact hK
      · intro a W hC hd hsz hold hval
        have d1 : a.tmps.getD 1 undef = .int .i64 m := hold 1 (by kernel_rfl)
        have d2 : a.tmps.getD 2 undef = .slice sa l.length sc := hold 2 (by kernel_rfl)
        have d81 : a.tmps.getD 81 undef = .bool false := hval 40 _ rfl rfl
        clear hold
        obtain ⟨tm, df⟩ := a
        replace hd : df = [] := hd
        replace hsz : tm.size = 149 := hsz
        replace d1 : tm.getD 1 undef = .int .i64 m := d1
        replace d2 : tm.getD 2 undef = .slice sa l.length sc := d2
        replace d81 : tm.getD 81 undef = .bool false := d81
        subst hd
        have e : tm = List.toArray (tm.getD 0 undef :: tm.getD 1 undef :: tm.getD 2 undef :: tm.getD 3 undef :: tm.getD 4 undef :: tm.getD 5 undef :: tm.getD 6 undef :: tm.getD 7 undef :: tm.getD 8 undef :: tm.getD 9 undef :: tm.getD 10 undef :: tm.getD 11 undef :: tm.getD 12 undef :: tm.getD 13 undef :: tm.getD 14 undef :: tm.getD 15 undef :: tm.getD 16 undef :: tm.getD 17 undef :: tm.getD 18 undef :: tm.getD 19 undef :: tm.getD 20 undef :: tm.getD 21 undef :: tm.getD 22 undef :: tm.getD 23 undef :: tm.getD 24 undef :: tm.getD 25 undef :: tm.getD 26 undef :: tm.getD 27 undef :: tm.getD 28 undef :: tm.getD 29 undef :: tm.getD 30 undef :: tm.getD 31 undef :: tm.getD 32 undef :: tm.getD 33 undef :: tm.getD 34 undef :: tm.getD 35 undef :: tm.getD 36 undef :: tm.getD 37 undef :: tm.getD 38 undef :: tm.getD 39 undef :: tm.getD 40 undef :: tm.getD 41 undef :: tm.getD 42 undef :: tm.getD 43 undef :: tm.getD 44 undef :: tm.getD 45 undef :: tm.getD 46 undef :: tm.getD 47 undef :: tm.getD 48 undef :: tm.getD 49 undef :: tm.getD 50 undef :: tm.getD 51 undef :: tm.getD 52 undef :: tm.getD 53 undef :: tm.getD 54 undef :: tm.getD 55 undef :: tm.getD 56 undef :: tm.getD 57 undef :: tm.getD 58 undef :: tm.getD 59 undef :: tm.getD 60 undef :: tm.getD 61 undef :: tm.getD 62 undef :: tm.getD 63 undef :: tm.getD 64 undef :: tm.getD 65 undef :: tm.getD 66 undef :: tm.getD 67 undef :: tm.getD 68 undef :: tm.getD 69 undef :: tm.getD 70 undef :: tm.getD 71 undef :: tm.getD 72 undef :: tm.getD 73 undef :: tm.getD 74 undef :: tm.getD 75 undef :: tm.getD 76 undef :: tm.getD 77 undef :: tm.getD 78 undef :: tm.getD 79 undef :: tm.getD 80 undef :: tm.getD 81 undef :: tm.getD 82 undef :: tm.getD 83 undef :: tm.getD 84 undef :: tm.getD 85 undef :: tm.getD 86 undef :: tm.getD 87 undef :: tm.getD 88 undef :: tm.getD 89 undef :: tm.getD 90 undef :: tm.getD 91 undef :: tm.getD 92 undef :: tm.getD 93 undef :: tm.getD 94 undef :: tm.getD 95 undef :: tm.getD 96 undef :: tm.getD 97 undef :: tm.getD 98 undef :: tm.getD 99 undef :: tm.getD 100 undef :: tm.getD 101 undef :: tm.getD 102 undef :: tm.getD 103 undef :: tm.getD 104 undef :: tm.getD 105 undef :: tm.getD 106 undef :: tm.getD 107 undef :: tm.getD 108 undef :: tm.getD 109 undef :: tm.getD 110 undef :: tm.getD 111 undef :: tm.getD 112 undef :: tm.getD 113 undef :: tm.getD 114 undef :: tm.getD 115 undef :: tm.getD 116 undef :: tm.getD 117 undef :: tm.getD 118 undef :: tm.getD 119 undef :: tm.getD 120 undef :: tm.getD 121 undef :: tm.getD 122 undef :: tm.getD 123 undef :: tm.getD 124 undef :: tm.getD 125 undef :: tm.getD 126 undef :: tm.getD 127 undef :: tm.getD 128 undef :: tm.getD 129 undef :: tm.getD 130 undef :: tm.getD 131 undef :: tm.getD 132 undef :: tm.getD 133 undef :: tm.getD 134 undef :: tm.getD 135 undef :: tm.getD 136 undef :: tm.getD 137 undef :: tm.getD 138 undef :: tm.getD 139 undef :: tm.getD 140 undef :: tm.getD 141 undef :: tm.getD 142 undef :: tm.getD 143 undef :: tm.getD 144 undef :: tm.getD 145 undef :: tm.getD 146 undef :: tm.getD 147 undef :: tm.getD 148 undef :: []) := arr_eq tm 149 hsz
        rw [d1, d2, d81] at e
        clear d1 d2 d81 hsz
        generalize tm.getD 0 undef = v0 at e
        generalize tm.getD 3 undef = v3 at e
        generalize tm.getD 4 undef = v4 at e
        generalize tm.getD 5 undef = v5 at e
        generalize tm.getD 6 undef = v6 at e
        generalize tm.getD 7 undef = v7 at e
        generalize tm.getD 8 undef = v8 at e
        generalize tm.getD 9 undef = v9 at e
        generalize tm.getD 10 undef = v10 at e
        generalize tm.getD 11 undef = v11 at e
        generalize tm.getD 12 undef = v12 at e
        generalize tm.getD 13 undef = v13 at e
        generalize tm.getD 14 undef = v14 at e
        generalize tm.getD 15 undef = v15 at e
        generalize tm.getD 16 undef = v16 at e
        generalize tm.getD 17 undef = v17 at e
        generalize tm.getD 18 undef = v18 at e
        generalize tm.getD 19 undef = v19 at e
        generalize tm.getD 20 undef = v20 at e
        generalize tm.getD 21 undef = v21 at e
        generalize tm.getD 22 undef = v22 at e
        generalize tm.getD 23 undef = v23 at e
        generalize tm.getD 24 undef = v24 at e
        generalize tm.getD 25 undef = v25 at e
        generalize tm.getD 26 undef = v26 at e
        generalize tm.getD 27 undef = v27 at e
        generalize tm.getD 28 undef = v28 at e
        generalize tm.getD 29 undef = v29 at e
        generalize tm.getD 30 undef = v30 at e
        generalize tm.getD 31 undef = v31 at e
        generalize tm.getD 32 undef = v32 at e
        generalize tm.getD 33 undef = v33 at e
        generalize tm.getD 34 undef = v34 at e
        generalize tm.getD 35 undef = v35 at e
        generalize tm.getD 36 undef = v36 at e
        generalize tm.getD 37 undef = v37 at e
        generalize tm.getD 38 undef = v38 at e
        generalize tm.getD 39 undef = v39 at e
        generalize tm.getD 40 undef = v40 at e
        generalize tm.getD 41 undef = v41 at e
        generalize tm.getD 42 undef = v42 at e
        generalize tm.getD 43 undef = v43 at e
        generalize tm.getD 44 undef = v44 at e
        generalize tm.getD 45 undef = v45 at e
        generalize tm.getD 46 undef = v46 at e
        generalize tm.getD 47 undef = v47 at e
        generalize tm.getD 48 undef = v48 at e
        generalize tm.getD 49 undef = v49 at e
        generalize tm.getD 50 undef = v50 at e
        generalize tm.getD 51 undef = v51 at e
        generalize tm.getD 52 undef = v52 at e
        generalize tm.getD 53 undef = v53 at e
        generalize tm.getD 54 undef = v54 at e
        generalize tm.getD 55 undef = v55 at e
        generalize tm.getD 56 undef = v56 at e
        generalize tm.getD 57 undef = v57 at e
        generalize tm.getD 58 undef = v58 at e
        generalize tm.getD 59 undef = v59 at e
        generalize tm.getD 60 undef = v60 at e
        generalize tm.getD 61 undef = v61 at e
        generalize tm.getD 62 undef = v62 at e
        generalize tm.getD 63 undef = v63 at e
        generalize tm.getD 64 undef = v64 at e
        generalize tm.getD 65 undef = v65 at e
        generalize tm.getD 66 undef = v66 at e
        generalize tm.getD 67 undef = v67 at e
        generalize tm.getD 68 undef = v68 at e
        generalize tm.getD 69 undef = v69 at e
        generalize tm.getD 70 undef = v70 at e
        generalize tm.getD 71 undef = v71 at e
        generalize tm.getD 72 undef = v72 at e
        generalize tm.getD 73 undef = v73 at e
        generalize tm.getD 74 undef = v74 at e
        generalize tm.getD 75 undef = v75 at e
        generalize tm.getD 76 undef = v76 at e
        generalize tm.getD 77 undef = v77 at e
        generalize tm.getD 78 undef = v78 at e
        generalize tm.getD 79 undef = v79 at e
        generalize tm.getD 80 undef = v80 at e
        generalize tm.getD 82 undef = v82 at e
        generalize tm.getD 83 undef = v83 at e
        generalize tm.getD 84 undef = v84 at e
        generalize tm.getD 85 undef = v85 at e
        generalize tm.getD 86 undef = v86 at e
        generalize tm.getD 87 undef = v87 at e
        generalize tm.getD 88 undef = v88 at e
        generalize tm.getD 89 undef = v89 at e
        generalize tm.getD 90 undef = v90 at e
        generalize tm.getD 91 undef = v91 at e
        generalize tm.getD 92 undef = v92 at e
        generalize tm.getD 93 undef = v93 at e
        generalize tm.getD 94 undef = v94 at e
        generalize tm.getD 95 undef = v95 at e
        generalize tm.getD 96 undef = v96 at e
        generalize tm.getD 97 undef = v97 at e
        generalize tm.getD 98 undef = v98 at e
        generalize tm.getD 99 undef = v99 at e
        generalize tm.getD 100 undef = v100 at e
        generalize tm.getD 101 undef = v101 at e
        generalize tm.getD 102 undef = v102 at e
        generalize tm.getD 103 undef = v103 at e
        generalize tm.getD 104 undef = v104 at e
        generalize tm.getD 105 undef = v105 at e
        generalize tm.getD 106 undef = v106 at e
        generalize tm.getD 107 undef = v107 at e
        generalize tm.getD 108 undef = v108 at e
        generalize tm.getD 109 undef = v109 at e
        generalize tm.getD 110 undef = v110 at e
        generalize tm.getD 111 undef = v111 at e
        generalize tm.getD 112 undef = v112 at e
        generalize tm.getD 113 undef = v113 at e
        generalize tm.getD 114 undef = v114 at e
        generalize tm.getD 115 undef = v115 at e
        generalize tm.getD 116 undef = v116 at e
        generalize tm.getD 117 undef = v117 at e
        generalize tm.getD 118 undef = v118 at e
        generalize tm.getD 119 undef = v119 at e
        generalize tm.getD 120 undef = v120 at e
        generalize tm.getD 121 undef = v121 at e
        generalize tm.getD 122 undef = v122 at e
        generalize tm.getD 123 undef = v123 at e
        generalize tm.getD 124 undef = v124 at e
        generalize tm.getD 125 undef = v125 at e
        generalize tm.getD 126 undef = v126 at e
        generalize tm.getD 127 undef = v127 at e
        generalize tm.getD 128 undef = v128 at e
        generalize tm.getD 129 undef = v129 at e
        generalize tm.getD 130 undef = v130 at e
        generalize tm.getD 131 undef = v131 at e
        generalize tm.getD 132 undef = v132 at e
        generalize tm.getD 133 undef = v133 at e
        generalize tm.getD 134 undef = v134 at e
        generalize tm.getD 135 undef = v135 at e
        generalize tm.getD 136 undef = v136 at e
        generalize tm.getD 137 undef = v137 at e
        generalize tm.getD 138 undef = v138 at e
        generalize tm.getD 139 undef = v139 at e
        generalize tm.getD 140 undef = v140 at e
        generalize tm.getD 141 undef = v141 at e
        generalize tm.getD 142 undef = v142 at e
        generalize tm.getD 143 undef = v143 at e
        generalize tm.getD 144 undef = v144 at e
        generalize tm.getD 145 undef = v145 at e
        generalize tm.getD 146 undef = v146 at e
        generalize tm.getD 147 undef = v147 at e
        generalize tm.getD 148 undef = v148 at e
        subst e
        have hB2 := HB2.out.trans (hC.mono HB2.out.size)
        clear hC hval
        go_wp2_with fail
        refine (HPe.out _ hB2).mono ?_
        rintro e w3 ⟨(⟨hno, rfl⟩ | ⟨⟨hm1, hE⟩, rv, i, rfl, hrest, hfix⟩), hb3⟩
        · have hB3 := hB2.trans (hb3.mono hB2.size)
          clear hno hB2 hb3
          go_wp2_with fail
          go_ret
          exact ⟨rfl, hB3⟩
        · have hB3 := hB2.trans (hb3.mono hB2.size)
          have hsub : ∀ x ∈ itP l i, x ∈ l := fun x hx => (itP_subl l i).subset hx
          have HFix : Hid (∀ j, j < 138 → (posN8 (wd j) (keepL (itP l i) l) (wd j).length).length ≠ 1 ∧ (posN8 (wd j) (keepL (itP l i) l) (wd j).length).length ≠ 2) := Lib.hid (fun j hj => fix_count hsub hfix hj)
          have HMem : Hid (∀ x ∈ keepL (itP l i) l, x ∈ l) := Lib.hid (fun x hx => (List.mem_filter.1 hx).1)
          have HSo := Lib.hid (keep_sorted (S := itP l i) hE)
          have HLL : Hid ((keepL (itP l i) l).length ≤ 100000) := Lib.hid (by have := keepL_le (itP l i) l; omega)
          have HRR := Lib.hid hrest
          have HB3 := Lib.hid hB3
          obtain ⟨hk0, ⟨ra, rc, rb, ro, rfl, hrc, _⟩, _⟩ := hrest
          clear hsub hfix hE hB2 hb3 hB3
          generalize keepL (itP l i) l = L at *
          go_wp2_with fail
          go_loopw [101] (fun vk wr => ∃ k : Nat, k ≤ L.length ∧ vk = .int .i64 k ∧ Below w3.heap.size w3 wr) (fun vk _ => L.length - (intOf vk).toNat)
          case atStart => exact ⟨0, by omega, rfl, Below.refl _ _⟩
          case round =>
            obtain ⟨k, hk, rfl, hb⟩ := hrel
            by_cases hlt : k < L.length
            · have hrr := HRR.out.keep hb
              obtain ⟨_, ⟨xa, xc, xb, xo, hvv, hxc, hxcell⟩, hxr⟩ := hrr
              injection hvv with e1 e2 e3
              subst e1 e3
              obtain ⟨hxa, hxw⟩ := hxcell k hlt
              have hix := run_idx (P := Try.prog) Try.underlying24 Try.sizeInt (cap := rc) hxa hlt _ rfl wr
              have hcont : G.cont l (ixI L k) = true := (G.cont_iff _ _).2 (HMem.out _ (ixI_mem hlt))
              have HCo := Lib.hid (containsI_any _ l (ixI L k) wr (HRd.out.keep (HB3.out.trans (hb.mono HB3.out.size))))
              rw [hcont] at HCo
              have Ha := Lib.hid hxa
              clear hxcell hxr hxa e2 hcont
              generalize ixI L k = y at *
              go_wp2_with fail
              refine HCo.out.mono ?_
              rintro e w4 ⟨rfl, rfl⟩
              go_wp2_with fail
              go_roundw
              case rel => exact ⟨k + 1, by omega, by go_num, hb⟩
              case measure => simp [intOf]; omega
            · go_wp2_with fail
              go_loopw [110] (fun vj wo => ∃ j : Nat, j ≤ 138 ∧ vj = .int .i64 j ∧ Below w3.heap.size w3 wo) (fun vj _ => 138 - (intOf vj).toNat)
              case atStart => exact ⟨0, by omega, rfl, hb⟩
              case round =>
                clear hb
                obtain ⟨j, hj, rfl, hbo⟩ := hrel
                obtain ⟨wo0, rfl⟩ : ∃ w0 : World, w0 = wr := ⟨_, rfl⟩
                by_cases hj138 : j < 138
                · have hjl : (j : Int) < 138 := by omega
                  by_cases hj86 : j < 86
                  · have hwd : wd j = pw j := if_pos hj86
                    have HFx := Lib.hid (HFix.out j hj138)
                    rw [hwd, pw_length] at HFx
                    have HPw := Lib.hid (pword_ok j (j : Int) wo0 rfl hj86)
                    go_wp2_with fail
                    refine HPw.out.mono ?_
                    rintro e W4 ⟨v, rfl, hown, hb3⟩
                    have hri := rdI_own hown (pw_length j) (by omega) (fun x hx => by have := pw_bd hj86 x hx; omega)
                    obtain ⟨wa, wc, rfl⟩ := ownD_form hown
                    obtain ⟨n, hn⟩ : ∃ n : Nat, n = 26 := ⟨_, rfl⟩
                    have HN : Hid ((pw j).length = n) := Lib.hid (by rw [hn, pw_length])
                    have HWs := Lib.hid hri
                    rw [← hn] at HFx HWs ⊢
                    clear hown hri hwd
                    generalize pw j = ws at *
                    have hn45 : n ≤ 45 := by omega
                    clear hn
                    have hb4 := hbo.trans (hb3.mono hbo.size)
                    clear hbo hb3
                    go_wp2_with fail
                    go_loopw [16, 128] (fun vc vt wi => ∃ t : Nat, t ≤ n ∧ vt = .int .i64 t ∧ vc = .int .i64 ((posN8 ws L t).length : Int) ∧ Below W4.heap.size W4 wi ∧ Below w3.heap.size w3 wi) (fun _ vt _ => n - (intOf vt).toNat)
                    case atStart => exact ⟨0, by omega, rfl, rfl, Below.refl _ _, hb4⟩
                    case round =>
                      obtain ⟨t, ht, rfl, rfl, hbi, hbj⟩ := hrel
                      by_cases hlt2 : t < n
                      · have hws := HWs.out.keep hbi
                        obtain ⟨_, ⟨xa, xc, xb, xo, hvv, hxc, hxcell⟩, hxr⟩ := hws
                        injection hvv with e1 e2 e3
                        subst e1 e3
                        obtain ⟨hxa, hxw⟩ := hxcell t (by rw [HN.out]; exact hlt2)
                        have hix := run_idx (P := Try.prog) Try.underlying24 Try.sizeInt (cap := wc) hxa hlt2 _ rfl wr
                        have HBs := Lib.hid (fun W (hW : Below w3.heap.size w3 W) => bsearch_any (.slice ra L.length rc) L (ixI ws t) W (HRR.out.keep hW) HLL.out HSo.out)
                        have hps : posN8 ws L (t + 1) = if L.contains (ixI ws t) = true then posN8 ws L t ++ [(t : Int)] else posN8 ws L t := rfl
                        have hpl := posN8_len ws L t
                        have Ha := Lib.hid hxa
                        have HB2 := Lib.hid hbi; have HB3 := Lib.hid hbj
                        clear hxcell hxr hxa e2 hbi hbj
                        generalize ixI ws t = y at *
                        cases hcc : L.contains y with
                        | true =>
                          rw [hcc, if_pos rfl] at hps
                          have HPs : Hid ((posN8 ws L (t + 1)).length = (posN8 ws L t).length + 1) := Lib.hid (by rw [hps, List.length_append]; rfl)
                          rw [hcc] at HBs
                          clear hcc hps
                          generalize (posN8 ws L t).length = q at *
                          go_wp2_with fail
                          refine (HBs.out _ HB3.out).mono ?_
                          rintro e w5 ⟨⟨p, rfl⟩, hb5⟩
                          have HB4 := Lib.hid (HB2.out.trans (hb5.mono HB2.out.size)); have HB5 := Lib.hid (HB3.out.trans (hb5.mono HB3.out.size))
                          clear hb5
                          go_wp2_with fail
                          go_roundw
                          case rel => exact ⟨t + 1, by omega, by go_num, by rw [HPs.out]; go_num, HB4.out, HB5.out⟩
                          case measure => simp [intOf]; omega
                        | false =>
                          rw [hcc, if_neg (by decide)] at hps
                          have HPs : Hid ((posN8 ws L (t + 1)).length = (posN8 ws L t).length) := Lib.hid (by rw [hps])
                          rw [hcc] at HBs
                          clear hcc hps
                          generalize (posN8 ws L t).length = q at *
                          go_wp2_with fail
                          refine (HBs.out _ HB3.out).mono ?_
                          rintro e w5 ⟨⟨p, rfl⟩, hb5⟩
                          have HB4 := Lib.hid (HB2.out.trans (hb5.mono HB2.out.size)); have HB5 := Lib.hid (HB3.out.trans (hb5.mono HB3.out.size))
                          clear hb5
                          go_wp2_with fail
                          go_roundw
                          case rel => exact ⟨t + 1, by omega, by go_num, by rw [HPs.out], HB4.out, HB5.out⟩
                          case measure => simp [intOf]; omega
                      · obtain rfl : n = t := by omega
                        have hf1 := HFx.out.1; have hf2 := HFx.out.2
                        generalize (posN8 ws L n).length = q at *
                        have hq1 : ((q : Int) == 1) = false := by simp; omega
                        have hq2 : ((q : Int) == 2) = false := by simp; omega
                        clear hf1 hf2
                        go_wp2_with fail
                        go_roundw
                        case rel => exact ⟨j + 1, by omega, by go_num, hbj⟩
                        case measure => simp [intOf]; omega
                  · have hwd : wd j = qw (j - 86) := if_neg hj86
                    have HFx := Lib.hid (HFix.out j hj138)
                    rw [hwd, qw_length] at HFx
                    have HPw := Lib.hid (pword_bad (j : Int) wo0 (.inr (by omega)))
                    have HQw := Lib.hid (qword_ok (j - 86) ((j : Int) - 86) wo0 (by omega) (by omega))
                    go_wp2_with fail
                    refine HPw.out.mono ?_
                    rintro e W9 ⟨rfl, rfl⟩
                    go_wp2_with fail
                    refine HQw.out.mono ?_
                    rintro e W4 ⟨v, rfl, hown, hb3⟩
                    have hri := rdI_own hown (qw_length (j - 86)) (by omega) (fun x hx => by have := qw_bd (m := j - 86) (by omega) x hx; omega)
                    obtain ⟨wa, wc, rfl⟩ := ownD_form hown
                    obtain ⟨n, hn⟩ : ∃ n : Nat, n = 45 := ⟨_, rfl⟩
                    have HN : Hid ((qw (j - 86)).length = n) := Lib.hid (by rw [hn, qw_length])
                    have HWs := Lib.hid hri
                    rw [← hn] at HFx HWs ⊢
                    clear hown hri hwd
                    generalize qw (j - 86) = ws at *
                    have hn45 : n ≤ 45 := by omega
                    clear hn
                    have hb4 := hbo.trans (hb3.mono hbo.size)
                    clear hbo hb3
                    go_wp2_with fail
                    go_loopw [16, 128] (fun vc vt wi => ∃ t : Nat, t ≤ n ∧ vt = .int .i64 t ∧ vc = .int .i64 ((posN8 ws L t).length : Int) ∧ Below W4.heap.size W4 wi ∧ Below w3.heap.size w3 wi) (fun _ vt _ => n - (intOf vt).toNat)
                    case atStart => exact ⟨0, by omega, rfl, rfl, Below.refl _ _, hb4⟩
                    case round =>
                      obtain ⟨t, ht, rfl, rfl, hbi, hbj⟩ := hrel
                      by_cases hlt2 : t < n
                      · have hws := HWs.out.keep hbi
                        obtain ⟨_, ⟨xa, xc, xb, xo, hvv, hxc, hxcell⟩, hxr⟩ := hws
                        injection hvv with e1 e2 e3
                        subst e1 e3
                        obtain ⟨hxa, hxw⟩ := hxcell t (by rw [HN.out]; exact hlt2)
                        have hix := run_idx (P := Try.prog) Try.underlying24 Try.sizeInt (cap := wc) hxa hlt2 _ rfl wr
                        have HBs := Lib.hid (fun W (hW : Below w3.heap.size w3 W) => bsearch_any (.slice ra L.length rc) L (ixI ws t) W (HRR.out.keep hW) HLL.out HSo.out)
                        have hps : posN8 ws L (t + 1) = if L.contains (ixI ws t) = true then posN8 ws L t ++ [(t : Int)] else posN8 ws L t := rfl
                        have hpl := posN8_len ws L t
                        have Ha := Lib.hid hxa
                        have HB2 := Lib.hid hbi; have HB3 := Lib.hid hbj
                        clear hxcell hxr hxa e2 hbi hbj
                        generalize ixI ws t = y at *
                        cases hcc : L.contains y with
                        | true =>
                          rw [hcc, if_pos rfl] at hps
                          have HPs : Hid ((posN8 ws L (t + 1)).length = (posN8 ws L t).length + 1) := Lib.hid (by rw [hps, List.length_append]; rfl)
                          rw [hcc] at HBs
                          clear hcc hps
                          generalize (posN8 ws L t).length = q at *
                          go_wp2_with fail
                          refine (HBs.out _ HB3.out).mono ?_
                          rintro e w5 ⟨⟨p, rfl⟩, hb5⟩
                          have HB4 := Lib.hid (HB2.out.trans (hb5.mono HB2.out.size)); have HB5 := Lib.hid (HB3.out.trans (hb5.mono HB3.out.size))
                          clear hb5
                          go_wp2_with fail
                          go_roundw
                          case rel => exact ⟨t + 1, by omega, by go_num, by rw [HPs.out]; go_num, HB4.out, HB5.out⟩
                          case measure => simp [intOf]; omega
                        | false =>
                          rw [hcc, if_neg (by decide)] at hps
                          have HPs : Hid ((posN8 ws L (t + 1)).length = (posN8 ws L t).length) := Lib.hid (by rw [hps])
                          rw [hcc] at HBs
                          clear hcc hps
                          generalize (posN8 ws L t).length = q at *
                          go_wp2_with fail
                          refine (HBs.out _ HB3.out).mono ?_
                          rintro e w5 ⟨⟨p, rfl⟩, hb5⟩
                          have HB4 := Lib.hid (HB2.out.trans (hb5.mono HB2.out.size)); have HB5 := Lib.hid (HB3.out.trans (hb5.mono HB3.out.size))
                          clear hb5
                          go_wp2_with fail
                          go_roundw
                          case rel => exact ⟨t + 1, by omega, by go_num, by rw [HPs.out], HB4.out, HB5.out⟩
                          case measure => simp [intOf]; omega
                      · obtain rfl : n = t := by omega
                        have hf1 := HFx.out.1; have hf2 := HFx.out.2
                        generalize (posN8 ws L n).length = q at *
                        have hq1 : ((q : Int) == 1) = false := by simp; omega
                        have hq2 : ((q : Int) == 2) = false := by simp; omega
                        clear hf1 hf2
                        go_wp2_with fail
                        go_roundw
                        case rel => exact ⟨j + 1, by omega, by go_num, hbj⟩
                        case measure => simp [intOf]; omega
                · obtain rfl : j = 138 := by omega
                  go_wp2_with fail
                  go_ret
                  exact ⟨rfl, HB3.out.trans (hbo.mono HB3.out.size)⟩
end Go.Proofs.Ytepdcpbgdfjobaa.W8
namespace Go.Proofs.Ytepdcpbgdfjobaa.W8
open Go.RowKit Go.Shelf
set_option linter.unusedVariables false
set_option maxRecDepth 100000 in
set_option maxHeartbeats 4000000 in
theorem sound_big (w : World) (a : List UInt8) (m : Int) (sa : Option Addr) (sl sc : Nat) (ha : a.length ≤ 9223372036854775807) (hl : sl ≤ 9223372036854775807) (h : 2400 < a.length) : Calls Try.prog 9 #[.string (str a), .int .i64 m, .slice sa sl sc] w fun e w' => e = .returned (.bool true) ∧ Below w.heap.size w w' := by
  have hz := str_size a
  have hd : decide (2400 < (a.length : Int)) = true := by simp; omega
  have H := Lib.hid h
  clear h
  go_enter Try.func9, Try.ntmps9
  go_wp2_with fail
  refine (awake8_any _).mono ?_
  rintro e w0 ⟨rfl, hb0⟩
  go_wp2_with fail
  go_ret
  exact ⟨rfl, hb0⟩
set_option maxRecDepth 100000 in
set_option maxHeartbeats 4000000 in
theorem sound_many (w : World) (a : List UInt8) (m : Int) (sa : Option Addr) (sl sc : Nat) (ha : a.length ≤ 2400) (hl : sl ≤ 9223372036854775807) (h : 600 < sl) : Calls Try.prog 9 #[.string (str a), .int .i64 m, .slice sa sl sc] w fun e w' => e = .returned (.bool true) ∧ Below w.heap.size w w' := by
  have hz := str_size a
  have hd : decide (2400 < (a.length : Int)) = false := by simp; omega
  have hd2 : decide (600 < (sl : Int)) = true := by simp; omega
  have H := Lib.hid h
  clear h
  go_enter Try.func9, Try.ntmps9
  go_wp2_with fail
  refine (awake8_any _).mono ?_
  rintro e w0 ⟨rfl, hb0⟩
  go_wp2_with fail
  go_ret
  exact ⟨rfl, hb0⟩
theorem sound_law (w : World) (s : ByteArray) (hs : s.size ≤ maxLen) (m : Int) (wm : (Lit.int .i64 m).wf = true) (ev : Value) (l : List Int) (h : CameI w ev l) : Calls Try.prog 9 #[.string s, .int .i64 m, ev] w fun e w' => e = .returned (.bool true) ∧ Below w.heap.size w w' := by
  have hs' : s.data.toList.length ≤ 9223372036854775807 := hs
  rw [str_list s]
  generalize s.data.toList = a at hs'
  obtain ⟨hr, hn, sa, sc, rfl⟩ := h
  by_cases h1 : a.length ≤ 2400
  · by_cases hl : l.length ≤ 600
    · exact sound_ok w a m _ l (hr (by omega)) h1 hl
    · exact sound_many w a m sa _ sc h1 hn (by omega)
  · exact sound_big w a m sa _ sc hs' hn (by omega)
end Go.Proofs.Ytepdcpbgdfjobaa.W8
namespace Go.Proofs.Ytepdcpbgdfjobaa.productcodeSound
open Go.ChangeShapes Go.WideShapes Go.ChangeAt Go.RowKit
open Go.ChangeMaps (open_string shut_string)
set_option linter.unusedVariables false
theorem own : ownKnob Try.prog.godebug = none := by kernel_rfl
theorem laidOut : laidOutB Try.prog = true := by kernel_rfl
set_option maxRecDepth 100000 in
set_option maxHeartbeats 1000000 in
theorem lifted (os : Os) (started : os.Started) (H : Type) (enc : TypeId × Value → H) :
    ReturnsInHanded {} Try.checked os 9 .any (Rows.productcodeSoundSpec.pre6 enc Try.prog Try.f9 Rows.productcodeSoundRow.domain false) (Rows.productcodeSoundSpec.post enc Try.prog Try.f9 false true false false) := by
  refine returnsInHanded_of_change (C := Try.checked) own started (by kernel_rfl) Try.func9
    (ChangeSpec.witness6 (enc := enc) (C := Try.checked) false ⟨#[], #[.string ByteArray.empty, .int .i64 0, .slice none 0 0], []⟩ 8 (by kernel_rfl) (by kernel_rfl) (by kernel_rfl) (by kernel_rfl)) ?_
  intro W base args ds gs before hval0 hW hcnd _
  have hval : ∀ (j : Nat) t v, Try.f9.params[j]? = some t → args[j]? = some v → Value.okWide Try.prog W .any base t v := hval0
  have hW' := hW
  obtain ⟨p, q, hA0, hV, rfl, hfz, hnd⟩ := hW
  have hA : DataW.TrodAll enc Try.prog W 0 (fun _ => true) true Try.f9.params.toList args.toList ds p := hA0
  rw [Try.params9] at hA hval
  obtain ⟨v0, vs0, d0, ds0, p0, q0, hargs, rfl, rfl, h0, r0⟩ := trodAll_cons hA
  obtain ⟨v1, vs1, d1, ds1, p1, q1, rfl, rfl, rfl, h1, r1⟩ := trodAll_cons r0
  obtain ⟨v2, vs2, d2, ds2, p2, q2, rfl, rfl, rfl, h2, r2⟩ := trodAll_cons r1
  obtain ⟨rfl, rfl, rfl⟩ := trodAll_nil r2
  obtain rfl : args = #[v0, v1, v2] := by cases args; simp_all
  obtain ⟨rfl, rfl⟩ := trodVars_none hV
  have k0 := h0
  have lt0 : ∀ x ∈ p0, x.block < W.heap.size := by obtain ⟨m, hm⟩ := k0; exact DataW.trod_lt m _ _ _ hm
  obtain ⟨a0, rfl, e0, _, w0⟩ := open_string Try.underlying9 (hval 0 9 v0 rfl rfl) h0
  have k1 := h1
  have lt1 : ∀ x ∈ p1, x.block < W.heap.size := by obtain ⟨m, hm⟩ := k1; exact DataW.trod_lt m _ _ _ hm
  obtain ⟨a1, rfl, _, _, w1⟩ := open_int Try.underlying3 (hval 1 3 v1 rfl rfl) h1
  have k2 := h2
  have lt2 : ∀ x ∈ p2, x.block < W.heap.size := by obtain ⟨m, hm⟩ := k2; exact DataW.trod_lt m _ _ _ hm
  obtain ⟨a2, w2⟩ := open_cints (hval 2 24 v2 rfl rfl) h2
  refine (W8.sound_law W a0 w0 a1 w1 v2 a2 w2).mono fun e W' ⟨he, bel⟩ => ?_
  subst he
  exact ⟨_, rfl, _, _, _, [], _, [], hW', trodAll_mk1 (shut_bool Try.underlying4 _), (trodAll_cons_mk (Below.trod laidOut (by kernel_rfl) (of_decide_eq_true (by kernel_rfl)) k0 bel lt0) (trodAll_cons_mk (Below.trod laidOut (by kernel_rfl) (of_decide_eq_true (by kernel_rfl)) k1 bel lt1) (trodAll_cons_mk (Below.trod laidOut (by kernel_rfl) (of_decide_eq_true (by kernel_rfl)) k2 bel lt2) trodAll_mk0))), rfl, bel.frame _, fun h => by cases h⟩
theorem over : Rows.productcodeSoundRow.holds Try.pinned (OpenSpec.ofChange Rows.productcodeSoundSpec) :=
  OpenClaim.holds_of_wide 9 Try.f9 rfl rfl rfl rfl rfl rfl rfl ⟨rfl, rfl, rfl, rfl, rfl⟩ rfl rfl rfl rfl rfl (by kernel_rfl) Try.func9 (by kernel_rfl)
    (of_decide_eq_true (by kernel_rfl)) (by unfold Func.isWrapper; first | (rw [if_pos (by decide +kernel)]; kernel_rfl) | (rw [if_neg (by decide +kernel)]; exact ⟨rfl, rfl⟩))
    (fun os started H enc _ => lifted os started H enc)
theorem proved : Rows.ProductcodeSoundSaid := over
end Go.Proofs.Ytepdcpbgdfjobaa.productcodeSound
