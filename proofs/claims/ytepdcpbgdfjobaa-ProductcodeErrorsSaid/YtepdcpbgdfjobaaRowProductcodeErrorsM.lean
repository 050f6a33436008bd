/- The law 'masterdisc/masterdisclaw08.ProductcodeErrors' returns true for every input, and leaves its arguments as they were. -/
import Derived.Test.YtepdcpbgdfjobaaWd
import Derived.Outline
import Derived.IntWalk
import Derived.Test.YtepdcpbgdfjobaaWe
import Derived.Test.YtepdcpbgdfjobaaWa
import Derived.Test.YtepdcpbgdfjobaaRin
import Derived.Deep.Cut
import Derived.Test.YtepdcpbgdfjobaaWr
import Derived.Test.YtepdcpbgdfjobaaInr
import Derived.Test.YtepdcpbgdfjobaaRef4
import Derived.Deep.CutBlock
import Derived.Deep.DeepCutAuto
import Derived.Test.YtepdcpbgdfjobaaWz
import Derived.Test.YtepdcpbgdfjobaaCode
import Derived.Test.YtepdcpbgdfjobaaDecP
import Derived.Test.YtepdcpbgdfjobaaWx
import Derived.Test.YtepdcpbgdfjobaaSt
import Derived.Lib.SmallJoins
import Derived.Test.YtepdcpbgdfjobaaRows
import Derived.Test.YtepdcpbgdfjobaaOpen
/- Chapter 8: set of the package (the erased offsets as a map) walked. -/
namespace Go.Proofs.Ytepdcpbgdfjobaa.W8
open Go.RowKit Go.Maps
set_option linter.unusedVariables false

/-- the 'k'th offset is in its place -/
def ersB1 (f : Int) (l : List Int) (k : Nat) : Bool := !(decide (ixI l k < f) || decide (2352 ≤ ixI l k) || (decide (0 < k) && decide (ixI l k ≤ ixI l (k - 1))))
def ersN (f : Int) (l : List Int) : Nat → Bool
  | 0 => true
  | k + 1 => ersN f l k && ersB1 f l k
/-- the list is one of erased offsets -/
def ersB (f : Int) (l : List Int) : Bool := ersN f l l.length
theorem ersN_mono (f : Int) (l : List Int) : ∀ (m k : Nat), k ≤ m → ersN f l m = true → ersN f l k = true
  | 0, k, h, hp => by obtain rfl : k = 0 := by omega
                      exact hp
  | m + 1, k, h, hp => by
    by_cases e : k = m + 1
    · rw [e]; exact hp
    · unfold ersN at hp
      rw [Bool.and_eq_true] at hp
      exact ersN_mono f l m k (by omega) hp.1
theorem ersN_at {f : Int} {l : List Int} {m k : Nat} (h : k < m) (hp : ersN f l m = true) : f ≤ ixI l k ∧ ixI l k < 2352 ∧ (0 < k → ixI l (k - 1) < ixI l k) := by
  have := ersN_mono f l m (k + 1) (by omega) hp
  unfold ersN ersB1 at this
  simp only [Bool.and_eq_true, Bool.not_eq_true', Bool.or_eq_false_iff, decide_eq_false_iff_not, Bool.and_eq_false_iff] at this
  omega
theorem ersN_lt {f : Int} {l : List Int} {m : Nat} (hp : ersN f l m = true) : ∀ (k j : Nat), j < k → k < m → ixI l j < ixI l k
  | 0, j, hj, _ => by omega
  | k + 1, j, hj, hk => by
    have h1 := (ersN_at hk hp).2.2 (by omega)
    rw [Nat.add_sub_cancel] at h1
    by_cases e : j = k
    · subst e; exact h1
    · have := ersN_lt hp k j (by omega) (by omega); omega
theorem take_snocI (l : List Int) (k : Nat) (h : k < l.length) : l.take (k + 1) = l.take k ++ [ixI l k] := by
  rw [List.take_succ_eq_append_getElem h, ixI_get h]
theorem ers_new {f : Int} {l : List Int} {k : Nat} (hk : k < l.length) (hp : ersN f l (k + 1) = true) : ixI l k ∉ l.take k := by
  intro h
  obtain ⟨j, hj, e⟩ := List.getElem_of_mem h
  have hj2 : j < k := by rw [List.length_take] at hj; omega
  have := ersN_lt hp k j hj2 (by omega)
  rw [List.getElem_take, ← ixI_get (by omega)] at e
  omega
theorem ersN_false {f : Int} {l : List Int} {k : Nat} (h : ersB1 f l k = false) : ∀ n, k < n → ersN f l n = false
  | 0, hk => by omega
  | n + 1, hk => by
    unfold ersN
    by_cases e : k = n
    · subst e; rw [h, Bool.and_false]
    · rw [ersN_false h n (by omega), Bool.false_and]

def SetP (f : Int) (l : List Int) (w : World) (e : Ending) (w' : World) : Prop :=
  (ersB f l = false ∧ e = .returned (.tuple #[.map none, .bool false]) ∧ Below w.heap.size w w') ∨
  (ersB f l = true ∧ e = .returned (.tuple #[.map (some w.heap.size), .bool true]) ∧ MS w' w.heap.size l.length l ∧ Below w.heap.size w w')
set_option maxRecDepth 100000 in
set_option maxHeartbeats 4000000 in
theorem set_any (f : Int) (ev : Value) (l : List Int) (w : World) (hv : RdI w ev l) (hl : l.length ≤ 100000) :
    Calls Try.prog 44 #[.int .i64 f, ev] w (SetP f l w) := by
  obtain ⟨hw0, ⟨wa, wc, wb, wo, rfl, hwc, hwcell⟩, hwr⟩ := hv
  have HW := Lib.hid hwcell
  have HWR := Lib.hid hwr
  clear hwcell hwr
  have hmm := @run_makeMap Try.prog
  go_enter Try.func44, Try.ntmps44
  go_wp2_with fail
  have hb0 := (Below.refl w.heap.size w).alloc (Nat.le_refl _) (.map #[] 0)
  have hm0 := MS.made w
  clear hmm
  go_loopw [12] (fun vk wr => ∃ k : Nat, k ≤ l.length ∧ vk = .int .i64 k ∧ Hid (ersN f l k = true) ∧ MS wr w.heap.size k (l.take k) ∧ Below w.heap.size w wr) (fun vk _ => l.length - (intOf vk).toNat)
  case atStart => exact ⟨0, by omega, rfl, Lib.hid rfl, hm0, hb0⟩
  case round =>
    clear hm0 hb0
    obtain ⟨k, hk, rfl, HE, hm, hb⟩ := hrel
    by_cases hlt : k < l.length
    · obtain ⟨ha, hcw⟩ := HW.out k hlt
      obtain ⟨hx1, hx2⟩ := HWR.out k hlt
      have hcw' : wr.cell? ⟨wb, wo + k, none⟩ = some (.int .i64 (ixI l k)) := (hb.cell (p := ⟨wb, wo + k, none⟩) (World.block_lt_of_cell? w _ hcw)).trans hcw
      have hix := run_idx (P := Try.prog) Try.underlying24 Try.sizeInt (cap := wc) ha hlt _ rfl wr
      have hbad : ersB1 f l k = false → Hid (ersB f l = false) := fun h => Lib.hid (ersN_false h _ hlt)
      have hgood : ersB1 f l k = true → Hid (ersN f l (k + 1) = true ∧ ixI l k ∉ l.take k) := fun h => by
        have h2 : ersN f l (k + 1) = true := by unfold ersN; rw [HE.out, h]; rfl
        exact Lib.hid ⟨h2, ers_new hlt h2⟩
      have HT := Lib.hid (take_snocI l k hlt)
      have hB1 : ersB1 f l k = !(decide (ixI l k < f) || decide (2352 ≤ ixI l k) || (decide (0 < k) && decide (ixI l k ≤ ixI l (k - 1)))) := rfl
      by_cases c1 : ixI l k < f
      · have HX := hbad (by rw [hB1]; simp [c1])
        have hd1 : decide (ixI l k < f) = true := by simpa using c1
        generalize ixI l k = x at *
        clear hbad hgood hB1 ha hcw hm HT
        go_wp2_with fail
        go_ret2
        exact .inl ⟨HX.out, rfl, hb⟩
      · have hd1 : decide (ixI l k < f) = false := by simpa using c1
        by_cases c2 : 2352 ≤ ixI l k
        · have HX := hbad (by rw [hB1]; simp [c2])
          have hd2 : decide (2352 ≤ ixI l k) = true := by simpa using c2
          generalize ixI l k = x at *
          clear hbad hgood hB1 ha hcw hm HT c1
          go_wp2_with fail
          go_ret2
          exact .inl ⟨HX.out, rfl, hb⟩
        · have hd2 : decide (2352 ≤ ixI l k) = false := by simpa using c2
          by_cases c3 : k = 0
          · have HG := hgood (by rw [hB1, hd1, hd2, c3]; rfl)
            have hd3 : decide (0 < (k : Int)) = false := by simp; omega
            have hd4 : decide (0 < k) = false := by simp; omega
            have H3 := Lib.hid c3
            generalize hxe : ixI l k = x at *
            have HXE := Lib.hid hxe
            clear hbad hgood hB1 ha hcw c1 c2 c3 hxe
            go_wp2_with (refine wpList_ms_set rfl _ _ _ rfl hm rfl rfl rfl hx1 hx2 (by omega) HG.out.2 ?_; intro w2 hm2 hg2)
            have hb2 := hb.grown hg2 hb.size (fun j e => by cases e; exact Nat.le_refl _)
            have hm3 : MS w2 w.heap.size (k + 1) (l.take (k + 1)) := by rw [HT.out]; exact hm2
            clear hm hb hg2 hm2
            go_roundw
            case rel => exact ⟨k + 1, by omega, by go_num, Lib.hid HG.out.1, hm3, hb2⟩
            case measure => simp [intOf]; omega
          · have hd3 : decide (0 < (k : Int)) = true := by simp; omega
            have hd4 : decide (0 < k) = true := by simp; omega
            obtain ⟨ha3, hcw3⟩ := HW.out (k - 1) (by omega)
            have hcw4 : wr.cell? ⟨wb, wo + (k - 1), none⟩ = some (.int .i64 (ixI l (k - 1))) := (hb.cell (p := ⟨wb, wo + (k - 1), none⟩) (World.block_lt_of_cell? w _ hcw3)).trans hcw3
            have hix3 := run_idx (P := Try.prog) Try.underlying24 Try.sizeInt (cap := wc) ha3 (show k - 1 < l.length by omega) ((k : Int) - 1) (by omega) wr
            by_cases c4 : ixI l k ≤ ixI l (k - 1)
            · have HX := hbad (by rw [hB1, hd4]; simp [c4])
              have hd5 : decide (ixI l k ≤ ixI l (k - 1)) = true := by simpa using c4
              generalize ixI l (k - 1) = y at *
              generalize ixI l k = x at *
              clear hbad hgood hB1 ha hcw hm HT c1 c2 ha3 hcw3
              go_wp2_with fail
              go_ret2
              exact .inl ⟨HX.out, rfl, hb⟩
            · have hd5 : decide (ixI l k ≤ ixI l (k - 1)) = false := by simpa using c4
              have HG := hgood (by rw [hB1, hd1, hd2, hd4, hd5]; rfl)
              generalize ixI l (k - 1) = y at *
              generalize hxe : ixI l k = x at *
              have HXE := Lib.hid hxe
              clear hbad hgood hB1 ha hcw c1 c2 ha3 hcw3 hxe c4
              go_wp2_with (refine wpList_ms_set rfl _ _ _ rfl hm rfl rfl rfl hx1 hx2 (by omega) HG.out.2 ?_; intro w2 hm2 hg2)
              have hb2 := hb.grown hg2 hb.size (fun j e => by cases e; exact Nat.le_refl _)
              have hm3 : MS w2 w.heap.size (k + 1) (l.take (k + 1)) := by rw [HT.out]; exact hm2
              clear hm hb hg2 hm2
              go_roundw
              case rel => exact ⟨k + 1, by omega, by go_num, Lib.hid HG.out.1, hm3, hb2⟩
              case measure => simp [intOf]; omega
    · obtain rfl : k = l.length := by omega
      rw [List.take_length] at hm
      go_wp2_with fail
      go_ret2
      exact .inr ⟨HE.out, rfl, hm, hb⟩
end Go.Proofs.Ytepdcpbgdfjobaa.W8
/- Chapter 8: Encode of the package walked. -/
namespace Go.Proofs.Ytepdcpbgdfjobaa.W8
open Go.RowKit Go.Shelf
set_option linter.unusedVariables false
attribute [local go_sem] Oper.semAt_some

def enc7V (g cap n g1 c1 : Nat) (f : Int) (v2 : Value) (S : ByteArray) (i : Nat) (v : Value) (W : World) : Prop := match i with
  | 0 => v = .slice (some ⟨g, 0, none⟩) 2352 cap
  | 1 => v = .slice (some ⟨g1, 0, none⟩) n c1
  | 2 => v = .slice (some ⟨g1, 0, none⟩) n c1
  | 3 => v = .int .i64 (n : Int)
  | 4 => v = .int .i64 ((n : Int) - 2)
  | 5 => v = v2
  | 6 => v = .int .i64 f
  | 7 => v = .string S
  | 8 => v = .string S
  | _ => True
theorem enc7V_keep (g cap n g1 c1 : Nat) (f : Int) (v2 : Value) (S : ByteArray) (i : Nat) (v : Value) (W W' : World) (hR : (fun w W => Below w.heap.size w W) W W') (h : enc7V g cap n g1 c1 f v2 S i v W) : enc7V g cap n g1 c1 f v2 S i v W' := by
  unfold enc7V at h ⊢
  split at h <;> first | exact h

set_option maxRecDepth 100000 in
set_option maxHeartbeats 4000000 in
theorem encode8_ok (raw : List UInt8) (m : Int) (w : World) (h : fstB m = true) (hl : raw.length = 2352) :
    Calls Try.prog 17 #[.string (str raw), .int .i64 m] w fun e w' => e = .returned (.tuple #[.string (str (encN raw (fstI m) 138)), .int .i64 0]) ∧ Below w.heap.size w w' := by
  have HF := Lib.hid (fun W => first_any m W)
  rw [h] at HF
  have hf16 : fstI m ≤ 16 := by unfold fstI; split <;> (try split) <;> omega
  have hs : (str raw).size = 2352 := by rw [str_size, hl]
  have HL := Lib.hid hl
  have HS := Lib.hid hs
  have hd : ((2352 : Int) != 2352) = false := by decide
  generalize fstI m = f at *
  clear h hl
  refine (callsIn_wide (n := 5)).1 ?_
  refine callsIn_of_wp_marks Try.func17 rfl trivial ?_ rfl
  simp only [Try.ntmps17, List.size_toArray, List.length_cons, List.length_nil, Nat.reduceAdd, Nat.reduceSub, Array.replicate_succ, Array.replicate_zero, List.push_toArray, List.append_toArray, List.nil_append, List.cons_append]
  gi_wp2_with (refine ⟨trivial, ?_⟩; gi_at_call 33; refine (callsIn_wide.2 (HF.out _)).mono ?_; rintro e w' ⟨rfl, rfl⟩)
  have hb1 : Below w.heap.size w (w.alloc (.cells #[.int .i64 f] 3)) := (Below.refl _ w).alloc (Nat.le_refl _) _
  have X6 := Bx.new w 3 [.int .i64 f]
  have hg1 : (w.alloc (.cells #[.int .i64 f] 3)).heap.size = w.heap.size + 1 := by simp
  obtain ⟨w2, cap, hrun, hr2, hb2, hcap⟩ := run_bytes (P := Try.prog) (w.alloc (.cells #[.int .i64 f] 3)) Try.underlying9 Try.underlying43 Try.underlying5 raw 2352 HL.out
  rw [hg1] at hrun hr2 hb2
  rw [hrun]
  simp only [Result.andThen]
  rw [Oper.uponIn_value]
  have hb2' := hb1.trans (hb2.mono (by omega))
  have X6 := X6.keepB hb2 (by omega)
  have hlt2 := hr2.lt
  clear hb1 hb2 hrun hg1
  gi_wp2_with (refine ⟨trivial, ?_⟩; gi_at_call 34; refine (words_in 4 _).mono ?_; rintro e w' ⟨rfl, rfl⟩)
  obtain ⟨b6, hb6⟩ : ∃ b, b = w.heap.size := ⟨_, rfl⟩
  obtain ⟨b8, hb8⟩ : ∃ b, b = w2.heap.size := ⟨_, rfl⟩
  obtain ⟨g, hg⟩ : ∃ b, b = w.heap.size + 1 := ⟨_, rfl⟩
  rw [← hg] at hr2 hlt2 ⊢
  rw [← hb6] at X6
  have X8 := Bx.new w2 43 [.slice (some ⟨g, 0, none⟩) 2352 cap]
  have hR := hr2.below ((Below.refl w2.heap.size w2).alloc (Nat.le_refl _) (.cells #[.slice (some ⟨g, 0, none⟩) 2352 cap] 43))
  have X6' := X6.alloc (.cells #[.slice (some ⟨g, 0, none⟩) 2352 cap] 43)
  have hB0 := hb2'.alloc hb2'.size (.cells #[.slice (some ⟨g, 0, none⟩) 2352 cap] 43)
  rw [← hb8] at X8
  obtain ⟨W0, hW0⟩ : ∃ W0, W0 = w2.alloc (.cells #[.slice (some ⟨g, 0, none⟩) 2352 cap] 43) := ⟨_, rfl⟩
  have hs0 : W0.heap.size = b8 + 1 := by rw [hW0, hb8]; simp
  have hord : b6 < g ∧ g < b8 := by omega
  rw [← hW0] at hR X6' X8 hB0
  simp only [← hb6, ← hb8, ← hW0]
  have HORD := Lib.hid hord
  have hwle : w.heap.size ≤ W0.heap.size := hB0.size
  have hbg : w.heap.size ≤ g ∧ w.heap.size ≤ b8 := by omega
  have HS0 := Lib.hid hs0
  clear X6 hr2 hb2' hlt2 hcap hord hb6 hb8 hg hW0 hs0
  have hseq := words_gives 4 (by omega) W0
  refine wpIn_range_gives1 (n := 5) rfl (by omega) (gf := 60) (lb := #[]) rfl trivial (enters_of Try.func60 (by kernel_rfl) rfl) hseq rfl
    (fun k W => (Row W 5 g cap (encN raw f k) ∧ Bx W b6 3 [.int .i64 f] ∧ Bx W b8 43 [.slice (some ⟨g, 0, none⟩) 2352 cap]) ∧ Below w.heap.size w W)
    (fun _ _ => False)
    (fun v => { tmps := #[.string (str raw), .int .i64 m, undef, undef, .string ⟨#[]⟩, .int .i64 0, .pointer (some ⟨b6, 0, none⟩), .bool true, .pointer (some ⟨b8, 0, none⟩), v, undef, undef, undef, .tuple #[.int .i64 f, .bool true], .int .i64 m, .tuple #[.int .i64 f, .bool true], .int .i64 f, .bool true, .bool true, .bool false, .bool false, .string (str raw), .int .i64 2352, .bool false, .bool false, .string (str raw), .slice (some ⟨g, 0, none⟩) 2352 cap, .func (.func 60) #[] #[], v, undef, undef, undef, undef, undef, undef, undef, undef, undef, undef, undef, undef, undef, undef, undef, undef, undef, undef, undef, undef], defers := [] })
    (fun k => ((stays_row _ _ _ _ _).and ((stays_bx _ _ _ _).and (stays_bx _ _ _ _))).and (stays_below (Nat.le_refl _) hwle))
    (fun c => Stays.const _ _)
    (fun k v => GW.stays _ _ _ _) ⟨⟨hR, X6', X8⟩, hB0⟩ ?assign ?body ?done ?stop
  case assign =>
    intro l v W K _ hK
    gi_wp2
    exact hK
  case body =>
    rintro l k v W1 hk ⟨⟨hr, x6, x8⟩, hb⟩ hg
    clear hR X6' X8 hB0 hseq
    have hwb := wd_bd hk
    have hwl := wd_length k
    have hlen : (wd k).length ≤ 45 := by rw [hwl]; split <;> omega
    have hlen2 : 26 ≤ (wd k).length := by rw [hwl]; split <;> omega
    have hel := encN_length raw f k
    rw [HL.out] at hel
    have hep := encN_put raw f k hk hf16
    obtain ⟨g1, c1, rfl, _⟩ := own_int hg (by omega)
    have hri := rdI_own (w := W1) hg rfl (by omega) (fun x hx => by have := hwb x hx; omega)
    have hs0 := HS0.out
    have hoff := offI_own (g := g) (w := W1) hg (by have := HORD.out; omega) rfl (by omega) (fun x hx => by have := hwb x hx; omega)
    obtain ⟨v2, hv2, hcut⟩ := run_cutI (P := Try.prog) Try.underlying24 Try.sizeInt hri ((wd k).length - 2) (by omega)
    have hrd := hr.rd (by omega)
    rw [hel] at hrd
    obtain ⟨n, hn⟩ : ∃ n, n = (wd k).length := ⟨_, rfl⟩
    have HT : Hid (∀ W, Below W1.heap.size W1 W → Calls Try.prog 35 #[.slice (some ⟨g, 0, none⟩) 2352 cap, v2, .int .i64 f] W fun e W' => e = .returned (.string (str (takeL (encN raw f k) ((wd k).take ((wd k).length - 2)) f))) ∧ Below W.heap.size W W') := Lib.hid fun W hW =>
      take_any _ (encN raw f k) v2 _ f W (hrd.keep hW) (hv2 W (hri.keep hW)) (by rw [List.length_take]; omega) (fun x hx => by have := hwb x (List.mem_of_mem_take hx); rw [hel]; omega)
    have HE : Hid (∀ W, Calls Try.prog 36 #[.string (str (takeL (encN raw f k) ((wd k).take ((wd k).length - 2)) f)), .int .i64 2] W fun e W' => e = .returned (.tuple #[.string (str (cwd (encN raw f k) (wd k) f)), .int .i64 0]) ∧ Below W.heap.size W W') := Lib.hid fun W =>
      encode_ok _ 2 W (fun e => by have := congrArg List.length e; rw [takeL_length, List.length_take] at this; simp at this; omega) (by omega) (by omega) (by rw [takeL_length, List.length_take]; omega)
    have HP : Hid (∀ W, Below W1.heap.size W1 W → Calls Try.prog 37 #[.slice (some ⟨g, 0, none⟩) 2352 cap, .slice (some ⟨g1, 0, none⟩) (wd k).length c1, .int .i64 f, .string (str (cwd (encN raw f k) (wd k) f))] W (PutP 5 g cap (encN raw f k) (wd k) f (cwd (encN raw f k) (wd k) f) W)) := Lib.hid fun W hW =>
      put_any g 2352 cap (encN raw f k) _ (wd k) f _ W hel.symm (hr.below hW) (fun W' hW' => hoff W' fun j hj hjg => (hW' j (Nat.lt_of_lt_of_le hj hW.size) hjg).trans (hW.block j hj)) (by omega) (fun x hx => by have := hwb x hx; rw [hel]; omega) (by rw [cwd_length _ _ _ (by omega)]; exact Nat.le_refl _)
    have HPut : Hid (∀ e W W', PutP 5 g cap (encN raw f k) (wd k) f (cwd (encN raw f k) (wd k) f) W e W' → (∃ b, e = .returned (.bool b)) ∧ Row W' 5 g cap (encN raw f (k + 1)) ∧ W.grownBy W' (some g)) := Lib.hid fun e W W' ⟨h1, h2, h3⟩ => ⟨⟨_, h1⟩, by rw [← hep]; exact h2, h3⟩
    have HX := Lib.hid (And.intro hr (And.intro x6 x8))
    have HB := Lib.hid hb
    rw [← hn] at HT HE HP hcut
    have hcut' : ∀ w', (Instr.slice 24 (.slice (some ⟨g1, 0, none⟩) n c1) none (some (.int .i64 ((n : Int) - 2))) none).run Try.prog w' = .ok v2 w' := fun w' => hcut _ w' (by omega)
    have HCut := Lib.hid hcut'
    have hn26 : (26 : Int) ≤ n ∧ (n : Int) ≤ 45 := by omega
    generalize str (takeL (encN raw f k) ((wd k).take (n - 2)) f) = S at HT HE
    generalize str (cwd (encN raw f k) (wd k) f) = S2 at HE HP
    have HN := Lib.hid hn
    rw [← hn]
    clear hn hs0 hcut hcut' hri hoff hrd hv2 hg hr x6 x8 hb hel hep hwb hwl hlen hlen2
    gi_wp2
    refine wpIn_region_inr (by rintro ⟨_, _, h⟩; exact h) (by kernel_rfl) (by kernel_rfl) (fun w W => Below w.heap.size w W) (fun W => Below W1.heap.size W1 W) (enc7V g cap n g1 c1 f v2 S) (fun _ => false) (by kernel_rfl) (fun W W' hb h => h.trans (hb.mono h.size)) (enc7V_keep g cap n g1 c1 f v2 S) ((Below.refl _ _).drew) ⟨?_, ?_, ?_, ?_, ?_, ?_, ?_, ?_, ?_, trivial⟩ ?_
    · intro a W hc hsz hold hdep
      have o8 : a.tmps.getD 8 undef = .pointer (some ⟨b8, 0, none⟩) := hold 8 (by kernel_rfl)
      have q := (HX.out.2.2.call hc).cell (i := 0) rfl
      clear hsz hold hdep
      refine stepR_do rfl (wanted_none rfl) ?_
      refine stepR_val (v := .slice (some ⟨g, 0, none⟩) 2352 cap) (Below.refl _ _) rfl fun K hK => ?_
      go_simp
      exact hK
    · intro a W hc hsz hold hdep
      have o9 : a.tmps.getD 9 undef = .slice (some ⟨g1, 0, none⟩) n c1 := hold 9 (by kernel_rfl)
      clear hsz hold hdep
      refine stepR_do rfl (wanted_none rfl) ?_
      refine stepR_val (v := .slice (some ⟨g1, 0, none⟩) n c1) (Below.refl _ _) rfl fun K hK => ?_
      go_simp
      exact hK
    · intro a W hc hsz hold hdep
      have o9 : a.tmps.getD 9 undef = .slice (some ⟨g1, 0, none⟩) n c1 := hold 9 (by kernel_rfl)
      clear hsz hold hdep
      refine stepR_do rfl (wanted_none rfl) ?_
      refine stepR_val (v := .slice (some ⟨g1, 0, none⟩) n c1) (Below.refl _ _) rfl fun K hK => ?_
      go_simp
      exact hK
    · intro a W hc hsz hold hdep
      have d2 : a.tmps.getD 31 undef = .slice (some ⟨g1, 0, none⟩) n c1 := hdep 2 (by kernel_rfl) rfl _ rfl
      have e2 : a.tmps[31]?.getD undef = .slice (some ⟨g1, 0, none⟩) n c1 := by rw [← Array.getD_eq_getD_getElem?]; exact d2
      clear hsz hold hdep
      refine stepR_do rfl (wanted_none rfl) ?_
      refine stepR_val (v := .int .i64 (n : Int)) (Below.refl _ _) rfl fun K hK => ?_
      go_simp
      exact hK
    · intro a W hc hsz hold hdep
      have d3 : a.tmps.getD 32 undef = .int .i64 (n : Int) := hdep 3 (by kernel_rfl) rfl _ rfl
      have hn2 := hn26
      have hw2 : IntKind.i64.wrap ((n : Int) - 2) = (n : Int) - 2 := IntWalk.i64_in _ (by omega)
      clear hsz hold hdep
      refine stepR_do rfl (wanted_none rfl) ?_
      refine stepR_val (v := .int .i64 ((n : Int) - 2)) (Below.refl _ _) rfl fun K hK => ?_
      go_simp
      exact hK
    · intro a W hc hsz hold hdep
      have d1 : a.tmps.getD 30 undef = .slice (some ⟨g1, 0, none⟩) n c1 := hdep 1 (by kernel_rfl) rfl _ rfl
      have d4 : a.tmps.getD 33 undef = .int .i64 ((n : Int) - 2) := hdep 4 (by kernel_rfl) rfl _ rfl
      have hcut := HCut.out
      clear hsz hold hdep
      refine stepR_do rfl (wanted_none rfl) ?_
      refine stepR_val (v := v2) (Below.refl _ _) rfl fun K hK => ?_
      go_simp
      exact hK
    · intro a W hc hsz hold hdep
      have o6 : a.tmps.getD 6 undef = .pointer (some ⟨b6, 0, none⟩) := hold 6 (by kernel_rfl)
      have q := (HX.out.2.1.call hc).cell (i := 0) rfl
      clear hsz hold hdep
      refine stepR_do rfl (wanted_none rfl) ?_
      refine stepR_val (v := .int .i64 f) (Below.refl _ _) rfl fun K hK => ?_
      go_simp
      exact hK
    · intro a W hc hsz hold hdep
      have d0 : a.tmps.getD 29 undef = .slice (some ⟨g, 0, none⟩) 2352 cap := hdep 0 (by kernel_rfl) rfl _ rfl
      have e0 : a.tmps[29]?.getD undef = .slice (some ⟨g, 0, none⟩) 2352 cap := by rw [← Array.getD_eq_getD_getElem?]; exact d0
      have d5 : a.tmps.getD 34 undef = v2 := hdep 5 (by kernel_rfl) rfl _ rfl
      have e5 : a.tmps[34]?.getD undef = v2 := by rw [← Array.getD_eq_getD_getElem?]; exact d5
      have d6 : a.tmps.getD 35 undef = .int .i64 f := hdep 6 (by kernel_rfl) rfl _ rfl
      have e6 : a.tmps[35]?.getD undef = .int .i64 f := by rw [← Array.getD_eq_getD_getElem?]; exact d6
      clear hsz hold hdep
      refine stepR_do rfl (wanted_none rfl) ?_
      refine stepR_call (v := .string S) (fun W' hb => hb) (fun _ => rfl) fun K hK => ?_
      go_simp
      refine (HT.out W hc).mono ?_
      rintro e w' ⟨rfl, hb'⟩
      exact hK _ hb'
    · intro a W hc hsz hold hdep
      have d7 : a.tmps.getD 36 undef = .string S := hdep 7 (by kernel_rfl) rfl _ rfl
      clear hsz hold hdep
      refine stepR_do rfl (wanted_none rfl) ?_
      refine stepR_val (v := .string S) (Below.refl _ _) rfl fun K hK => ?_
      go_simp
      exact hK
    · intro a W hC hd hsz hold hval
      have d10 : a.tmps.getD 10 undef = .string S := hval 8 _ rfl rfl
      have d9 : a.tmps.getD 9 undef = .slice (some ⟨g1, 0, none⟩) n c1 := hold 9 (by kernel_rfl)
      have d8 : a.tmps.getD 8 undef = .pointer (some ⟨b8, 0, none⟩) := hold 8 (by kernel_rfl)
      have d6 : a.tmps.getD 6 undef = .pointer (some ⟨b6, 0, none⟩) := hold 6 (by kernel_rfl)
      clear hold
      obtain ⟨tm, df⟩ := a
      replace hd : df = [] := hd
      replace hsz : tm.size = 49 := hsz
      replace d10 : tm.getD 10 undef = .string S := d10
      replace d9 : tm.getD 9 undef = .slice (some ⟨g1, 0, none⟩) n c1 := d9
      replace d8 : tm.getD 8 undef = .pointer (some ⟨b8, 0, none⟩) := d8
      replace d6 : tm.getD 6 undef = .pointer (some ⟨b6, 0, none⟩) := d6
      subst hd
      have e : tm = List.toArray (tm.getD 0 undef :: tm.getD 1 undef :: tm.getD 2 undef :: tm.getD 3 undef :: tm.getD 4 undef :: tm.getD 5 undef :: tm.getD 6 undef :: tm.getD 7 undef :: tm.getD 8 undef :: tm.getD 9 undef :: tm.getD 10 undef :: tm.getD 11 undef :: tm.getD 12 undef :: tm.getD 13 undef :: tm.getD 14 undef :: tm.getD 15 undef :: tm.getD 16 undef :: tm.getD 17 undef :: tm.getD 18 undef :: tm.getD 19 undef :: tm.getD 20 undef :: tm.getD 21 undef :: tm.getD 22 undef :: tm.getD 23 undef :: tm.getD 24 undef :: tm.getD 25 undef :: tm.getD 26 undef :: tm.getD 27 undef :: tm.getD 28 undef :: tm.getD 29 undef :: tm.getD 30 undef :: tm.getD 31 undef :: tm.getD 32 undef :: tm.getD 33 undef :: tm.getD 34 undef :: tm.getD 35 undef :: tm.getD 36 undef :: tm.getD 37 undef :: tm.getD 38 undef :: tm.getD 39 undef :: tm.getD 40 undef :: tm.getD 41 undef :: tm.getD 42 undef :: tm.getD 43 undef :: tm.getD 44 undef :: tm.getD 45 undef :: tm.getD 46 undef :: tm.getD 47 undef :: tm.getD 48 undef :: []) := arr_eq tm 49 hsz
      rw [d10, d9, d8, d6] at e
      clear d10 d9 d8 d6 hsz
      generalize tm.getD 0 undef = v0 at e
      generalize tm.getD 1 undef = v1 at e
      generalize tm.getD 2 undef = v2 at e
      generalize tm.getD 3 undef = v3 at e
      generalize tm.getD 4 undef = v4 at e
      generalize tm.getD 5 undef = v5 at e
      generalize tm.getD 7 undef = v7 at e
      generalize tm.getD 11 undef = v11 at e
      generalize tm.getD 12 undef = v12 at e
      generalize tm.getD 13 undef = v13 at e
      generalize tm.getD 14 undef = v14 at e
      generalize tm.getD 15 undef = v15 at e
      generalize tm.getD 16 undef = v16 at e
      generalize tm.getD 17 undef = v17 at e
      generalize tm.getD 18 undef = v18 at e
      generalize tm.getD 19 undef = v19 at e
      generalize tm.getD 20 undef = v20 at e
      generalize tm.getD 21 undef = v21 at e
      generalize tm.getD 22 undef = v22 at e
      generalize tm.getD 23 undef = v23 at e
      generalize tm.getD 24 undef = v24 at e
      generalize tm.getD 25 undef = v25 at e
      generalize tm.getD 26 undef = v26 at e
      generalize tm.getD 27 undef = v27 at e
      generalize tm.getD 28 undef = v28 at e
      generalize tm.getD 29 undef = v29 at e
      generalize tm.getD 30 undef = v30 at e
      generalize tm.getD 31 undef = v31 at e
      generalize tm.getD 32 undef = v32 at e
      generalize tm.getD 33 undef = v33 at e
      generalize tm.getD 34 undef = v34 at e
      generalize tm.getD 35 undef = v35 at e
      generalize tm.getD 36 undef = v36 at e
      generalize tm.getD 37 undef = v37 at e
      generalize tm.getD 38 undef = v38 at e
      generalize tm.getD 39 undef = v39 at e
      generalize tm.getD 40 undef = v40 at e
      generalize tm.getD 41 undef = v41 at e
      generalize tm.getD 42 undef = v42 at e
      generalize tm.getD 43 undef = v43 at e
      generalize tm.getD 44 undef = v44 at e
      generalize tm.getD 45 undef = v45 at e
      generalize tm.getD 46 undef = v46 at e
      generalize tm.getD 47 undef = v47 at e
      generalize tm.getD 48 undef = v48 at e
      subst e
      gi_wp2_with (first | (refine ⟨trivial, ?_⟩; gi_at_call 36; refine (CallsIn.inRound l (callsIn_wide.2 (HE.out _))).mono ?_; rintro e W2 ⟨rfl, hb2⟩; have hc2 := hC.trans (hb2.mono hC.size); have q6 := (HX.out.2.1.call hc2).cell (i := 0) rfl; have q8 := (HX.out.2.2.call hc2).cell (i := 0) rfl) | (refine ⟨trivial, ?_⟩; gi_at_call 37; refine (CallsIn.inRound l (callsIn_wide.2 (HP.out _ hc2))).mono ?_; rintro e W3 hp; obtain ⟨⟨bb, rfl⟩, hr3, hg3⟩ := HPut.out _ _ _ hp; clear hp))
      have hB2 := HB.out.trans (hc2.mono HB.out.size)
      refine ⟨(kf_below hc2).trans (KeepsFrom.of_grownBy hg3 (fun j e => by cases e; have := HORD.out; have := HS0.out; omega)), ⟨hr3, ?_, ?_⟩, hB2.grown hg3 hB2.size (fun j e => by cases e; exact hbg.1)⟩
      · exact (hg3.block _ (HX.out.2.1.call hc2).lt (fun e => by have := HORD.out; cases e; omega)).trans (HX.out.2.1.call hc2)
      · exact (hg3.block _ (HX.out.2.2.call hc2).lt (fun e => by have := HORD.out; cases e; omega)).trans (HX.out.2.2.call hc2)
  case done =>
    rintro D W hD ⟨⟨hr, _, x8⟩, hb⟩ hK
    clear hR X6' X8 hB0 hseq
    have hel := encN_length raw f 138
    rw [HL.out] at hel
    have q8 := x8.cell (i := 0) rfl
    have hrd := hr.rd (by omega)
    rw [hel] at hrd
    have hcx := run_str (P := Try.prog) Try.underlying43 Try.underlying5 Try.underlying9 hrd
    clear hrd hel hr x8
    gi_wp2
    refine ⟨by simp, .inl ⟨_, _, rfl, run_takeDeferred hK, ?_⟩⟩
    exact ⟨_, results_tmp2 rfl _ _ _, rfl, hb.trans (belowK_b (w := w) (Nat.le_refl _) _ D _ _ (by omega) hK rfl rfl)⟩
  case stop =>
    rintro D c W _ h _
    exact h.elim
end Go.Proofs.Ytepdcpbgdfjobaa.W8
/- Chapter 8: Valid and Encode of the reference walked. -/
namespace Go.Proofs.Ytepdcpbgdfjobaa.W8
open Go.RowKit Go.Shelf
set_option linter.unusedVariables false

theorem Try.sizeLI : (Try.prog.info? 24).map (·.size) = some 1 := by kernel_rfl
def rvl7V (raw : List UInt8) (m f : Int) (gw cw k g1 n c1 : Nat) (S : ByteArray) (b : Bool) (i : Nat) (v : Value) (W : World) : Prop := match i with
  | 0 => v = .string (str raw)
  | 1 => ∃ g c, v = .slice (some ⟨g, 0, none⟩) 2352 c ∧ Rd W (.slice (some ⟨g, 0, none⟩) 2352 c) raw
  | 2 => v = .slice (some ⟨gw, 0, none⟩) 138 cw
  | 3 => v = .int .i64 (k : Int)
  | 4 => v = .pointer (some ⟨gw, k, none⟩)
  | 5 => v = .slice (some ⟨g1, 0, none⟩) n c1
  | 6 => v = .int .i64 m
  | 7 => v = .int .i64 f
  | 8 => v = .string S
  | 9 => v = .bool b
  | 10 => v = .bool (!b)
  | _ => True
theorem rvl7V_keep (raw : List UInt8) (m f : Int) (gw cw k g1 n c1 : Nat) (S : ByteArray) (b : Bool) (i : Nat) (v : Value) (W W' : World) (hR : (fun w W => Below w.heap.size w W) W W') (h : rvl7V raw m f gw cw k g1 n c1 S b i v W) : rvl7V raw m f gw cw k g1 n c1 S b i v W' := by
  by_cases h1 : i = 1
  · subst h1
    obtain ⟨g, c, h1, h2⟩ := h
    exact ⟨g, c, h1, h2.keep hR⟩
  unfold rvl7V at h ⊢
  split at h <;> first | exact h | exact absurd rfl h1

set_option maxRecDepth 100000 in
set_option maxHeartbeats 8000000 in
theorem rvalid8_any (raw : List UInt8) (m : Int) (w : World) (hl : raw.length ≤ 9223372036854775807) :
    Calls Try.prog 20 #[.string (str raw), .int .i64 m] w fun e w' => e = .returned (.bool (vldB raw m)) ∧ Below w.heap.size w w' := by
  have HF := Lib.hid (fun W => rfits_any raw m W hl)
  cases hf : fitB raw m with
  | false =>
    have e1 : vldB raw m = false := by
      unfold fitB at hf
      unfold vldB
      cases h1 : fstB m <;> simp_all
    rw [e1]
    rw [hf] at HF
    clear e1 hf hl
    go_enter Try.func20, Try.ntmps20
    go_wp2_with (refine (HF.out _).mono ?_; rintro e w' ⟨rfl, rfl⟩)
    go_ret
    exact ⟨rfl, Below.refl _ _⟩
  | true =>
    have h2 : raw.length = 2352 ∧ fstB m = true := by simpa [fitB] using hf
    have e1 : vldB raw m = soundB raw (rfst m) := by rw [rfst_eq h2.2]; simp [vldB, h2.1, h2.2]
    rw [e1]
    rw [hf] at HF
    have HL := Lib.hid h2.1
    have HFi : Hid (∀ W, Calls Try.prog 22 #[.int .i64 m] W fun e W' => e = .returned (.int .i64 (rfst m)) ∧ Below W.heap.size W W') := Lib.hid fun W => (rfirst_any m W).mono fun e w' ⟨a, b⟩ => ⟨a, b ▸ Below.refl _ _⟩
    generalize rfst m = f at *
    clear e1 hf h2 hl
    go_enter Try.func20, Try.ntmps20
    go_wp2_with (refine (HF.out _).mono ?_; rintro e w' ⟨rfl, rfl⟩)
    refine (rwords_any _).mono ?_
    rintro e w1 ⟨v, vs, rfl, ho1, hl1, hb1⟩
    obtain ⟨gw, cw, rfl, _, _⟩ := ownD_addr ho1 (by omega)
    go_wp2_with fail
    go_loopw [6] (fun vk wr => ∃ k : Nat, k ≤ 138 ∧ vk = .int .i64 k ∧ soundN raw f k = true ∧ wr.ownsRow w.heap.size 24 1 (.slice (some ⟨gw, 0, none⟩) 138 cw) 138 vs ∧ Lst w.heap.size wr vs 138 ∧ Below w.heap.size w wr) (fun vk _ => 138 - (intOf vk).toNat)
    case atStart => exact ⟨0, by omega, rfl, rfl, ho1, hl1, hb1⟩
    case round =>
      clear ho1 hl1 hb1
      obtain ⟨k, hk, rfl, hsn, ho, hl, hb⟩ := hrel
      by_cases hlt : k < 138
      · have hlt' : (k : Int) < 138 := by omega
        have hwb := wd_bd (show k < 138 from hlt)
        have hwl := wd_length k
        have hlen : (wd k).length ≤ 45 := by rw [hwl]; split <;> omega
        have hlen2 : 26 ≤ (wd k).length := by rw [hwl]; split <;> omega
        obtain ⟨vk, hvk⟩ : ∃ vk, vs[k]? = some vk := ⟨vs[k]'(by rw [hl.1]; exact hlt), List.getElem?_eq_getElem (by rw [hl.1]; exact hlt)⟩
        have hown := hl.2 k vk hvk
        obtain ⟨g1, c1, rfl, hce⟩ := own_int hown (by omega)
        have hcw : wr.cell? ⟨gw, k, none⟩ = some (.slice (some ⟨g1, 0, none⟩) (wd k).length c1) := by rw [ho.cellAt k (by have := ho.1; omega)]; exact hvk
        have hri := rdI_own (w := wr) hown rfl (by omega) (fun x hx => by have := hwb x hx; omega)
        have hix : ∀ w', (Instr.indexAt 63 (.slice (some ⟨gw, 0, none⟩) 138 cw) (.int .i64 (k : Int))).run Try.prog w' = .ok (.pointer (some ⟨gw, k, none⟩)) w' := fun w' => by
          have := run_idx (P := Try.prog) (t := 63) (e := 24) (cap := cw) (off := 0) (b := gw) Try.underlying63 Try.sizeLI rfl hlt _ rfl w'
          rwa [Nat.zero_add] at this
        have HIX := Lib.hid hix
        have HSy : Hid (∀ W, Below wr.heap.size wr W → ∀ rv, Rd W rv raw → Calls Try.prog 41 #[rv, .slice (some ⟨g1, 0, none⟩) (wd k).length c1, .int .i64 f] W fun e W' => e = .returned (.string (str (takeL raw (wd k) f))) ∧ Below W.heap.size W W') := Lib.hid fun W hW rv hrv =>
          rsymbols_any rv raw _ (wd k) f W hrv (hri.keep hW) (by omega) (fun x hx => by have := hwb x hx; have := HL.out; omega)
        have HV := Lib.hid (fun W => rvalid_any (takeL raw (wd k) f) 2 W (by rw [takeL_length]; omega))
        have hS : soundN raw f (k + 1) = (soundN raw f k && G.validB (takeL raw (wd k) f) 2) := rfl
        rw [hsn, Bool.true_and] at hS
        have hF : G.validB (takeL raw (wd k) f) 2 = false → soundB raw f = false := fun h => soundN_false h 138 hlt
        generalize G.validB (takeL raw (wd k) f) 2 = b at *
        generalize (wd k).length = n at *
        generalize str (takeL raw (wd k) f) = S at *
        have HS := Lib.hid hS
        have HFF := Lib.hid hF
        have HC := Lib.hid hcw
        have HLT : Hid ((⟨gw, k, none⟩ : Addr).block < wr.heap.size) := Lib.hid (World.block_lt_of_cell? wr _ hcw)
        have HO := Lib.hid ho; have HLs := Lib.hid hl; have HB := Lib.hid hb
        clear hS hF hsn hwb hwl hown hce hri hix ho hl hb hvk hcw
        go_wp2_with fail
        refine wp_region_inr (by kernel_rfl) (fun w W => Below w.heap.size w W) (fun W => Below wr.heap.size wr W) (rvl7V raw m f gw cw k g1 n c1 S b) (fun _ => false) (by kernel_rfl) (fun W W' hb h => h.trans (hb.mono h.size)) (rvl7V_keep raw m f gw cw k g1 n c1 S b) ((Below.refl _ _).drew) ⟨?_, ?_, ?_, ?_, ?_, ?_, ?_, ?_, ?_, ?_, ?_, trivial⟩ ?_
        · intro a W hc hsz hold hdep
          have o0 : a.tmps.getD 0 undef = .string (str raw) := hold 0 (by kernel_rfl)
          clear hsz hold hdep
          refine stepR_do rfl (wanted_none rfl) ?_
          refine stepR_val (v := .string (str raw)) (Below.refl _ _) rfl fun K hK => ?_
          go_simp
          exact hK
        · intro a W hc hsz hold hdep
          have d0 : a.tmps.getD 18 undef = .string (str raw) := hdep 0 (by kernel_rfl) rfl _ rfl
          clear hsz hold hdep
          refine stepR_do rfl (wanted_none rfl) ?_
          obtain ⟨w9, c9, hrun, hr9, hb9, hc9⟩ := run_bytes (P := Try.prog) W Try.underlying9 Try.underlying43 Try.underlying5 raw 2352 HL.out
          have hrd9 := hr9.rd (by have := HL.out; omega)
          rw [HL.out] at hrd9
          clear hr9 hc9
          refine stepR_new (v := .slice (some ⟨W.heap.size, 0, none⟩) 2352 c9) hb9 ⟨_, _, rfl, hrd9⟩ fun K hK => ?_
          go_simp
          exact hK
        · intro a W hc hsz hold hdep
          have o5 : a.tmps.getD 5 undef = .slice (some ⟨gw, 0, none⟩) 138 cw := hold 5 (by kernel_rfl)
          clear hsz hold hdep
          refine stepR_do rfl (wanted_none rfl) ?_
          refine stepR_val (v := .slice (some ⟨gw, 0, none⟩) 138 cw) (Below.refl _ _) rfl fun K hK => ?_
          go_simp
          exact hK
        · intro a W hc hsz hold hdep
          have o6 : a.tmps.getD 6 undef = .int .i64 (k : Int) := hold 6 (by kernel_rfl)
          clear hsz hold hdep
          refine stepR_do rfl (wanted_none rfl) ?_
          refine stepR_val (v := .int .i64 (k : Int)) (Below.refl _ _) rfl fun K hK => ?_
          go_simp
          exact hK
        · intro a W hc hsz hold hdep
          have d2 : a.tmps.getD 20 undef = .slice (some ⟨gw, 0, none⟩) 138 cw := hdep 2 (by kernel_rfl) rfl _ rfl
          have d3 : a.tmps.getD 21 undef = .int .i64 (k : Int) := hdep 3 (by kernel_rfl) rfl _ rfl
          have hix := HIX.out
          clear hsz hold hdep
          refine stepR_do rfl (wanted_none rfl) ?_
          refine stepR_val (v := .pointer (some ⟨gw, k, none⟩)) (Below.refl _ _) rfl fun K hK => ?_
          go_simp
          exact hK
        · intro a W hc hsz hold hdep
          have d4 : a.tmps.getD 22 undef = .pointer (some ⟨gw, k, none⟩) := hdep 4 (by kernel_rfl) rfl _ rfl
          have q := (hc.cell (p := ⟨gw, k, none⟩) HLT.out).trans HC.out
          clear hsz hold hdep
          refine stepR_do rfl (wanted_none rfl) ?_
          refine stepR_val (v := .slice (some ⟨g1, 0, none⟩) n c1) (Below.refl _ _) rfl fun K hK => ?_
          go_simp
          exact hK
        · intro a W hc hsz hold hdep
          have o1 : a.tmps.getD 1 undef = .int .i64 m := hold 1 (by kernel_rfl)
          clear hsz hold hdep
          refine stepR_do rfl (wanted_none rfl) ?_
          refine stepR_val (v := .int .i64 m) (Below.refl _ _) rfl fun K hK => ?_
          go_simp
          exact hK
        · intro a W hc hsz hold hdep
          have d6 : a.tmps.getD 24 undef = .int .i64 m := hdep 6 (by kernel_rfl) rfl _ rfl
          have e6 : a.tmps[24]?.getD undef = .int .i64 m := by rw [← Array.getD_eq_getD_getElem?]; exact d6
          clear hsz hold hdep
          refine stepR_do rfl (wanted_none rfl) ?_
          refine stepR_call (v := .int .i64 f) (fun W' hb => hb) (fun _ => rfl) fun K hK => ?_
          go_simp
          refine (HFi.out W).mono ?_
          rintro e w' ⟨rfl, hb'⟩
          exact hK _ hb'
        · intro a W hc hsz hold hdep
          have x1 := hdep 1 (by kernel_rfl) rfl _ rfl
          have d5 : a.tmps.getD 23 undef = .slice (some ⟨g1, 0, none⟩) n c1 := hdep 5 (by kernel_rfl) rfl _ rfl
          have e5 : a.tmps[23]?.getD undef = .slice (some ⟨g1, 0, none⟩) n c1 := by rw [← Array.getD_eq_getD_getElem?]; exact d5
          have d7 : a.tmps.getD 25 undef = .int .i64 f := hdep 7 (by kernel_rfl) rfl _ rfl
          have e7 : a.tmps[25]?.getD undef = .int .i64 f := by rw [← Array.getD_eq_getD_getElem?]; exact d7
          clear hsz hold hdep
          refine stepR_do rfl (wanted_none rfl) ?_
          obtain ⟨g9, c9, d1, hrd⟩ : ∃ g c, a.tmps.getD 19 undef = .slice (some ⟨g, 0, none⟩) 2352 c ∧ Rd W (.slice (some ⟨g, 0, none⟩) 2352 c) raw := x1
          have e1 : a.tmps[19]?.getD undef = .slice (some ⟨g9, 0, none⟩) 2352 c9 := by rw [← Array.getD_eq_getD_getElem?]; exact d1
          refine stepR_call (v := .string S) (fun W' hb => hb) (fun _ => rfl) fun K hK => ?_
          go_simp
          refine (HSy.out W hc _ hrd).mono ?_
          rintro e w' ⟨rfl, hb'⟩
          exact hK _ hb'
        · intro a W hc hsz hold hdep
          have d8 : a.tmps.getD 26 undef = .string S := hdep 8 (by kernel_rfl) rfl _ rfl
          have e8 : a.tmps[26]?.getD undef = .string S := by rw [← Array.getD_eq_getD_getElem?]; exact d8
          clear hsz hold hdep
          refine stepR_do rfl (wanted_none rfl) ?_
          refine stepR_call (v := .bool b) (fun W' hb => hb) (fun _ => rfl) fun K hK => ?_
          go_simp
          refine (HV.out W).mono ?_
          rintro e w' ⟨rfl, hb'⟩
          exact hK _ hb'
        · intro a W hc hsz hold hdep
          have d9 : a.tmps.getD 27 undef = .bool b := hdep 9 (by kernel_rfl) rfl _ rfl
          clear hsz hold hdep
          refine stepR_do rfl (wanted_none rfl) ?_
          refine stepR_val (v := .bool (!b)) (Below.refl _ _) rfl fun K hK => ?_
          go_simp
          exact hK
        · intro a W hC hd hsz hold hval
          have d28 : a.tmps.getD 28 undef = .bool (!b) := hval 10 _ rfl rfl
          have d5 : a.tmps.getD 5 undef = .slice (some ⟨gw, 0, none⟩) 138 cw := hold 5 (by kernel_rfl)
          have d6 : a.tmps.getD 6 undef = .int .i64 (k : Int) := hold 6 (by kernel_rfl)
          have d0 : a.tmps.getD 0 undef = .string (str raw) := hold 0 (by kernel_rfl)
          have d1 : a.tmps.getD 1 undef = .int .i64 m := hold 1 (by kernel_rfl)
          have d2 : a.tmps.getD 2 undef = undef := hold 2 (by kernel_rfl)
          have d3 : a.tmps.getD 3 undef = undef := hold 3 (by kernel_rfl)
          have d7 : a.tmps.getD 7 undef = .string (str raw) := hold 7 (by kernel_rfl)
          have d8 : a.tmps.getD 8 undef = .int .i64 m := hold 8 (by kernel_rfl)
          have d9 : a.tmps.getD 9 undef = .bool true := hold 9 (by kernel_rfl)
          have d10 : a.tmps.getD 10 undef = .bool false := hold 10 (by kernel_rfl)
          have d11 : a.tmps.getD 11 undef = .slice (some ⟨gw, 0, none⟩) 138 cw := hold 11 (by kernel_rfl)
          clear hold
          obtain ⟨tm, df⟩ := a
          replace hd : df = [] := hd
          replace hsz : tm.size = 29 := hsz
          replace d28 : tm.getD 28 undef = .bool (!b) := d28
          replace d5 : tm.getD 5 undef = .slice (some ⟨gw, 0, none⟩) 138 cw := d5
          replace d6 : tm.getD 6 undef = .int .i64 (k : Int) := d6
          replace d0 : tm.getD 0 undef = .string (str raw) := d0
          replace d1 : tm.getD 1 undef = .int .i64 m := d1
          replace d2 : tm.getD 2 undef = undef := d2
          replace d3 : tm.getD 3 undef = undef := d3
          replace d7 : tm.getD 7 undef = .string (str raw) := d7
          replace d8 : tm.getD 8 undef = .int .i64 m := d8
          replace d9 : tm.getD 9 undef = .bool true := d9
          replace d10 : tm.getD 10 undef = .bool false := d10
          replace d11 : tm.getD 11 undef = .slice (some ⟨gw, 0, none⟩) 138 cw := d11
          subst hd
          have e : tm = #[tm.getD 0 undef, tm.getD 1 undef, tm.getD 2 undef, tm.getD 3 undef, tm.getD 4 undef, tm.getD 5 undef, tm.getD 6 undef, tm.getD 7 undef, tm.getD 8 undef, tm.getD 9 undef, tm.getD 10 undef, tm.getD 11 undef, tm.getD 12 undef, tm.getD 13 undef, tm.getD 14 undef, tm.getD 15 undef, tm.getD 16 undef, tm.getD 17 undef, tm.getD 18 undef, tm.getD 19 undef, tm.getD 20 undef, tm.getD 21 undef, tm.getD 22 undef, tm.getD 23 undef, tm.getD 24 undef, tm.getD 25 undef, tm.getD 26 undef, tm.getD 27 undef, tm.getD 28 undef] := arr_eq tm 29 hsz
          rw [d28, d5, d6, d0, d1, d2, d3, d7, d8, d9, d10, d11] at e
          clear d28 d5 d6 d0 d1 d2 d3 d7 d8 d9 d10 d11 hsz
          generalize tm.getD 4 undef = v4 at e
          generalize tm.getD 12 undef = v12 at e
          generalize tm.getD 13 undef = v13 at e
          generalize tm.getD 14 undef = v14 at e
          generalize tm.getD 15 undef = v15 at e
          generalize tm.getD 16 undef = v16 at e
          generalize tm.getD 17 undef = v17 at e
          generalize tm.getD 18 undef = v18 at e
          generalize tm.getD 19 undef = v19 at e
          generalize tm.getD 20 undef = v20 at e
          generalize tm.getD 21 undef = v21 at e
          generalize tm.getD 22 undef = v22 at e
          generalize tm.getD 23 undef = v23 at e
          generalize tm.getD 24 undef = v24 at e
          generalize tm.getD 25 undef = v25 at e
          generalize tm.getD 26 undef = v26 at e
          generalize tm.getD 27 undef = v27 at e
          subst e
          have hB := HB.out.trans (hC.mono HB.out.size)
          have ho2 := own_keep' HO.out hC
          have hl2 := HLs.out.keep hC
          clear hval hC
          cases b with
          | false =>
            have HX := Lib.hid (HFF.out rfl)
            clear HFF
            go_wp2_with fail
            go_ret
            exact ⟨by rw [HX.out]; rfl, hB⟩
          | true =>
            go_wp2_with fail
            go_roundw
            case rel => exact ⟨k + 1, by omega, by go_num, HS.out, ho2, hl2, hB⟩
            case measure => simp [intOf]; omega
      · obtain rfl : k = 138 := by omega
        have HSN : Hid (soundB raw f = true) := Lib.hid hsn
        clear hsn
        go_wp2_with fail
        go_ret
        exact ⟨by rw [HSN.out]; rfl, hb⟩
/-- the encoding of any sector -/
def enc8 (raw : List UInt8) (m : Int) : List UInt8 × Int := if fitB raw m = true then (encN raw (fstI m) 138, 0) else ([], 1)
def renc9V (m f : Int) (g cap n g1 c1 : Nat) (v2 : Value) (S S2 : ByteArray) (i : Nat) (v : Value) (W : World) : Prop := match i with
  | 0 => v = .slice (some ⟨g, 0, none⟩) 2352 cap
  | 1 => v = .slice (some ⟨g1, 0, none⟩) n c1
  | 2 => v = .slice (some ⟨g1, 0, none⟩) n c1
  | 3 => v = .int .i64 (n : Int)
  | 4 => v = .int .i64 ((n : Int) - 2)
  | 5 => v = v2
  | 6 => v = .int .i64 m
  | 7 => v = .int .i64 f
  | 8 => v = .string S
  | 9 => v = .tuple #[.string S2, .int .i64 0]
  | 10 => v = .tuple #[.string S2, .int .i64 0]
  | 11 => v = .string S2
  | 12 => v = .int .i64 0
  | 13 => v = .string S2
  | 14 => v = .int .i64 0
  | _ => True
theorem renc9V_keep (m f : Int) (g cap n g1 c1 : Nat) (v2 : Value) (S S2 : ByteArray) (i : Nat) (v : Value) (W W' : World) (hR : (fun w W => Below w.heap.size w W) W W') (h : renc9V m f g cap n g1 c1 v2 S S2 i v W) : renc9V m f g cap n g1 c1 v2 S S2 i v W' := by
  unfold renc9V at h ⊢
  split at h <;> first | exact h

theorem grow_drew {w W : World} {r : Option Nat} (h : w.grownBy W r) : w.grownBy W.drew r := ⟨h.1, h.2, h.3, h.4, h.5⟩
set_option maxRecDepth 100000 in
set_option maxHeartbeats 8000000 in
theorem rencode8_any (raw : List UInt8) (m : Int) (w : World) (hl : raw.length ≤ 9223372036854775807) :
    Calls Try.prog 18 #[.string (str raw), .int .i64 m] w fun e w' => e = .returned (.tuple #[.string (str (enc8 raw m).1), .int .i64 (enc8 raw m).2]) ∧ Below w.heap.size w w' := by
  have HF := Lib.hid (fun W => rfits_any raw m W hl)
  cases hf : fitB raw m with
  | false =>
    have e1 : enc8 raw m = ([], 1) := by unfold enc8; rw [hf]; rfl
    rw [e1]
    rw [hf] at HF
    clear e1 hf hl
    go_enter Try.func18, Try.ntmps18
    go_wp2_with (refine (HF.out _).mono ?_; rintro e w' ⟨rfl, rfl⟩)
    go_ret2
    exact ⟨rfl, Below.refl _ _⟩
  | true =>
    have h2 : raw.length = 2352 ∧ fstB m = true := by simpa [fitB] using hf
    have e1 : enc8 raw m = (encN raw (fstI m) 138, 0) := by unfold enc8; rw [hf]; rfl
    rw [e1, ← rfst_eq h2.2]
    rw [hf] at HF
    have hf16 : rfst m ≤ 16 := by unfold rfst; split <;> omega
    have HL := Lib.hid h2.1
    have HFi : Hid (∀ W, Calls Try.prog 22 #[.int .i64 m] W fun e W' => e = .returned (.int .i64 (rfst m)) ∧ Below W.heap.size W W') := Lib.hid fun W => (rfirst_any m W).mono fun e w' ⟨a, b⟩ => ⟨a, b ▸ Below.refl _ _⟩
    generalize rfst m = f at *
    obtain ⟨w2, cap, hrun, hr2, hb2, hcap⟩ := run_bytes (P := Try.prog) w Try.underlying9 Try.underlying43 Try.underlying5 raw 2352 h2.1
    clear e1 hf h2 hl
    obtain ⟨g, hg⟩ : ∃ g, g = w.heap.size := ⟨_, rfl⟩
    rw [← hg] at hrun hr2
    go_enter Try.func18, Try.ntmps18
    have HG := Lib.hid hg
    clear hg
    go_wp2_with (refine (HF.out _).mono ?_; rintro e w' ⟨rfl, rfl⟩)
    clear hrun
    refine (rwords_any _).mono ?_
    rintro e w1 ⟨v, vs, rfl, ho1, hl1, hb1⟩
    obtain ⟨gw, cw, rfl, hgw, _⟩ := ownD_addr ho1 (by omega)
    have hr1 := hr2.below hb1
    have hgl := hr2.lt
    have hB1 := hb2.trans (hb1.mono hb2.size)
    have ho1 := own_mono ho1 (show g + 1 ≤ w2.heap.size by omega)
    have hl1 : Lst (g + 1) w1 vs 138 := ⟨hl1.1, fun j v hv => own_mono (hl1.2 j v hv) (by omega)⟩
    clear hr2 hb1 hb2 hgw hgl hcap
    go_wp2_with fail
    go_loopw [8] (fun vk wr => ∃ k : Nat, k ≤ 138 ∧ vk = .int .i64 k ∧ Row wr 5 g cap (encN raw f k) ∧ wr.ownsRow (g + 1) 24 1 (.slice (some ⟨gw, 0, none⟩) 138 cw) 138 vs ∧ Lst (g + 1) wr vs 138 ∧ Below w.heap.size w wr) (fun vk _ => 138 - (intOf vk).toNat)
    case atStart => exact ⟨0, by omega, rfl, hr1, ho1, hl1, hB1⟩
    case round =>
      clear ho1 hl1 hB1 hr1
      obtain ⟨k, hk, rfl, hrow, ho, hl, hb⟩ := hrel
      by_cases hlt : k < 138
      · have hlt' : (k : Int) < 138 := by omega
        have hwb := wd_bd (show k < 138 from hlt)
        have hwl := wd_length k
        have hlen : (wd k).length ≤ 45 := by rw [hwl]; split <;> omega
        have hlen2 : 26 ≤ (wd k).length := by rw [hwl]; split <;> omega
        obtain ⟨vk, hvk⟩ : ∃ vk, vs[k]? = some vk := ⟨vs[k]'(by rw [hl.1]; exact hlt), List.getElem?_eq_getElem (by rw [hl.1]; exact hlt)⟩
        have hown := hl.2 k vk hvk
        obtain ⟨g1, c1, rfl, hce⟩ := own_int hown (by omega)
        have hcw : wr.cell? ⟨gw, k, none⟩ = some (.slice (some ⟨g1, 0, none⟩) (wd k).length c1) := by rw [ho.cellAt k (by have := ho.1; omega)]; exact hvk
        have hri := rdI_own (w := wr) hown rfl (by omega) (fun x hx => by have := hwb x hx; omega)
        have hix : ∀ w', (Instr.indexAt 63 (.slice (some ⟨gw, 0, none⟩) 138 cw) (.int .i64 (k : Int))).run Try.prog w' = .ok (.pointer (some ⟨gw, k, none⟩)) w' := fun w' => by
          have := run_idx (P := Try.prog) (t := 63) (e := 24) (cap := cw) (off := 0) (b := gw) Try.underlying63 Try.sizeLI rfl hlt _ rfl w'
          rwa [Nat.zero_add] at this
        have HIX := Lib.hid hix
        have hel := encN_length raw f k
        rw [HL.out] at hel
        have hes : encN raw f (k + 1) = stepW (encN raw f k) (wd k) f := rfl
        generalize encN raw f k = R at *
        generalize hws : wd k = ws at *
        have hcl := cwd_length R ws f (by omega)
        obtain ⟨v2, hv2, hcut⟩ := run_cutI (P := Try.prog) Try.underlying24 Try.sizeInt hri (ws.length - 2) (by omega)
        have hrd := hrow.rd (by omega)
        rw [hel] at hrd
        have HT : Hid (∀ W, Below wr.heap.size wr W → Calls Try.prog 41 #[.slice (some ⟨g, 0, none⟩) 2352 cap, v2, .int .i64 f] W fun e W' => e = .returned (.string (str (takeL R (ws.take (ws.length - 2)) f))) ∧ Below W.heap.size W W') := Lib.hid fun W hW =>
          rsymbols_any _ R v2 _ f W (hrd.keep hW) (hv2 W (hri.keep hW)) (by rw [List.length_take]; omega) (fun x hx => by have := hwb x (List.mem_of_mem_take hx); rw [hel]; omega)
        have HE : Hid (∀ W, Calls Try.prog 40 #[.string (str (takeL R (ws.take (ws.length - 2)) f)), .int .i64 2] W fun e W' => e = .returned (.tuple #[.string (str (cwd R ws f)), .int .i64 0]) ∧ Below W.heap.size W W') := Lib.hid fun W =>
          rencode_ok _ 2 W (fun e => by have := congrArg List.length e; rw [takeL_length, List.length_take] at this; simp at this; omega) (by omega) (by omega) (by rw [takeL_length, List.length_take]; omega)
        have hb1 := hwb _ (ixI_mem (show ws.length - 2 < ws.length by omega))
        have hb2 := hwb _ (ixI_mem (show ws.length - 1 < ws.length by omega))
        obtain ⟨x, hx⟩ : ∃ x : Nat, ixI ws (ws.length - 2) = x := ⟨(ixI ws (ws.length - 2)).toNat, by omega⟩
        obtain ⟨y, hy⟩ : ∃ y : Nat, ixI ws (ws.length - 1) = y := ⟨(ixI ws (ws.length - 1)).toNat, by omega⟩
        have hcx := hce (ws.length - 2) (by omega)
        have hcy := hce (ws.length - 1) (by omega)
        unfold stepW at hes
        rw [hx, hy, Int.toNat_natCast, Int.toNat_natCast] at hes
        rw [hx] at hcx hb1
        rw [hy] at hcy hb2
        have hcut' : ∀ w', (Instr.slice 24 (.slice (some ⟨g1, 0, none⟩) ws.length c1) none (some (.int .i64 ((ws.length : Int) - 2))) none).run Try.prog w' = .ok v2 w' := fun w' => hcut _ w' (by omega)
        have HCut := Lib.hid hcut'
        obtain ⟨n, hn⟩ : ∃ n, n = ws.length := ⟨_, rfl⟩
        rw [← hn] at HT HE HCut hes hcl hcx hcy hcw hown hlen hlen2
        have HN26 : Hid ((26 : Int) ≤ n ∧ (n : Int) ≤ 45) := Lib.hid (by omega)
        generalize str (takeL R (ws.take (n - 2)) f) = S at HT HE
        have hgne : g1 ≠ g := by
          rcases hown.2 with ⟨h0, _⟩ | ⟨b, cap', cur, h1, h2, h3, h4⟩
          · simp at h0
          · simp only [Value.slice.injEq, Option.some.injEq, Addr.mk.injEq, and_true, true_and] at h1
            omega
        have HC := Lib.hid hcw; have HCX := Lib.hid hcx; have HCY := Lib.hid hcy
        have HCL := Lib.hid hcl; have HES := Lib.hid hes; have HROW := Lib.hid hrow; have HEL := Lib.hid hel
        have HO := Lib.hid ho; have HLs := Lib.hid hl; have HB := Lib.hid hb; have HNE := Lib.hid hgne
        have hxb : x < 2352 := by omega
        have hyb : y < 2352 := by omega
        have HXY := Lib.hid (And.intro hxb hyb)
        clear hn hws hcut hcut' hv2 hrd hri hce hown hwb hwl hlen hlen2 hvk hcx hcy hcl hes hrow hel ho hl hb hgne hb1 hb2 hx hy hxb hyb
        have hix := HIX.out
        have hcw := HC.out
        go_wp2_with fail
        clear hix hcw
        refine wp_region_inr (by kernel_rfl) (fun w W => Below w.heap.size w W) (fun W => Below wr.heap.size wr W) (renc9V m f g cap n g1 c1 v2 S (str (cwd R ws f))) (fun _ => false) (by kernel_rfl) (fun W W' hb h => h.trans (hb.mono h.size)) (renc9V_keep m f g cap n g1 c1 v2 S (str (cwd R ws f))) ((Below.refl _ _).drew) ⟨?_, ?_, ?_, ?_, ?_, ?_, ?_, ?_, ?_, ?_, ?_, ?_, ?_, ?_, ?_, trivial⟩ ?_
        · intro a W hc hsz hold hdep
          have o6 : a.tmps.getD 6 undef = .slice (some ⟨g, 0, none⟩) 2352 cap := hold 6 (by kernel_rfl)
          clear hsz hold hdep
          refine stepR_do rfl (wanted_none rfl) ?_
          refine stepR_val (v := .slice (some ⟨g, 0, none⟩) 2352 cap) (Below.refl _ _) rfl fun K hK => ?_
          go_simp
          exact hK
        · intro a W hc hsz hold hdep
          have o9 : a.tmps.getD 9 undef = .slice (some ⟨g1, 0, none⟩) n c1 := hold 9 (by kernel_rfl)
          clear hsz hold hdep
          refine stepR_do rfl (wanted_none rfl) ?_
          refine stepR_val (v := .slice (some ⟨g1, 0, none⟩) n c1) (Below.refl _ _) rfl fun K hK => ?_
          go_simp
          exact hK
        · intro a W hc hsz hold hdep
          have o9 : a.tmps.getD 9 undef = .slice (some ⟨g1, 0, none⟩) n c1 := hold 9 (by kernel_rfl)
          clear hsz hold hdep
          refine stepR_do rfl (wanted_none rfl) ?_
          refine stepR_val (v := .slice (some ⟨g1, 0, none⟩) n c1) (Below.refl _ _) rfl fun K hK => ?_
          go_simp
          exact hK
        · intro a W hc hsz hold hdep
          have d2 : a.tmps.getD 32 undef = .slice (some ⟨g1, 0, none⟩) n c1 := hdep 2 (by kernel_rfl) rfl _ rfl
          have e2 : a.tmps[32]?.getD undef = .slice (some ⟨g1, 0, none⟩) n c1 := by rw [← Array.getD_eq_getD_getElem?]; exact d2
          clear hsz hold hdep
          refine stepR_do rfl (wanted_none rfl) ?_
          refine stepR_val (v := .int .i64 (n : Int)) (Below.refl _ _) rfl fun K hK => ?_
          go_simp
          exact hK
        · intro a W hc hsz hold hdep
          have d3 : a.tmps.getD 33 undef = .int .i64 (n : Int) := hdep 3 (by kernel_rfl) rfl _ rfl
          have hn2 := HN26.out
          have hw2 : IntKind.i64.wrap ((n : Int) - 2) = (n : Int) - 2 := IntWalk.i64_in _ (by omega)
          clear hsz hold hdep
          refine stepR_do rfl (wanted_none rfl) ?_
          refine stepR_val (v := .int .i64 ((n : Int) - 2)) (Below.refl _ _) rfl fun K hK => ?_
          go_simp
          exact hK
        · intro a W hc hsz hold hdep
          have d1 : a.tmps.getD 31 undef = .slice (some ⟨g1, 0, none⟩) n c1 := hdep 1 (by kernel_rfl) rfl _ rfl
          have d4 : a.tmps.getD 34 undef = .int .i64 ((n : Int) - 2) := hdep 4 (by kernel_rfl) rfl _ rfl
          have hcut := HCut.out
          clear hsz hold hdep
          refine stepR_do rfl (wanted_none rfl) ?_
          refine stepR_val (v := v2) (Below.refl _ _) rfl fun K hK => ?_
          go_simp
          exact hK
        · intro a W hc hsz hold hdep
          have o1 : a.tmps.getD 1 undef = .int .i64 m := hold 1 (by kernel_rfl)
          clear hsz hold hdep
          refine stepR_do rfl (wanted_none rfl) ?_
          refine stepR_val (v := .int .i64 m) (Below.refl _ _) rfl fun K hK => ?_
          go_simp
          exact hK
        · intro a W hc hsz hold hdep
          have d6 : a.tmps.getD 36 undef = .int .i64 m := hdep 6 (by kernel_rfl) rfl _ rfl
          have e6 : a.tmps[36]?.getD undef = .int .i64 m := by rw [← Array.getD_eq_getD_getElem?]; exact d6
          clear hsz hold hdep
          refine stepR_do rfl (wanted_none rfl) ?_
          refine stepR_call (v := .int .i64 f) (fun W' hb => hb) (fun _ => rfl) fun K hK => ?_
          go_simp
          refine (HFi.out W).mono ?_
          rintro e w' ⟨rfl, hb'⟩
          exact hK _ hb'
        · intro a W hc hsz hold hdep
          have d0 : a.tmps.getD 30 undef = .slice (some ⟨g, 0, none⟩) 2352 cap := hdep 0 (by kernel_rfl) rfl _ rfl
          have e0 : a.tmps[30]?.getD undef = .slice (some ⟨g, 0, none⟩) 2352 cap := by rw [← Array.getD_eq_getD_getElem?]; exact d0
          have d5 : a.tmps.getD 35 undef = v2 := hdep 5 (by kernel_rfl) rfl _ rfl
          have e5 : a.tmps[35]?.getD undef = v2 := by rw [← Array.getD_eq_getD_getElem?]; exact d5
          have d7 : a.tmps.getD 37 undef = .int .i64 f := hdep 7 (by kernel_rfl) rfl _ rfl
          have e7 : a.tmps[37]?.getD undef = .int .i64 f := by rw [← Array.getD_eq_getD_getElem?]; exact d7
          clear hsz hold hdep
          refine stepR_do rfl (wanted_none rfl) ?_
          refine stepR_call (v := .string S) (fun W' hb => hb) (fun _ => rfl) fun K hK => ?_
          go_simp
          refine (HT.out W hc).mono ?_
          rintro e w' ⟨rfl, hb'⟩
          exact hK _ hb'
        · intro a W hc hsz hold hdep
          have d8 : a.tmps.getD 38 undef = .string S := hdep 8 (by kernel_rfl) rfl _ rfl
          have e8 : a.tmps[38]?.getD undef = .string S := by rw [← Array.getD_eq_getD_getElem?]; exact d8
          clear hsz hold hdep
          refine stepR_do rfl (wanted_none rfl) ?_
          refine stepR_call (v := .tuple #[.string (str (cwd R ws f)), .int .i64 0]) (fun W' hb => hb) (fun _ => rfl) fun K hK => ?_
          go_simp
          refine (HE.out W).mono ?_
          rintro e w' ⟨rfl, hb'⟩
          exact hK _ hb'
        · intro a W hc hsz hold hdep
          have d9 : a.tmps.getD 39 undef = .tuple #[.string (str (cwd R ws f)), .int .i64 0] := hdep 9 (by kernel_rfl) rfl _ rfl
          clear hsz hold hdep
          refine stepR_do rfl (wanted_none rfl) ?_
          refine stepR_val (v := .tuple #[.string (str (cwd R ws f)), .int .i64 0]) (Below.refl _ _) rfl fun K hK => ?_
          go_simp
          exact hK
        · intro a W hc hsz hold hdep
          have d10 : a.tmps.getD 29 undef = .tuple #[.string (str (cwd R ws f)), .int .i64 0] := hdep 10 (by kernel_rfl) rfl _ rfl
          clear hsz hold hdep
          refine stepR_do rfl (wanted_none rfl) ?_
          refine stepR_val (v := .string (str (cwd R ws f))) (Below.refl _ _) rfl fun K hK => ?_
          go_simp
          exact hK
        · intro a W hc hsz hold hdep
          have d10 : a.tmps.getD 29 undef = .tuple #[.string (str (cwd R ws f)), .int .i64 0] := hdep 10 (by kernel_rfl) rfl _ rfl
          clear hsz hold hdep
          refine stepR_do rfl (wanted_none rfl) ?_
          refine stepR_val (v := .int .i64 0) (Below.refl _ _) rfl fun K hK => ?_
          go_simp
          exact hK
        · intro a W hc hsz hold hdep
          have d11 : a.tmps.getD 40 undef = .string (str (cwd R ws f)) := hdep 11 (by kernel_rfl) rfl _ rfl
          clear hsz hold hdep
          refine stepR_do rfl (wanted_none rfl) ?_
          refine stepR_val (v := .string (str (cwd R ws f))) (Below.refl _ _) rfl fun K hK => ?_
          go_simp
          exact hK
        · intro a W hc hsz hold hdep
          have d12 : a.tmps.getD 41 undef = .int .i64 0 := hdep 12 (by kernel_rfl) rfl _ rfl
          clear hsz hold hdep
          refine stepR_do rfl (wanted_none rfl) ?_
          refine stepR_val (v := .int .i64 0) (Below.refl _ _) rfl fun K hK => ?_
          go_simp
          exact hK
        · intro a W hC hd hsz hold hval
          have d10 : a.tmps.getD 10 undef = .string (str (cwd R ws f)) := hval 13 _ rfl rfl
          have d6 : a.tmps.getD 6 undef = .slice (some ⟨g, 0, none⟩) 2352 cap := hold 6 (by kernel_rfl)
          have d7 : a.tmps.getD 7 undef = .slice (some ⟨gw, 0, none⟩) 138 cw := hold 7 (by kernel_rfl)
          have d8 : a.tmps.getD 8 undef = .int .i64 (k : Int) := hold 8 (by kernel_rfl)
          have d9 : a.tmps.getD 9 undef = .slice (some ⟨g1, 0, none⟩) n c1 := hold 9 (by kernel_rfl)
          have d0 : a.tmps.getD 0 undef = .string (str raw) := hold 0 (by kernel_rfl)
          have d1 : a.tmps.getD 1 undef = .int .i64 m := hold 1 (by kernel_rfl)
          have d2 : a.tmps.getD 2 undef = undef := hold 2 (by kernel_rfl)
          have d3 : a.tmps.getD 3 undef = undef := hold 3 (by kernel_rfl)
          have d4 : a.tmps.getD 4 undef = .string ⟨#[]⟩ := hold 4 (by kernel_rfl)
          have d5 : a.tmps.getD 5 undef = .int .i64 0 := hold 5 (by kernel_rfl)
          have d12 : a.tmps.getD 12 undef = .string (str raw) := hold 12 (by kernel_rfl)
          have d13 : a.tmps.getD 13 undef = .int .i64 m := hold 13 (by kernel_rfl)
          have d14 : a.tmps.getD 14 undef = .bool true := hold 14 (by kernel_rfl)
          have d15 : a.tmps.getD 15 undef = .bool false := hold 15 (by kernel_rfl)
          have d16 : a.tmps.getD 16 undef = .string (str raw) := hold 16 (by kernel_rfl)
          have d17 : a.tmps.getD 17 undef = .slice (some ⟨g, 0, none⟩) 2352 cap := hold 17 (by kernel_rfl)
          have d18 : a.tmps.getD 18 undef = .slice (some ⟨gw, 0, none⟩) 138 cw := hold 18 (by kernel_rfl)
          have d68 : a.tmps.getD 68 undef = undef := hold 68 (by kernel_rfl)
          have d69 : a.tmps.getD 69 undef = undef := hold 69 (by kernel_rfl)
          clear hold
          obtain ⟨tm, df⟩ := a
          replace hd : df = [] := hd
          replace hsz : tm.size = 70 := hsz
          replace d10 : tm.getD 10 undef = .string (str (cwd R ws f)) := d10
          replace d6 : tm.getD 6 undef = .slice (some ⟨g, 0, none⟩) 2352 cap := d6
          replace d7 : tm.getD 7 undef = .slice (some ⟨gw, 0, none⟩) 138 cw := d7
          replace d8 : tm.getD 8 undef = .int .i64 (k : Int) := d8
          replace d9 : tm.getD 9 undef = .slice (some ⟨g1, 0, none⟩) n c1 := d9
          replace d0 : tm.getD 0 undef = .string (str raw) := d0
          replace d1 : tm.getD 1 undef = .int .i64 m := d1
          replace d2 : tm.getD 2 undef = undef := d2
          replace d3 : tm.getD 3 undef = undef := d3
          replace d4 : tm.getD 4 undef = .string ⟨#[]⟩ := d4
          replace d5 : tm.getD 5 undef = .int .i64 0 := d5
          replace d12 : tm.getD 12 undef = .string (str raw) := d12
          replace d13 : tm.getD 13 undef = .int .i64 m := d13
          replace d14 : tm.getD 14 undef = .bool true := d14
          replace d15 : tm.getD 15 undef = .bool false := d15
          replace d16 : tm.getD 16 undef = .string (str raw) := d16
          replace d17 : tm.getD 17 undef = .slice (some ⟨g, 0, none⟩) 2352 cap := d17
          replace d18 : tm.getD 18 undef = .slice (some ⟨gw, 0, none⟩) 138 cw := d18
          replace d68 : tm.getD 68 undef = undef := d68
          replace d69 : tm.getD 69 undef = undef := d69
          subst hd
          have e : tm = List.toArray (tm.getD 0 undef :: tm.getD 1 undef :: tm.getD 2 undef :: tm.getD 3 undef :: tm.getD 4 undef :: tm.getD 5 undef :: tm.getD 6 undef :: tm.getD 7 undef :: tm.getD 8 undef :: tm.getD 9 undef :: tm.getD 10 undef :: tm.getD 11 undef :: tm.getD 12 undef :: tm.getD 13 undef :: tm.getD 14 undef :: tm.getD 15 undef :: tm.getD 16 undef :: tm.getD 17 undef :: tm.getD 18 undef :: tm.getD 19 undef :: tm.getD 20 undef :: tm.getD 21 undef :: tm.getD 22 undef :: tm.getD 23 undef :: tm.getD 24 undef :: tm.getD 25 undef :: tm.getD 26 undef :: tm.getD 27 undef :: tm.getD 28 undef :: tm.getD 29 undef :: tm.getD 30 undef :: tm.getD 31 undef :: tm.getD 32 undef :: tm.getD 33 undef :: tm.getD 34 undef :: tm.getD 35 undef :: tm.getD 36 undef :: tm.getD 37 undef :: tm.getD 38 undef :: tm.getD 39 undef :: tm.getD 40 undef :: tm.getD 41 undef :: tm.getD 42 undef :: tm.getD 43 undef :: tm.getD 44 undef :: tm.getD 45 undef :: tm.getD 46 undef :: tm.getD 47 undef :: tm.getD 48 undef :: tm.getD 49 undef :: tm.getD 50 undef :: tm.getD 51 undef :: tm.getD 52 undef :: tm.getD 53 undef :: tm.getD 54 undef :: tm.getD 55 undef :: tm.getD 56 undef :: tm.getD 57 undef :: tm.getD 58 undef :: tm.getD 59 undef :: tm.getD 60 undef :: tm.getD 61 undef :: tm.getD 62 undef :: tm.getD 63 undef :: tm.getD 64 undef :: tm.getD 65 undef :: tm.getD 66 undef :: tm.getD 67 undef :: tm.getD 68 undef :: tm.getD 69 undef :: []) := arr_eq tm 70 hsz
          rw [d10, d6, d7, d8, d9, d0, d1, d2, d3, d4, d5, d12, d13, d14, d15, d16, d17, d18, d68, d69] at e
          clear d10 d6 d7 d8 d9 d0 d1 d2 d3 d4 d5 d12 d13 d14 d15 d16 d17 d18 d68 d69 hsz
          generalize tm.getD 11 undef = v11 at e
          generalize tm.getD 19 undef = v19 at e
          generalize tm.getD 20 undef = v20 at e
          generalize tm.getD 21 undef = v21 at e
          generalize tm.getD 22 undef = v22 at e
          generalize tm.getD 23 undef = v23 at e
          generalize tm.getD 24 undef = v24 at e
          generalize tm.getD 25 undef = v25 at e
          generalize tm.getD 26 undef = v26 at e
          generalize tm.getD 27 undef = v27 at e
          generalize tm.getD 28 undef = v28 at e
          generalize tm.getD 29 undef = v29 at e
          generalize tm.getD 30 undef = v30 at e
          generalize tm.getD 31 undef = v31 at e
          generalize tm.getD 32 undef = v32 at e
          generalize tm.getD 33 undef = v33 at e
          generalize tm.getD 34 undef = v34 at e
          generalize tm.getD 35 undef = v35 at e
          generalize tm.getD 36 undef = v36 at e
          generalize tm.getD 37 undef = v37 at e
          generalize tm.getD 38 undef = v38 at e
          generalize tm.getD 39 undef = v39 at e
          generalize tm.getD 40 undef = v40 at e
          generalize tm.getD 41 undef = v41 at e
          generalize tm.getD 42 undef = v42 at e
          generalize tm.getD 43 undef = v43 at e
          generalize tm.getD 44 undef = v44 at e
          generalize tm.getD 45 undef = v45 at e
          generalize tm.getD 46 undef = v46 at e
          generalize tm.getD 47 undef = v47 at e
          generalize tm.getD 48 undef = v48 at e
          generalize tm.getD 49 undef = v49 at e
          generalize tm.getD 50 undef = v50 at e
          generalize tm.getD 51 undef = v51 at e
          generalize tm.getD 52 undef = v52 at e
          generalize tm.getD 53 undef = v53 at e
          generalize tm.getD 54 undef = v54 at e
          generalize tm.getD 55 undef = v55 at e
          generalize tm.getD 56 undef = v56 at e
          generalize tm.getD 57 undef = v57 at e
          generalize tm.getD 58 undef = v58 at e
          generalize tm.getD 59 undef = v59 at e
          generalize tm.getD 60 undef = v60 at e
          generalize tm.getD 61 undef = v61 at e
          generalize tm.getD 62 undef = v62 at e
          generalize tm.getD 63 undef = v63 at e
          generalize tm.getD 64 undef = v64 at e
          generalize tm.getD 65 undef = v65 at e
          generalize tm.getD 66 undef = v66 at e
          generalize tm.getD 67 undef = v67 at e
          subst e
          clear hval
          have hrW := HROW.out.below hC
          have hle := hrW.le
          rw [HEL.out] at hle
          have qx := (hC.cell (p := ⟨g1, n - 2, none⟩) (World.block_lt_of_cell? wr _ HCX.out)).trans HCX.out
          have HQY := Lib.hid ((hC.cell (p := ⟨g1, n - 1, none⟩) (World.block_lt_of_cell? wr _ HCY.out)).trans HCY.out)
          have c0 := hrW.cell x (by rw [HEL.out]; exact HXY.out.1)
          have f0 := hrW.frozen x (by have := HXY.out.1; omega)
          have hx2 := HXY.out.1
          have HRW := Lib.hid hrW
          have HCC := Lib.hid hC
          clear hrW hC
          go_wp2_with fail
          have hn2 := HN26.out
          have e1 : IntKind.i64.wrap ((n : Int) - 2) = (n : Int) - 2 := IntWalk.i64_in _ (by omega)
          have e2 : (0 : Int) ≤ (n : Int) - 2 := by omega
          have e3 : (n : Int) - 2 < (n : Int) := by omega
          have e4 : ((n : Int) - 2).toNat = n - 2 := by omega
          have hsz : (str (cwd R ws f)).size = n := by rw [str_size]; exact HCL.out
          have hix : ∀ wx, (Instr.indexAt 24 (.slice (some ⟨g1, 0, none⟩) n c1) (.int .i64 ((n : Int) - 2))).run Try.prog wx = .ok (.pointer (some ⟨g1, n - 2, none⟩)) wx := fun wx => by
            have := run_idx (P := Try.prog) (a := some ⟨g1, 0, none⟩) (off := 0) (b := g1) (n := n) (cap := c1) (k := n - 2) Try.underlying24 Try.sizeInt rfl (by omega) ((n : Int) - 2) (by omega) wx
            rwa [Nat.zero_add] at this
          have hiy : ∀ wx, (Instr.indexAt 43 (.slice (some ⟨g, 0, none⟩) 2352 cap) (.int .i64 (x : Int))).run Try.prog wx = .ok (.pointer (some ⟨g, x, none⟩)) wx := fun wx => by
            have := run_idx (P := Try.prog) (a := some ⟨g, 0, none⟩) (off := 0) (b := g) (n := 2352) (cap := cap) (k := x) Try.underlying43 Try.sizeU8 rfl (by first | exact HXY.out.1 | exact HXY.out.2) _ rfl wx
            rwa [Nat.zero_add] at this
          have hsx := fun wx => run_sidx (P := Try.prog) Try.underlying9 (cwd R ws f) (n - 2) (by rw [HCL.out]; omega) ((n : Int) - 2) (by omega) wx
          go_still_tail 13, (by kernel_rfl)
          clear e1 e2 e3 e4 hsx hix hiy hsz hn2
          change wpList _ _ _ _ _ W.drew
          go_wp2_with fail
          have hr2 : Row ((W.setCell ⟨g, x, none⟩ (B (G.ix (cwd R ws f) (n - 2)))).drew) 5 g cap (R.set x (G.ix (cwd R ws f) (n - 2))) := (HRW.out.store x _ (by rw [HEL.out]; exact hx2)).keep rfl
          have hg2 : W.grownBy ((W.setCell ⟨g, x, none⟩ (B (G.ix (cwd R ws f) (n - 2)))).drew) (some g) := grow_drew (grow_set (World.grownBy.refl W _) x _)
          generalize (W.setCell ⟨g, x, none⟩ (B (G.ix (cwd R ws f) (n - 2)))).drew = W2 at hr2 hg2 ⊢
          have hl2 : (R.set x (G.ix (cwd R ws f) (n - 2))).length = 2352 := by rw [List.length_set]; exact HEL.out
          have qy : W2.cell? ⟨g1, n - 1, none⟩ = some (.int .i64 y) := by
            rw [← HQY.out]
            exact World.cell?_of_block (hg2.block g1 (World.block_lt_of_cell? W _ HQY.out) (fun e => HNE.out (Option.some.inj e)))
          have hy2 := HXY.out.2
          have c0 := hr2.cell y (by rw [hl2]; exact hy2)
          have f0 := hr2.frozen y (by omega)
          have HR2 := Lib.hid hr2; have HG2 := Lib.hid hg2; have HL2 := Lib.hid hl2
          clear hr2 hg2 hl2 hx2 qx
          go_wp2_with fail
          have hn2 := HN26.out
          have e1 : IntKind.i64.wrap ((n : Int) - 1) = (n : Int) - 1 := IntWalk.i64_in _ (by omega)
          have e2 : (0 : Int) ≤ (n : Int) - 1 := by omega
          have e3 : (n : Int) - 1 < (n : Int) := by omega
          have e4 : ((n : Int) - 1).toNat = n - 1 := by omega
          have hsz : (str (cwd R ws f)).size = n := by rw [str_size]; exact HCL.out
          have hix : ∀ wx, (Instr.indexAt 24 (.slice (some ⟨g1, 0, none⟩) n c1) (.int .i64 ((n : Int) - 1))).run Try.prog wx = .ok (.pointer (some ⟨g1, n - 1, none⟩)) wx := fun wx => by
            have := run_idx (P := Try.prog) (a := some ⟨g1, 0, none⟩) (off := 0) (b := g1) (n := n) (cap := c1) (k := n - 1) Try.underlying24 Try.sizeInt rfl (by omega) ((n : Int) - 1) (by omega) wx
            rwa [Nat.zero_add] at this
          have hiy : ∀ wx, (Instr.indexAt 43 (.slice (some ⟨g, 0, none⟩) 2352 cap) (.int .i64 (y : Int))).run Try.prog wx = .ok (.pointer (some ⟨g, y, none⟩)) wx := fun wx => by
            have := run_idx (P := Try.prog) (a := some ⟨g, 0, none⟩) (off := 0) (b := g) (n := 2352) (cap := cap) (k := y) Try.underlying43 Try.sizeU8 rfl (by first | exact HXY.out.1 | exact HXY.out.2) _ rfl wx
            rwa [Nat.zero_add] at this
          have hsx := fun wx => run_sidx (P := Try.prog) Try.underlying9 (cwd R ws f) (n - 1) (by rw [HCL.out]; omega) ((n : Int) - 1) (by omega) wx
          go_still_tail 13, (by kernel_rfl)
          clear e1 e2 e3 e4 hsx hix hiy hsz hn2
          change wpList _ _ _ _ _ W2.drew
          go_wp2_with fail
          have hr3 : Row ((W2.setCell ⟨g, y, none⟩ (B (G.ix (cwd R ws f) (n - 1)))).drew) 5 g cap (encN raw f (k + 1)) := by
            rw [HES.out]
            exact (HR2.out.store y _ (by rw [HL2.out]; exact hy2)).keep rfl
          have hg3 : W.grownBy ((W2.setCell ⟨g, y, none⟩ (B (G.ix (cwd R ws f) (n - 1)))).drew) (some g) := grow_drew (grow_set HG2.out y _)
          have hB := HB.out.trans (HCC.out.mono HB.out.size)
          have ho2 := own_keep' HO.out HCC.out
          have hl2 := HLs.out.keep HCC.out
          have ho3 := own_other ho2 hg3 (fun j hj e => by have := ownBlock_ge' ho2 j hj; have := Option.some.inj e; omega)
          have hl3 : Lst (g + 1) ((W2.setCell ⟨g, y, none⟩ (B (G.ix (cwd R ws f) (n - 1)))).drew) vs 138 := ⟨hl2.1, fun j v hv => own_other (hl2.2 j v hv) hg3 (fun i hi e => by have := ownBlock_ge' (hl2.2 j v hv) i hi; have := Option.some.inj e; omega)⟩
          have hB3 := hB.grown hg3 hB.size (fun j e => by have := Option.some.inj e; have := HG.out; omega)
          clear hB ho2 hl2 hg3
          go_roundw
          case rel => exact ⟨k + 1, by omega, by go_num, hr3, ho3, hl3, hB3⟩
          case measure => simp [intOf]; omega
      · obtain rfl : k = 138 := by omega
        have hel := encN_length raw f 138
        rw [HL.out] at hel
        have hrd := hrow.rd (by omega)
        rw [hel] at hrd
        have hcx := run_str (P := Try.prog) Try.underlying43 Try.underlying5 Try.underlying9 hrd
        clear hrd hel hrow
        go_wp2_with fail
        go_ret2
        exact ⟨rfl, hb⟩
end Go.Proofs.Ytepdcpbgdfjobaa.W8
/- Chapter 8: the law ProductcodeEncodes walked. -/
namespace Go.Proofs.Ytepdcpbgdfjobaa.W8
open Go.RowKit Go.Shelf
set_option linter.unusedVariables false

theorem fit_fst {raw : List UInt8} {m : Int} (h : fitB raw m = true) : fstB m = true ∧ raw.length = 2352 := by
  have h2 : raw.length = 2352 ∧ fstB m = true := by simpa [fitB] using h
  exact ⟨h2.2, h2.1⟩
set_option maxRecDepth 100000 in
set_option maxHeartbeats 1000000 in
theorem encode8_any (raw : List UInt8) (m : Int) (w : World) (hl : raw.length ≤ 9223372036854775807) :
    Calls Try.prog 17 #[.string (str raw), .int .i64 m] w fun e w' => e = .returned (.tuple #[.string (str (enc8 raw m).1), .int .i64 (enc8 raw m).2]) ∧ Below w.heap.size w w' := by
  cases hf : fitB raw m with
  | true =>
    have e1 : enc8 raw m = (encN raw (fstI m) 138, 0) := by unfold enc8; rw [hf]; rfl
    rw [e1]
    dsimp only
    exact encode8_ok raw m w (fit_fst hf).1 (fit_fst hf).2
  | false =>
    have e1 : enc8 raw m = ([], 1) := by unfold enc8; rw [hf]; rfl
    rw [e1]
    have hs := str_size raw
    have HF := Lib.hid (fun W => first_any m W)
    cases hb : fstB m with
    | false =>
      rw [hb] at HF
      clear e1 hb hf
      go_enter Try.func17, Try.ntmps17
      go_wp2_with (refine (HF.out _).mono ?_; rintro e w' ⟨rfl, rfl⟩)
      go_ret2
      exact ⟨rfl, (Below.refl _ _).alloc (Nat.le_refl _) _⟩
    | true =>
      rw [hb] at HF
      have hn : raw.length ≠ 2352 := by
        intro h
        unfold fitB at hf
        rw [hb, h] at hf
        simp at hf
      have hd : ((raw.length : Int) != 2352) = true := by simp; omega
      have HN := Lib.hid hn
      clear e1 hb hf hn
      go_enter Try.func17, Try.ntmps17
      go_wp2_with (refine (HF.out _).mono ?_; rintro e w' ⟨rfl, rfl⟩)
      go_ret2
      exact ⟨rfl, (Below.refl _ _).alloc (Nat.le_refl _) _⟩

set_option maxRecDepth 100000 in
set_option maxHeartbeats 4000000 in
theorem encodes_law (w : World) (s : ByteArray) (hs : s.data.toList.length ≤ 9223372036854775807) (m : Int) (hm : (Lit.int .i64 m).wf = true) : Calls Try.prog 5 #[.string s, .int .i64 m] w fun e w' => e = .returned (.bool true) ∧ Below w.heap.size w w' := by
  rw [str_list s]
  generalize s.data.toList = raw at hs
  have hz := str_size raw
  have H1 := Lib.hid (fun W => encode8_any raw m W hs)
  have H2 := Lib.hid (fun W => rencode8_any raw m W hs)
  have H3 := Lib.hid (fun W => valid8_any raw m W hs)
  have H4 := Lib.hid (fun W => rvalid8_any raw m W hs)
  generalize str (enc8 raw m).1 = X at H1 H2
  generalize (enc8 raw m).2 = r at H1 H2
  generalize vldB raw m = b at H3 H4
  have HX : Hid (∀ x : Bool, (x == x) = true) := Lib.hid (by simp)
  clear hm
  by_cases hbig : 2400 < raw.length
  · have hd : decide (2400 < (raw.length : Int)) = true := by simp; omega
    clear hbig
    go_enter Try.func5, Try.ntmps5
    go_wp2_with fail
    refine (awake8_any _).mono ?_
    rintro e w0 ⟨rfl, hb0⟩
    go_wp2_with fail
    go_ret
    exact ⟨rfl, hb0⟩
  · have hd : decide (2400 < (raw.length : Int)) = false := by simp; omega
    clear hbig
    go_enter Try.func5, Try.ntmps5
    go_wp2_with fail
    refine (awake8_any _).mono ?_
    rintro e w0 ⟨rfl, hb0⟩
    go_wp2_with fail
    refine (H1.out _).mono ?_
    rintro e w1 ⟨rfl, hb1⟩
    have hB1 := hb0.trans (hb1.mono hb0.size)
    clear hb0 hb1
    go_wp2_with fail
    refine (H2.out _).mono ?_
    rintro e w2 ⟨rfl, hb2⟩
    have hB2 := hB1.trans (hb2.mono hB1.size)
    clear hB1 hb2
    go_wp2_with fail
    refine (H3.out _).mono ?_
    rintro e w3 ⟨rfl, hb3⟩
    have hB3 := hB2.trans (hb3.mono hB2.size)
    clear hB2 hb3
    go_wp2_with fail
    refine (H4.out _).mono ?_
    rintro e w4 ⟨rfl, hb4⟩
    have hB4 := hB3.trans (hb4.mono hB3.size)
    clear hB3 hb4
    go_wp2_with fail
    go_ret
    exact ⟨rfl, hB4⟩
end Go.Proofs.Ytepdcpbgdfjobaa.W8
/- Chapter 8: Decode of the package walked. -/
namespace Go.Proofs.Ytepdcpbgdfjobaa.W8
open Go.RowKit Go.Shelf
set_option linter.unusedVariables false

/-- the number of words, not to be reckoned with -/
theorem nw_ex : ∃ n : Nat, n = 138 := ⟨_, rfl⟩
noncomputable def nw : Nat := nw_ex.choose
theorem nw_eq : nw = 138 := nw_ex.choose_spec
/-- one pass over all words -/
noncomputable def pass8 (f : Int) (raw : List UInt8) (S : List Int) : List UInt8 × List Int × Bool := passN f raw S nw
theorem pass8_eq (f : Int) (raw : List UInt8) (S : List Int) : passN f raw S 138 = pass8 f raw S := by unfold pass8; rw [nw_eq]
theorem pass8_length (f : Int) (raw : List UInt8) (S : List Int) : (pass8 f raw S).1.length = raw.length := passN_length f raw S nw
theorem rel_le (S ws : List Int) : (rel S ws).length ≤ S.length := by
  unfold rel
  generalize ws.length = n
  induction n with
  | zero => exact Nat.le_refl _
  | succ n ih => exact Nat.le_trans (List.length_filter_le _ _) ih
theorem passN_le (f : Int) (raw : List UInt8) (S : List Int) : ∀ k, (passN f raw S k).2.1.length ≤ S.length
  | 0 => Nat.le_refl _
  | k + 1 => by
    have ih := passN_le f raw S k
    rw [passN]
    unfold passS
    dsimp only
    split
    · exact Nat.le_trans (rel_le _ _) ih
    · exact ih
theorem pass8_le (f : Int) (raw : List UInt8) (S : List Int) : (pass8 f raw S).2.1.length ≤ S.length := passN_le f raw S nw
/-- a function, time and again -/
def again {α : Type} (g : α → α) : Nat → α → α
  | 0, x => x
  | i + 1, x => g (again g i x)
noncomputable def step8 (f : Int) (st : List UInt8 × List Int) : List UInt8 × List Int := ((pass8 f st.1 st.2).1, (pass8 f st.1 st.2).2.1)
/-- bytes and erased offsets behind 'i' passes -/
noncomputable def itS (f : Int) (raw : List UInt8) (S : List Int) (i : Nat) : List UInt8 × List Int := again (step8 f) i (raw, S)
theorem itS_zero (f : Int) (raw : List UInt8) (S : List Int) : itS f raw S 0 = (raw, S) := rfl
theorem itS_succ (f : Int) (raw : List UInt8) (S : List Int) (i : Nat) : itS f raw S (i + 1) = ((pass8 f (itS f raw S i).1 (itS f raw S i).2).1, (pass8 f (itS f raw S i).1 (itS f raw S i).2).2.1) := rfl
theorem itS_length (f : Int) (raw : List UInt8) (S : List Int) : ∀ i, (itS f raw S i).1.length = raw.length
  | 0 => rfl
  | i + 1 => by rw [itS_succ]; exact (pass8_length f _ _).trans (itS_length f raw S i)
/-- the number of a map's entries -/
def mlen (w : World) (b : Nat) : Nat := match w.heap[b]? with
  | some (.map es _) => es.size
  | _ => 0
theorem MS.mlen {w : World} {b n : Nat} {S : List Int} (h : MS w b n S) : mlen w b = S.length := by
  obtain ⟨D, ⟨es, clock, hb, F, hs, rfl⟩, _, _, hlen, _⟩ := h
  unfold W8.mlen
  rw [hb]
  dsimp only
  rw [← hlen]
  simp [Maps.size, DataW.length_sorted]
/-- where the passes stop -/
def DecQ (e0 g cap mb n0 B0 : Nat) (f : Int) (raw : List UInt8) (S : List Int) (w : World) (W : World) : Prop :=
  ∃ i, Row W e0 g cap (itS f raw S (i + 1)).1 ∧ MS W mb n0 (itS f raw S (i + 1)).2 ∧ ¬ ((itS f raw S (i + 1)).2.length < (itS f raw S i).2.length) ∧ Below B0 w W
/-- what Decode returns, by where it stopped -/
noncomputable def decR (f : Int) (raw : List UInt8) (S : List Int) (i : Nat) : List UInt8 × Int × Int :=
  if (itS f raw S (i + 1)).2 = [] ∧ soundB (itS f raw S (i + 1)).1 f = true then ((itS f raw S (i + 1)).1, (G.allN (itS f raw S (i + 1)).1 raw 2352 : Int), 0) else ([], 0, 11)
def Dec8 (raw : List UInt8) (m : Int) (l : List Int) (w : World) (e : Ending) (w' : World) : Prop :=
  (∃ r : List UInt8 × Int × Int, e = .returned (.tuple #[.string (str r.1), .int .i64 r.2.1, .int .i64 r.2.2]) ∧
    ((¬ (fitB raw m = true ∧ ersB (fstI m) l = true) ∧ r = ([], 0, 1)) ∨ ((fitB raw m = true ∧ ersB (fstI m) l = true) ∧ ∃ i, ¬ ((itS (fstI m) raw l (i + 1)).2.length < (itS (fstI m) raw l i).2.length) ∧ r = decR (fstI m) raw l i))) ∧ Below w.heap.size w w'

set_option maxRecDepth 100000 in
set_option maxHeartbeats 8000000 in
theorem decode8_ok (raw : List UInt8) (m : Int) (ev : Value) (l : List Int) (w : World) (hf : fitB raw m = true) (hv : RdI w ev l) (hl : l.length ≤ 100000) :
    Calls Try.prog 24 #[.string (str raw), .int .i64 m, ev] w (Dec8 raw m l w) := by
  obtain ⟨hm1, hlen⟩ := fit_fst hf
  have HF := Lib.hid (fun W => first_any m W)
  rw [hm1] at HF
  have hs : (str raw).size = 2352 := by rw [str_size, hlen]
  have hd : ((2352 : Int) != 2352) = false := by decide
  have HL := Lib.hid hlen
  have HFit := Lib.hid hf
  have HSet := Lib.hid (fun W (hb : Below w.heap.size w W) => set_any (fstI m) ev l W (hv.keep hb) hl)
  obtain ⟨hw0, ⟨ea, ec, _, _, rfl, _⟩, _⟩ := hv
  unfold Dec8
  generalize fstI m = f at *
  clear hm1 hlen hf
  go_enter Try.func24, Try.ntmps24
  go_wp2_with (refine (HF.out _).mono ?_; rintro e w' ⟨rfl, rfl⟩)
  refine (HSet.out _ (Below.refl _ _)).mono ?_
  rintro e w1 (⟨he, rfl, hb1⟩ | ⟨he, rfl, hm, hb1⟩)
  · have HE := Lib.hid he
    clear he
    go_wp2_with fail
    refine bodyPost_ret (results_tmp3 rfl _ _ _) rfl ?_
    exact ⟨⟨([], 0, 1), rfl, .inl ⟨fun h => (by rw [HE.out] at h; cases h.2), rfl⟩⟩, hb1⟩
  · have HE := Lib.hid he
    obtain ⟨mb, hmb⟩ : ∃ mb, mb = w.heap.size := ⟨_, rfl⟩
    rw [← hmb] at hm
    rw [← hmb]
    have HMB := Lib.hid hmb
    clear he hmb
    have hHM := Lib.hid hm
    clear hm
    go_upto_block 0 with (refine wpList_bytes rfl _ rfl Try.underlying9 Try.underlying43 Try.underlying5 rfl ?_; intro w2 cap hr2 hb2 hcap)
    have hm2 := hHM.out.below hb2
    have hr3 : Row w2 5 w1.heap.size cap raw := hr2
    have hB2 := hb1.trans (hb2.mono hb1.size)
    have hgle := hb1.size
    have hmle : w.heap.size ≤ mb := by rw [HMB.out]; exact Nat.le_refl _
    obtain ⟨g, hg⟩ : ∃ g, g = w1.heap.size := ⟨_, rfl⟩
    rw [← hg] at hr3 hgle ⊢
    have HG := Lib.hid hg
    clear hr2 hb2 hb1 hHM hg
    go_cut [] (fun wx => DecQ 5 g cap mb l.length w.heap.size f raw l w wx)
    case first =>
      go_wp2_with fail
      go_loopw [13] (fun vk wr => ∃ i idle : Nat, idle ≤ 16 ∧ vk = .int .i64 idle ∧ Hid (0 < idle → ∃ j, i = j + 1 ∧ ¬ ((itS f raw l (j + 1)).2.length < (itS f raw l j).2.length)) ∧ Row wr 5 g cap (itS f raw l i).1 ∧ MS wr mb l.length (itS f raw l i).2 ∧ Below w.heap.size w wr) (fun vk wr => mlen wr mb * 17 + (16 - (intOf vk).toNat))
      case atStart => exact ⟨0, 0, by omega, rfl, Lib.hid (fun h => by omega), hr3, hm2, hB2⟩
      case round =>
        clear hr3 hm2 hB2
        obtain ⟨i, idle, hid, rfl, HI, hr, hm, hb⟩ := hrel
        by_cases hlt : idle < 16
        · have hlt' : (idle : Int) < 16 := by omega
          have hil := itS_length f raw l i
          rw [HL.out] at hil
          have HP := Lib.hid (pass_any g cap mb l.length w.heap.size (itS f raw l i).1 (itS f raw l i).2 f wr hr hil hm hgle hmle hb.size)
          have hml := hm.mlen
          have hst1 : (itS f raw l (i + 1)).1 = (pass8 f (itS f raw l i).1 (itS f raw l i).2).1 := by rw [itS_succ]
          have hst2 : (itS f raw l (i + 1)).2 = (pass8 f (itS f raw l i).1 (itS f raw l i).2).2.1 := by rw [itS_succ]
          have hle8 := pass8_le f (itS f raw l i).1 (itS f raw l i).2
          unfold PassP at HP
          rw [pass8_eq] at HP
          generalize pass8 f (itS f raw l i).1 (itS f raw l i).2 = st at *
          obtain ⟨R1, S1, C1⟩ := st
          dsimp only at hst1 hst2 HP hle8
          have HLE8 := Lib.hid hle8
          clear hle8
          have HI1 := Lib.hid hst1; have HI2 := Lib.hid hst2; have HMLE := Lib.hid hml
          have HLE : Hid (decide (S1.length < (itS f raw l i).2.length) = false → ¬ ((itS f raw l (i + 1)).2.length < (itS f raw l i).2.length)) := Lib.hid fun h => by rw [hst2]; simpa using h
          have HLT : Hid (decide (S1.length < (itS f raw l i).2.length) = true → S1.length < (itS f raw l i).2.length) := Lib.hid fun h => by simpa using h
          generalize decide (S1.length < (itS f raw l i).2.length) = fw at *
          clear hst1 hst2 hr hm hil hml
          cases C1 with
          | false =>
            cases fw with
            | false =>
              have HNo := Lib.hid (HLE.out rfl)
              clear HLE HLT
              go_wp2_with (refine HP.out.mono ?_; rintro e w3 ⟨rfl, hr3, hm3, hb3⟩)
              go_meet
              exact ⟨i, by rw [HI1.out]; exact hr3, by rw [HI2.out]; exact hm3, HNo.out, hb.trans hb3⟩
            | true =>
              have HLt := Lib.hid (HLT.out rfl)
              clear HLE HLT
              go_wp2_with (refine HP.out.mono ?_; rintro e w3 ⟨rfl, hr3, hm3, hb3⟩)
              have hml3 := hm3.mlen
              have HM3 := Lib.hid hml3
              clear hml3
              go_roundw
              case rel => exact ⟨i + 1, 0, by omega, rfl, Lib.hid (fun h => by omega), by rw [HI1.out]; exact hr3, by rw [HI2.out]; exact hm3, hb.trans hb3⟩
              case measure =>
                have h1 := HM3.out; have h2 := HMLE.out; have h3 := HLt.out
                rw [h1, h2]
                simp [intOf]
                omega
          | true =>
            cases fw with
            | false =>
              have HNo := Lib.hid (HLE.out rfl)
              clear HLE HLT
              go_wp2_with (refine HP.out.mono ?_; rintro e w3 ⟨rfl, hr3, hm3, hb3⟩)
              have hml3 := hm3.mlen
              have HM3 := Lib.hid hml3
              clear hml3
              go_roundw
              case rel => exact ⟨i + 1, idle + 1, by omega, by go_num, Lib.hid (fun h => ⟨i, rfl, HNo.out⟩), by rw [HI1.out]; exact hr3, by rw [HI2.out]; exact hm3, hb.trans hb3⟩
              case measure =>
                have h1 := HM3.out; have h2 := HMLE.out; have h3 := HLE8.out
                rw [h1, h2]
                simp [intOf]
                omega
            | true =>
              have HLt := Lib.hid (HLT.out rfl)
              clear HLE HLT
              go_wp2_with (refine HP.out.mono ?_; rintro e w3 ⟨rfl, hr3, hm3, hb3⟩)
              have hml3 := hm3.mlen
              have HM3 := Lib.hid hml3
              clear hml3
              go_roundw
              case rel => exact ⟨i + 1, 0, by omega, rfl, Lib.hid (fun h => by omega), by rw [HI1.out]; exact hr3, by rw [HI2.out]; exact hm3, hb.trans hb3⟩
              case measure =>
                have h1 := HM3.out; have h2 := HMLE.out; have h3 := HLt.out
                rw [h1, h2]
                simp [intOf]
                omega
        · obtain rfl : idle = 16 := by omega
          go_wp2_with fail
          go_meet
          obtain ⟨j, rfl, hj⟩ := HI.out (by omega)
          exact ⟨j, hr, hm, hj, hb⟩
    case rest =>
      obtain ⟨i, hr, hm, hno, hb⟩ := hcut
      have hil := itS_length f raw l (i + 1)
      rw [HL.out] at hil
      have hR : decR f raw l i = if (itS f raw l (i + 1)).2 = [] ∧ soundB (itS f raw l (i + 1)).1 f = true then ((itS f raw l (i + 1)).1, (G.allN (itS f raw l (i + 1)).1 raw 2352 : Int), 0) else ([], 0, 11) := rfl
      have hfin : ∀ r, decR f raw l i = r → (¬ (fitB raw m = true ∧ ersB f l = true) ∧ r = ([], 0, 1)) ∨ ((fitB raw m = true ∧ ersB f l = true) ∧ ∃ i, ¬ ((itS f raw l (i + 1)).2.length < (itS f raw l i).2.length) ∧ r = decR f raw l i) := fun r h => .inr ⟨⟨HFit.out, HE.out⟩, i, hno, h.symm⟩
      have HFin := Lib.hid hfin
      clear hfin hno
      generalize itS f raw l (i + 1) = st at *
      obtain ⟨R, T⟩ := st
      dsimp only at hr hm hil hR
      have hlen := hm.len 3
      have hTd := hm.nodup
      have HR := Lib.hid hR
      have HIL := Lib.hid hil
      clear hR hTd hm2 hB2 hr3 hm
      by_cases hT : T = []
      · subst hT
        have hrd := hr.rd (by omega)
        rw [hil] at hrd
        have hlen0 : ((([] : List Int).length : Nat) : Int) = 0 := rfl
        rw [hlen0] at hlen
        have HS := Lib.hid (sound_any _ R f wc hrd hil)
        have HSB : Hid (∀ b, soundB R f = b → decR f raw l i = if b = true then (R, (G.allN R raw 2352 : Int), 0) else ([], 0, 11)) := Lib.hid fun b hb => by
          rw [HR.out, hb]
          cases b
          · rw [if_neg (fun h => by cases h.2)]; rfl
          · rw [if_pos ⟨rfl, rfl⟩]; rfl
        have hSB := HSB.out _ rfl
        generalize soundB R f = sb at *
        have HSB2 := Lib.hid hSB
        clear hSB HSB hrd hil
        cases sb with
        | false =>
          have HX : Hid (decR f raw l i = ([], 0, 11)) := Lib.hid (by rw [HSB2.out]; rfl)
          clear HSB2
          go_wp2_with (refine HS.out.mono ?_; rintro e w3 ⟨rfl, hb3⟩)
          refine bodyPost_ret (results_tmp3 rfl _ _ _) rfl ?_
          exact ⟨⟨([], 0, 11), rfl, HFin.out _ HX.out⟩, hb.trans (hb3.mono hb.size)⟩
        | true =>
          have HX : Hid (decR f raw l i = (R, (G.allN R raw 2352 : Int), 0)) := Lib.hid (by rw [HSB2.out]; rfl)
          clear HSB2
          go_wp2_with (refine HS.out.mono ?_; rintro e w3 ⟨rfl, hb3⟩; have hr3 := hr.below hb3; have hB3 := hb.trans (hb3.mono hb.size))
          clear hr hb hb3
          go_loopw [16, 69] (fun vc vk wr => ∃ k : Nat, k ≤ 2352 ∧ vk = .int .i64 k ∧ vc = .int .i64 (G.allN R raw k) ∧ Row wr 5 g cap R ∧ Below w.heap.size w wr) (fun _ vk _ => 2352 - (intOf vk).toNat)
          case atStart => exact ⟨0, by omega, rfl, rfl, hr3, hB3⟩
          case round =>
            clear hr3 hB3
            obtain ⟨k, hk, rfl, rfl, hr, hb⟩ := hrel
            by_cases hlt : k < 2352
            · have hlt' : (k : Int) < 2352 := by omega
              have hle := G.allN_le R raw k
              have HA : Hid (G.allN R raw (k + 1) = G.allN R raw k + if G.ix R k = G.ix raw k then 0 else 1) := Lib.hid rfl
              have hc := hr.cell k (by rw [HIL.out]; exact hlt)
              have hi1 := fun wx => run_sidx (P := Try.prog) Try.underlying9 raw k (by rw [HL.out]; exact hlt) _ rfl wx
              have hbn : (((G.ix R k).toNat : Int) != ((G.ix raw k).toNat : Int)) = !decide (G.ix R k = G.ix raw k) := by rw [byte_bne]; simp
              have hix : ∀ wx, (Instr.indexAt 43 (.slice (some ⟨g, 0, none⟩) 2352 cap) (.int .i64 (k : Int))).run Try.prog wx = .ok (.pointer (some ⟨g, k, none⟩)) wx := fun wx => by
                have := run_idx (P := Try.prog) (a := some ⟨g, 0, none⟩) (off := 0) (b := g) (n := 2352) (cap := cap) (k := k) Try.underlying43 Try.sizeU8 rfl hlt _ rfl wx
                rwa [Nat.zero_add] at this
              generalize G.allN R raw k = c at *
              by_cases hq : G.ix R k = G.ix raw k
              · have hb2 : (((G.ix R k).toNat : Int) != ((G.ix raw k).toNat : Int)) = false := by rw [hbn, hq]; simp
                rw [if_pos hq] at HA
                clear hbn hq
                go_wp2_with fail
                go_quiet (fail)
                have hr3 : Row (wr.drewN nq) 5 g cap R := hr
                have hB3 := Below.drewN hb nq
                generalize wr.drewN nq = w4 at hr3 hB3 ⊢
                clear hr hb hc
                go_wp2_with fail
                go_roundw
                case rel => exact ⟨k + 1, by omega, by go_num, by rw [HA.out]; rfl, hr3, hB3⟩
                case measure => simp [intOf]; omega
              · have hb2 : (((G.ix R k).toNat : Int) != ((G.ix raw k).toNat : Int)) = true := by rw [hbn]; simpa using hq
                rw [if_neg hq] at HA
                have HQ := Lib.hid hq
                clear hbn hq
                go_wp2_with fail
                go_quiet (fail)
                have hr3 : Row (wr.drewN nq) 5 g cap R := hr
                have hB3 := Below.drewN hb nq
                generalize wr.drewN nq = w4 at hr3 hB3 ⊢
                clear hr hb hc
                go_wp2_with fail
                go_roundw
                case rel => exact ⟨k + 1, by omega, by go_num, by rw [HA.out]; go_num, hr3, hB3⟩
                case measure => simp [intOf]; omega
            · obtain rfl : k = 2352 := by omega
              have hrd := hr.rd (by have := HIL.out; omega)
              rw [HIL.out] at hrd
              have hcx := run_str (P := Try.prog) Try.underlying43 Try.underlying5 Try.underlying9 hrd
              clear hrd hr
              go_wp2_with fail
              refine bodyPost_ret (results_tmp3 rfl _ _ _) rfl ?_
              exact ⟨⟨(R, (G.allN R raw 2352 : Int), 0), rfl, HFin.out _ HX.out⟩, hb⟩
      · have h0 : decide (0 < (T.length : Int)) = true := by
          have := List.length_pos_iff.2 hT
          simp; omega
        have h0' : decide (0 < T.length) = true := by simpa using List.length_pos_iff.2 hT
        have HX : Hid (decR f raw l i = ([], 0, 11)) := Lib.hid (by rw [HR.out, if_neg (fun h => hT h.1)])
        clear hT hil hr
        go_wp2_with fail
        refine bodyPost_ret (results_tmp3 rfl _ _ _) rfl ?_
        exact ⟨⟨([], 0, 11), rfl, HFin.out _ HX.out⟩, hb⟩
end Go.Proofs.Ytepdcpbgdfjobaa.W8
/- Chapter 8, plain: the encoding is a codeword, keeps what is no parity, is linear and idempotent. -/
namespace Go.Proofs.Ytepdcpbgdfjobaa.W8
open Go.RowKit
set_option linter.unusedVariables false

theorem pf_at (m i : Nat) : pf m i = 12 + m + 86 * i := by unfold pf; omega
/-- the offsets of the word 'k' -/
theorem wd_at (k i : Nat) (hk : k < 138) (hi : i < (wd k).length) :
    (k < 86 ∧ i < 26 ∧ ixI (wd k) i = 12 + k + 86 * i) ∨ (86 ≤ k ∧ i < 43 ∧ ixI (wd k) i = qf (k - 86) i) ∨ (86 ≤ k ∧ i = 43 ∧ ixI (wd k) i = 2162 + k) ∨ (86 ≤ k ∧ i = 44 ∧ ixI (wd k) i = 2214 + k) := by
  rw [wd_length] at hi
  unfold wd
  by_cases h : k < 86
  · rw [if_pos h] at hi ⊢
    exact .inl ⟨h, hi, by rw [ixI_pw _ _ hi, pf_at]⟩
  · rw [if_neg h] at hi ⊢
    by_cases h1 : i < 43
    · exact .inr (.inl ⟨by omega, h1, ixI_qw _ _ h1⟩)
    · by_cases h2 : i = 43
      · subst h2; exact .inr (.inr (.inl ⟨by omega, rfl, by rw [ixI_qw43]; omega⟩))
      · obtain rfl : i = 44 := by omega
        exact .inr (.inr (.inr ⟨by omega, rfl, by rw [ixI_qw44]; omega⟩))
theorem qf_inj {m i j : Nat} (hm : m < 52) (hi : i < 43) (hj : j < 43) (h : qf m i = qf m j) : i = j := by
  unfold qf at h
  have e1 : (44 * (i : Int) + 43 * ((m : Int) / 2)) % 1118 = ((44 * i + 43 * (m / 2)) % 1118 : Nat) := by omega
  have e2 : (44 * (j : Int) + 43 * ((m : Int) / 2)) % 1118 = ((44 * j + 43 * (m / 2)) % 1118 : Nat) := by omega
  rw [e1, e2] at h
  have hk : (44 * i + 43 * (m / 2)) % 1118 < 1118 := Nat.mod_lt _ (by omega)
  have h1 := (q_solve _ i (m / 2) hk hi (by omega)).1 rfl
  have h2 := (q_solve ((44 * i + 43 * (m / 2)) % 1118) j (m / 2) hk hj (by omega)).1 (by omega)
  omega
theorem wd_inj {k a b : Nat} (hk : k < 138) (ha : a < (wd k).length) (hb : b < (wd k).length) (h : ixI (wd k) a = ixI (wd k) b) : a = b := by
  rcases wd_at k a hk ha with ⟨h1, h2, h3⟩ | ⟨h1, h2, h3⟩ | ⟨h1, h2, h3⟩ | ⟨h1, h2, h3⟩ <;>
  rcases wd_at k b hk hb with ⟨g1, g2, g3⟩ | ⟨g1, g2, g3⟩ | ⟨g1, g2, g3⟩ | ⟨g1, g2, g3⟩ <;>
  rw [h3, g3] at h <;>
  first | omega | exact qf_inj (by omega) h2 g2 h | (have := qf_bd (m := k - 86) (i := a) (by omega); omega) | (have := qf_bd (m := k - 86) (i := b) (by omega); omega)
/-- the parity of a word lies in no earlier one -/
theorem wd_apart {j k a b : Nat} (hk : k < 138) (hj : j < k) (ha : a < (wd j).length) (hb : b < (wd k).length) (hb2 : (wd k).length - 2 ≤ b) : ixI (wd j) a ≠ ixI (wd k) b := by
  intro h
  have hl := wd_length k
  rcases wd_at j a (by omega) ha with ⟨h1, h2, h3⟩ | ⟨h1, h2, h3⟩ | ⟨h1, h2, h3⟩ | ⟨h1, h2, h3⟩ <;>
  rcases wd_at k b hk hb with ⟨g1, g2, g3⟩ | ⟨g1, g2, g3⟩ | ⟨g1, g2, g3⟩ | ⟨g1, g2, g3⟩ <;>
  rw [h3, g3] at h <;>
  first | omega | (rw [if_neg (by omega)] at hl; omega) | (have := qf_bd (m := j - 86) (i := a) (by omega); omega)
theorem wd_par {k b : Nat} (hk : k < 138) (hb : b < (wd k).length) (hb2 : (wd k).length - 2 ≤ b) : 2076 ≤ ixI (wd k) b := by
  have hl := wd_length k
  rcases wd_at k b hk hb with ⟨g1, g2, g3⟩ | ⟨g1, g2, g3⟩ | ⟨g1, g2, g3⟩ | ⟨g1, g2, g3⟩ <;> rw [g3]
  · rw [if_pos g1] at hl; omega
  · rw [if_neg (by omega)] at hl; omega
  · omega
  · omega
theorem wd_len2 (k : Nat) : 26 ≤ (wd k).length ∧ (wd k).length ≤ 45 := by rw [wd_length]; split <;> omega
theorem wd_ix {k i : Nat} (hk : k < 138) (hi : i < (wd k).length) : 12 ≤ ixI (wd k) i ∧ ixI (wd k) i < 2352 := wd_bd hk _ (ixI_mem hi)

/-- a byte behind one step -/
theorem ix_stepW {R : List UInt8} {k : Nat} (hk : k < 138) (hl : R.length = 2352) (f : Int) (x : Nat) (hx1 : (x : Int) ≠ ixI (wd k) ((wd k).length - 2)) (hx2 : (x : Int) ≠ ixI (wd k) ((wd k).length - 1)) : G.ix (stepW R (wd k) f) x = G.ix R x := by
  have h2 := wd_len2 k
  have b1 := wd_ix hk (show (wd k).length - 2 < (wd k).length by omega)
  have b2 := wd_ix hk (show (wd k).length - 1 < (wd k).length by omega)
  unfold stepW
  rw [ix_set _ _ _ _ (by rw [List.length_set]; omega), if_neg (by omega), ix_set _ _ _ _ (by omega), if_neg (by omega)]
theorem take_stepW_other {R : List UInt8} {j k : Nat} (hk : k < 138) (hj : j < k) (hl : R.length = 2352) (f : Int) : takeL (stepW R (wd k) f) (wd j) f = takeL R (wd j) f := by
  apply G.ext_ix
  · rw [takeL_length, takeL_length]
  · intro i hi
    rw [takeL_length] at hi
    rw [ix_takeL _ _ _ _ hi, ix_takeL _ _ _ _ hi]
    unfold sym
    split
    · rfl
    · have h2 := wd_len2 k
      have hb := wd_ix (show j < 138 by omega) hi
      exact ix_stepW hk hl f _ (by have := wd_apart hk hj hi (show (wd k).length - 2 < (wd k).length by omega) (Nat.le_refl _); omega) (by have := wd_apart hk hj hi (show (wd k).length - 1 < (wd k).length by omega) (by omega); omega)
theorem take_stepW_same {R : List UInt8} {k : Nat} (hk : k < 138) (hl : R.length = 2352) (f : Int) (hf : f ≤ 16) : takeL (stepW R (wd k) f) (wd k) f = cwd R (wd k) f := by
  have h2 := wd_len2 k
  have hlast := wd_last hk
  have b1 := wd_ix hk (show (wd k).length - 2 < (wd k).length by omega)
  have b2 := wd_ix hk (show (wd k).length - 1 < (wd k).length by omega)
  apply G.ext_ix
  · rw [takeL_length, cwd_length _ _ _ (by omega)]
  · intro i hi
    rw [takeL_length] at hi
    have hb := wd_ix hk hi
    rw [ix_takeL _ _ _ _ hi]
    by_cases c1 : i < (wd k).length - 2
    · rw [ix_cwd _ _ _ _ c1]
      unfold sym
      split
      · rfl
      · exact ix_stepW hk hl f _ (fun e => by have := wd_inj hk hi (show (wd k).length - 2 < (wd k).length by omega) (by omega); omega) (fun e => by have := wd_inj hk hi (show (wd k).length - 1 < (wd k).length by omega) (by omega); omega)
    · by_cases c2 : i = (wd k).length - 2
      · subst c2
        have hne : ixI (wd k) ((wd k).length - 2) ≠ ixI (wd k) ((wd k).length - 1) := fun e => by
          have := wd_inj hk (show (wd k).length - 2 < (wd k).length by omega) (show (wd k).length - 1 < (wd k).length by omega) e
          omega
        unfold sym
        rw [if_neg (by omega)]
        unfold stepW
        rw [ix_set _ _ _ _ (by rw [List.length_set]; omega), if_neg (by omega), ix_set _ _ _ _ (by omega), if_pos rfl]
      · have c3 : i = (wd k).length - 1 := by omega
        subst c3
        unfold sym
        rw [if_neg (by omega)]
        unfold stepW
        rw [ix_set _ _ _ _ (by rw [List.length_set]; omega), if_pos rfl]
theorem cwd_valid {R : List UInt8} {k : Nat} (f : Int) : G.validB (cwd R (wd k) f) 2 = true := by
  have h2 := wd_len2 k
  have hl : (takeL R ((wd k).take ((wd k).length - 2)) f).length = (wd k).length - 2 := by rw [takeL_length, List.length_take]; omega
  have h := G.enc_valid (takeL R ((wd k).take ((wd k).length - 2)) f) 2 (by
    unfold G.encB
    simp only [Bool.and_eq_true, decide_eq_true_eq]
    refine ⟨⟨⟨by omega, by omega⟩, fun e => ?_⟩, by omega⟩
    rw [e] at hl
    simp at hl
    omega)
  exact h
theorem enc_words {raw : List UInt8} {f : Int} (hl : raw.length = 2352) (hf : f ≤ 16) : ∀ n, n ≤ 138 → ∀ j, j < n → G.validB (takeL (encN raw f n) (wd j) f) 2 = true
  | 0, _, j, h => by omega
  | n + 1, hn, j, h => by
    have hen := encN_length raw f n
    rw [encN]
    by_cases e : j = n
    · subst e
      rw [take_stepW_same (by omega) (by rw [hen]; exact hl) f hf]
      exact cwd_valid f
    · rw [take_stepW_other (by omega) (by omega) (by rw [hen]; exact hl) f]
      exact enc_words hl hf n (by omega) j (by omega)
/-- two codewords with the same data are one -/
theorem code_eq {c d : List UInt8} (hl : c.length = d.length) (h1 : G.validB c 2 = true) (h2 : G.validB d 2 = true) (h : ∀ i, i < c.length - 2 → G.ix c i = G.ix d i) : c = d := by
  obtain ⟨s1, e1⟩ := (G.validB_iff c 2).1 h1
  obtain ⟨s2, e2⟩ := (G.validB_iff d 2).1 h2
  obtain ⟨q1, q2, q3, q4, q5⟩ := (G.shapedB_iff c 2).1 s1
  have hx := G.xorL_length hl
  have hsupp : ∀ k, k ≤ c.length → (G.supp (G.xorL c d) k).length ≤ k - (c.length - 2) := by
    intro k
    induction k with
    | zero => intro _; simp [G.supp]
    | succ k ih =>
      intro hk
      rw [G.supp_succ]
      by_cases hlt : k < c.length - 2
      · rw [if_pos (by rw [G.ix_xorL hl, h k hlt]; simp)]
        have := ih (by omega)
        omega
      · have := ih (by omega)
        split <;> omega
  have hz := G.few_zero (G.xorL c d) 2 (by omega) (fun k hk => by rw [G.eval_xorL hl, e1 k hk, e2 k hk]; rfl) (by rw [hx]; have := hsupp c.length (Nat.le_refl _); omega)
  apply G.ext_ix hl
  intro i hi
  have := hz i
  rw [G.ix_xorL hl] at this
  exact UInt8.xor_eq_zero_iff.1 this
/-- a word that is a codeword is left alone -/
theorem step_valid {R : List UInt8} {k : Nat} {f : Int} (hk : k < 138) (hf : f ≤ 16) (h : G.validB (takeL R (wd k) f) 2 = true) : stepW R (wd k) f = R := by
  have h2 := wd_len2 k
  have hlast := wd_last hk
  have e : cwd R (wd k) f = takeL R (wd k) f := code_eq (by rw [cwd_length _ _ _ (by omega), takeL_length]) (cwd_valid f) h (fun i hi => by
    rw [cwd_length _ _ _ (by omega)] at hi
    rw [ix_cwd _ _ _ _ hi, ix_takeL _ _ _ _ (by omega)])
  unfold stepW
  rw [e, ix_takeL _ _ _ _ (by omega), ix_takeL _ _ _ _ (by omega)]
  unfold sym
  rw [if_neg (by omega), if_neg (by omega), set_self, set_self]
theorem enc_same {R : List UInt8} {f : Int} (hf : f ≤ 16) (h : ∀ j, j < 138 → G.validB (takeL R (wd j) f) 2 = true) : ∀ k, k ≤ 138 → encN R f k = R
  | 0, _ => rfl
  | k + 1, hk => by rw [encN, enc_same hf h k (by omega), step_valid (by omega) hf (h k (by omega))]
/-- what is no parity stays -/
theorem enc_keeps {raw : List UInt8} {f : Int} (hl : raw.length = 2352) (x : Nat) (hx : x < 2076) : ∀ k, k ≤ 138 → G.ix (encN raw f k) x = G.ix raw x
  | 0, _ => rfl
  | k + 1, hk => by
    have h2 := wd_len2 k
    rw [encN, ix_stepW (by omega) (by rw [encN_length]; exact hl) f x (by have := wd_par (show k < 138 by omega) (show (wd k).length - 2 < (wd k).length by omega) (Nat.le_refl _); omega) (by have := wd_par (show k < 138 by omega) (show (wd k).length - 1 < (wd k).length by omega) (by omega); omega)]
    exact enc_keeps hl x hx k (by omega)
/-- linear -/
theorem take_xor {a b : List UInt8} (h : a.length = b.length) (ws : List Int) (f : Int) : takeL (G.xorL a b) ws f = G.xorL (takeL a ws f) (takeL b ws f) := by
  have hl : (takeL a ws f).length = (takeL b ws f).length := by rw [takeL_length, takeL_length]
  apply G.ext_ix
  · rw [takeL_length, G.xorL_length hl, takeL_length]
  · intro i hi
    rw [takeL_length] at hi
    rw [G.ix_xorL hl, ix_takeL _ _ _ _ hi, ix_takeL _ _ _ _ hi, ix_takeL _ _ _ _ hi]
    unfold sym
    split
    · rfl
    · exact G.ix_xorL h _
theorem step_xor {a b : List UInt8} (h : a.length = b.length) {ws : List Int} (f : Int) : stepW (G.xorL a b) ws f = G.xorL (stepW a ws f) (stepW b ws f) := by
  have hs : (stepW a ws f).length = (stepW b ws f).length := by rw [stepW_length, stepW_length, h]
  have hc : cwd (G.xorL a b) ws f = G.xorL (cwd a ws f) (cwd b ws f) := by
    unfold cwd
    rw [take_xor h, G.enc_xorL _ _ _ (by rw [takeL_length, takeL_length])]
  have hcl : (cwd a ws f).length = (cwd b ws f).length := by
    unfold cwd
    rw [G.enc_length, G.enc_length, takeL_length, takeL_length]
  have hx := G.xorL_length h
  apply G.ext_ix
  · rw [stepW_length, hx, G.xorL_length hs, stepW_length]
  · intro i hi
    rw [stepW_length, hx] at hi
    rw [G.ix_xorL hs]
    unfold stepW
    rw [hc, G.ix_xorL hcl, G.ix_xorL hcl]
    have key : ∀ (l : List UInt8) (p q : Nat) (u v : UInt8), l.length = a.length → G.ix ((l.set p u).set q v) i = if i = q then v else if i = p then u else G.ix l i := by
      intro l p q u v hl
      by_cases c1 : q < l.length
      · rw [ix_set _ _ _ _ (by rw [List.length_set]; exact c1)]
        by_cases e1 : i = q
        · rw [if_pos e1, if_pos e1]
        · rw [if_neg e1, if_neg e1]
          by_cases c2 : p < l.length
          · rw [ix_set _ _ _ _ c2]
          · rw [List.set_eq_of_length_le (by omega), if_neg (by omega)]
      · rw [List.set_eq_of_length_le (by rw [List.length_set]; omega), if_neg (by omega)]
        by_cases c2 : p < l.length
        · rw [ix_set _ _ _ _ c2]
        · rw [List.set_eq_of_length_le (by omega), if_neg (by omega)]
    rw [key _ _ _ _ _ hx, key _ _ _ _ _ rfl, key _ _ _ _ _ h.symm]
    split
    · rfl
    · split
      · rfl
      · exact G.ix_xorL h _
theorem enc_xor {a b : List UInt8} (h : a.length = b.length) (f : Int) : ∀ k, encN (G.xorL a b) f k = G.xorL (encN a f k) (encN b f k)
  | 0 => rfl
  | k + 1 => by rw [encN, enc_xor h f k, step_xor (by rw [encN_length, encN_length, h])]; rfl
end Go.Proofs.Ytepdcpbgdfjobaa.W8
/- Chapter 8, plain: what a pass does to a damaged codeword. -/
namespace Go.Proofs.Ytepdcpbgdfjobaa.W8
open Go.RowKit
set_option linter.unusedVariables false

theorem posN8_iff (ws S : List Int) (i : Nat) : ∀ k, (i : Int) ∈ posN8 ws S k ↔ i < k ∧ S.contains (ixI ws i) = true
  | 0 => by simp [posN8]
  | k + 1 => by
    have ih := posN8_iff ws S i k
    unfold posN8
    by_cases hc : S.contains (ixI ws k) = true
    · rw [if_pos hc, List.mem_append, ih]
      constructor
      · rintro (h | h)
        · exact ⟨by omega, h.2⟩
        · have : i = k := by simp at h; omega
          subst this; exact ⟨by omega, hc⟩
      · rintro ⟨h1, h2⟩
        by_cases e : i = k
        · right; simp [e]
        · left; exact ⟨by omega, h2⟩
    · rw [if_neg hc, ih]
      constructor
      · rintro ⟨h1, h2⟩; exact ⟨by omega, h2⟩
      · rintro ⟨h1, h2⟩
        by_cases e : i = k
        · subst e; exact absurd h2 hc
        · exact ⟨by omega, h2⟩
theorem ixI_append {l m : List Int} {i : Nat} (h : i < l.length) : ixI (l ++ m) i = ixI l i := by
  unfold ixI
  rw [List.getD_eq_getElem?_getD, List.getD_eq_getElem?_getD, List.getElem?_append_left h]
theorem ixI_last (l : List Int) (x : Int) : ixI (l ++ [x]) l.length = x := by simp [ixI]
theorem posN_append (n : Nat) (l m : List Int) : ∀ k, k ≤ l.length → G.posN n (l ++ m) k = G.posN n l k
  | 0, _ => rfl
  | k + 1, h => by
    unfold G.posN
    rw [posN_append n l m k (by omega), ixI_append (by omega)]
    by_cases e : 0 < k
    · rw [ixI_append (i := k - 1) (by omega)]
    · simp [e]
theorem posB_snoc {n : Nat} {l : List Int} {x : Int} (h : G.posB n l = true) (h0 : 0 ≤ x) (hx : x < n) (hl : ∀ y ∈ l, y < x) : G.posB n (l ++ [x]) = true := by
  unfold G.posB at h ⊢
  rw [List.length_append, List.length_singleton]
  show (G.posN n (l ++ [x]) l.length && _) = true
  rw [posN_append n l [x] _ (Nat.le_refl _), h, Bool.true_and, ixI_last]
  by_cases e : 0 < l.length
  · have h2 := hl _ (ixI_mem (show l.length - 1 < l.length by omega))
    rw [ixI_append (i := l.length - 1) (by omega)]
    have a1 : ¬ x < 0 := by omega
    have a2 : ¬ (n : Int) ≤ x := by omega
    have a3 : ¬ x ≤ ixI l (l.length - 1) := by omega
    simp [a1, a2, a3]
  · have a1 : ¬ x < 0 := by omega
    have a2 : ¬ (n : Int) ≤ x := by omega
    simp [a1, a2, e]
theorem posN8_posB (ws S : List Int) (n : Nat) : ∀ k, k ≤ n → G.posB n (posN8 ws S k) = true
  | 0, _ => rfl
  | k + 1, h => by
    have ih := posN8_posB ws S n k (by omega)
    unfold posN8
    split
    · exact posB_snoc ih (by omega) (by omega) (fun y hy => (posN8_bd ws S k y hy).2)
    · exact ih
theorem posS_posB (ws S : List Int) : G.posB ws.length (posS ws S) = true := posN8_posB ws S _ _ (Nat.le_refl _)
theorem mem_posS {ws S : List Int} {i : Nat} (h : i < ws.length) : (i : Int) ∈ posS ws S ↔ ixI ws i ∈ S := by
  unfold posS
  rw [posN8_iff]
  simp [h]
theorem take_snocI' (l : List Int) (k : Nat) (h : k < l.length) : l.take (k + 1) = l.take k ++ [ixI l k] := by
  rw [List.take_succ_eq_append_getElem h, ixI_get h]
theorem relN_mem (S ws : List Int) (x : Int) : ∀ k, k ≤ ws.length → (x ∈ relN S ws k ↔ x ∈ S ∧ x ∉ ws.take k)
  | 0, _ => by simp [relN]
  | k + 1, h => by
    rw [relN, take_snocI' ws k (by omega)]
    unfold del
    rw [List.mem_filter, relN_mem S ws x k (by omega), List.mem_append]
    simp only [List.mem_singleton, bne_iff_ne, ne_eq]
    constructor
    · rintro ⟨⟨h1, h2⟩, h3⟩; exact ⟨h1, fun h => h.elim h2 h3⟩
    · rintro ⟨h1, h2⟩; exact ⟨⟨h1, fun h => h2 (.inl h)⟩, fun h => h2 (.inr h)⟩
theorem rel_mem (S ws : List Int) (x : Int) : x ∈ rel S ws ↔ x ∈ S ∧ x ∉ ws := by
  unfold rel
  rw [relN_mem S ws x _ (Nat.le_refl _), List.take_length]
theorem insB_take (c : List UInt8) (ws : List Int) (f : Int) : insB ws f (takeL c ws f) = true := by
  unfold insB
  have h : ∀ k, k ≤ ws.length → insN ws f (takeL c ws f) k = true := by
    intro k
    induction k with
    | zero => intro _; rfl
    | succ k ih =>
      intro hk
      rw [insN, ih (by omega), Bool.true_and, ix_takeL _ _ _ _ (by omega)]
      unfold sym
      by_cases h : ixI ws k < f
      · rw [if_pos h]; simp
      · have : f ≤ ixI ws k := by omega
        simp [this]
  exact h _ (Nat.le_refl _)
/-- the codeword's symbols are put -/
theorem pk_fix {R c : List UInt8} {ws : List Int} {f : Int} (hl : R.length = c.length) (hb : ∀ y ∈ ws, 0 ≤ y ∧ y < R.length) (x : Nat) : ∀ k, k ≤ ws.length → G.ix (pkL R ws f (takeL c ws f) k) x = if (x : Int) ∈ ws.take k ∧ f ≤ x then G.ix c x else G.ix R x
  | 0, _ => by rw [if_neg (by simp)]; rfl
  | k + 1, h => by
    have ih := pk_fix (f := f) hl hb x k (by omega)
    have hy := hb _ (ixI_mem (show k < ws.length by omega))
    rw [take_snocI' ws k (by omega)]
    unfold pkL
    by_cases hf : ixI ws k < f
    · rw [if_pos hf, ih]
      by_cases c1 : (x : Int) ∈ ws.take k ∧ f ≤ x
      · rw [if_pos c1, if_pos ⟨List.mem_append_left _ c1.1, c1.2⟩]
      · rw [if_neg c1, if_neg]
        rintro ⟨h1, h2⟩
        rcases List.mem_append.1 h1 with h1 | h1
        · exact c1 ⟨h1, h2⟩
        · simp at h1; omega
    · rw [if_neg hf, ix_set _ _ _ _ (by rw [pkL_length]; omega), ih, ix_takeL _ _ _ _ (by omega)]
      unfold sym
      rw [if_neg hf]
      by_cases e : x = (ixI ws k).toNat
      · rw [if_pos e, if_pos ⟨List.mem_append_right _ (by simp; omega), by omega⟩, e]
      · rw [if_neg e]
        by_cases c1 : (x : Int) ∈ ws.take k ∧ f ≤ x
        · rw [if_pos c1, if_pos ⟨List.mem_append_left _ c1.1, c1.2⟩]
        · rw [if_neg c1, if_neg]
          rintro ⟨h1, h2⟩
          rcases List.mem_append.1 h1 with h1 | h1
          · exact c1 ⟨h1, h2⟩
          · simp at h1; omega
theorem put_fix {R c : List UInt8} {ws : List Int} {f : Int} (hl : R.length = c.length) (hb : ∀ y ∈ ws, 0 ≤ y ∧ y < R.length) (x : Nat) : G.ix (putL R ws f (takeL c ws f)) x = if (x : Int) ∈ ws ∧ f ≤ x then G.ix c x else G.ix R x := by
  have := pk_fix (f := f) hl hb x ws.length (Nat.le_refl _)
  rw [List.take_length] at this
  exact this

/-- a sector that is a codeword -/
structure Good (c : List UInt8) (f : Int) : Prop where
  len : c.length = 2352
  word : ∀ k, k < 138 → G.validB (takeL c (wd k) f) 2 = true
/-- within the limit a word is put right -/
theorem step_spec {R c : List UInt8} {S : List Int} {f : Int} {C : Bool} {k : Nat} (hc : Good c f) (hl : R.length = 2352) (hk : k < 138) (h : 2 * G.othN (takeL R (wd k) f) (takeL c (wd k) f) (posS (wd k) S) (wd k).length + (posS (wd k) S).length ≤ 2) :
    passS f (R, S, C) k = (putL R (wd k) f (takeL c (wd k) f), rel S (wd k), putB R (wd k) f (takeL c (wd k) f) || C) := by
  have hd := G.decode_spec (takeL R (wd k) f) (takeL c (wd k) f) 2 (posS (wd k) S) (by rw [takeL_length, takeL_length]) (hc.word k hk) (by rw [takeL_length]; exact posS_posB _ _) (by rw [takeL_length]; exact h)
  have hd' : G.decode (takeL R (wd k) f) 2 (posS (wd k) S) = _ := hd
  unfold passS
  dsimp only
  rw [hd']
  rw [if_pos ⟨rfl, insB_take c (wd k) f⟩]
theorem step_many {R : List UInt8} {S : List Int} {f : Int} {C : Bool} {k : Nat} (h : 2 < (posS (wd k) S).length) : passS f (R, S, C) k = (R, S, C) := by
  have he : (G.decode (takeL R (wd k) f) 2 (posS (wd k) S)).2.2 ≠ 0 := by
    unfold G.decode
    split
    · simp
    · split
      · simp
      · rw [if_pos (by omega)]; simp
  unfold passS
  dsimp only
  rw [if_neg (fun h => he h.1)]
theorem oth_zero {a b : List UInt8} {l : List Int} : ∀ n, (∀ i, i < n → G.ix a i ≠ G.ix b i → (i : Int) ∈ l) → G.othN a b l n = 0
  | 0, _ => rfl
  | n + 1, h => by
    rw [G.othN, oth_zero n (fun i hi => h i (by omega))]
    by_cases e : G.ix a n = G.ix b n
    · rw [if_pos e]
    · rw [if_neg e, if_pos ((G.cont_iff _ _).2 (h n (by omega) e))]
/-- all that differs is erased -/
structure Inv (c R : List UInt8) (S : List Int) : Prop where
  len : R.length = 2352
  diff : ∀ x : Nat, x < 2352 → G.ix R x ≠ G.ix c x → (x : Int) ∈ S
/-- what a pass does to the erased offsets -/
def pkS (S : List Int) (k : Nat) : List Int := if (posS (wd k) S).length ≤ 2 then rel S (wd k) else S
def pkN (S : List Int) : Nat → List Int
  | 0 => S
  | k + 1 => pkS (pkN S k) k
theorem Inv.step {c R : List UInt8} {S : List Int} {f : Int} {C : Bool} {k : Nat} (hc : Good c f) (h : Inv c R S) (hS : ∀ x ∈ S, f ≤ x) (hk : k < 138) : Inv c (passS f (R, S, C) k).1 (passS f (R, S, C) k).2.1 ∧ (passS f (R, S, C) k).2.1 = pkS S k := by
  unfold pkS
  by_cases hn : (posS (wd k) S).length ≤ 2
  · have ho : G.othN (takeL R (wd k) f) (takeL c (wd k) f) (posS (wd k) S) (wd k).length = 0 := oth_zero _ fun i hi hne => by
      rw [mem_posS hi]
      rw [ix_takeL _ _ _ _ hi, ix_takeL _ _ _ _ hi] at hne
      have hb := wd_ix hk hi
      unfold sym at hne
      by_cases hf : ixI (wd k) i < f
      · rw [if_pos hf, if_pos hf] at hne; exact absurd rfl hne
      · rw [if_neg hf, if_neg hf] at hne
        have := h.diff _ (by omega) hne
        rwa [show ((ixI (wd k) i).toNat : Int) = ixI (wd k) i by omega] at this
    rw [step_spec hc h.len hk (by rw [ho]; omega), if_pos hn]
    refine ⟨⟨by dsimp only; rw [putL_length]; exact h.len, fun x hx hne => ?_⟩, rfl⟩
    dsimp only at hne ⊢
    rw [put_fix (by rw [h.len, hc.len]) (fun y hy => by have := wd_bd hk y hy; rw [h.len]; omega)] at hne
    rw [rel_mem]
    by_cases hm : (x : Int) ∈ wd k ∧ f ≤ x
    · rw [if_pos hm] at hne; exact absurd rfl hne
    · rw [if_neg hm] at hne
      have hx2 := h.diff x hx hne
      exact ⟨hx2, fun hw => hm ⟨hw, hS _ hx2⟩⟩
  · rw [step_many (by omega), if_neg hn]
    exact ⟨h, rfl⟩
theorem pkS_sub (S : List Int) (k : Nat) : ∀ x ∈ pkS S k, x ∈ S := fun x hx => by
  unfold pkS at hx
  split at hx
  · exact ((rel_mem S (wd k) x).1 hx).1
  · exact hx
theorem pkN_sub (S : List Int) : ∀ k, ∀ x ∈ pkN S k, x ∈ S
  | 0, x, hx => hx
  | k + 1, x, hx => pkN_sub S k x (pkS_sub _ _ x hx)
theorem Inv.pass {c R : List UInt8} {S : List Int} {f : Int} (hc : Good c f) (h : Inv c R S) (hS : ∀ x ∈ S, f ≤ x) : ∀ k, k ≤ 138 → Inv c (passN f R S k).1 (passN f R S k).2.1 ∧ (passN f R S k).2.1 = pkN S k
  | 0, _ => ⟨h, rfl⟩
  | k + 1, hk => by
    obtain ⟨h1, h2⟩ := Inv.pass hc h hS k (by omega)
    have h3 := h1.step (C := (passN f R S k).2.2) hc (fun x hx => hS x (pkN_sub S k x (by rw [← h2]; exact hx))) (show k < 138 by omega)
    refine ⟨h3.1, ?_⟩
    show (passS f (passN f R S k) k).2.1 = pkS (pkN S k) k
    rw [← h2]
    exact h3.2
/-- nothing is erased any more: the codeword -/
theorem Inv.done {c R : List UInt8} {f : Int} (hc : Good c f) (h : Inv c R []) : R = c := by
  apply G.ext_ix (by rw [h.len, hc.len])
  intro i hi
  rcases Decidable.em (G.ix R i = G.ix c i) with e | e
  · exact e
  · have := h.diff i (by rw [h.len] at hi; exact hi) e
    cases this
theorem inv_self {c : List UInt8} {f : Int} (hc : Good c f) (S : List Int) : Inv c c S := ⟨hc.len, fun x _ h => absurd rfl h⟩
theorem posN8_mono {ws S T : List Int} (h : ∀ x ∈ S, x ∈ T) : ∀ k, (posN8 ws S k).length ≤ (posN8 ws T k).length
  | 0 => Nat.le_refl _
  | k + 1 => by
    have ih := posN8_mono (ws := ws) h k
    unfold posN8
    by_cases h1 : S.contains (ixI ws k) = true
    · have h2 : T.contains (ixI ws k) = true := by simp at h1 ⊢; exact h _ h1
      rw [if_pos h1, if_pos h2, List.length_append, List.length_append]
      simp; omega
    · rw [if_neg h1]
      split
      · rw [List.length_append]; omega
      · exact ih
/-- as long as each word has two at most, the words are released -/
theorem pkN_mem {S : List Int} : ∀ k, (∀ j, j < k → (posS (wd j) (pkN S j)).length ≤ 2) → ∀ x, x ∈ pkN S k ↔ x ∈ S ∧ ∀ j, j < k → x ∉ wd j
  | 0, _, x => by simp [pkN]
  | k + 1, h, x => by
    rw [pkN, pkS, if_pos (h k (by omega)), rel_mem, pkN_mem k (fun j hj => h j (by omega)) x]
    constructor
    · rintro ⟨⟨h1, h2⟩, h3⟩
      refine ⟨h1, fun j hj => ?_⟩
      by_cases e : j = k
      · subst e; exact h3
      · exact h2 j (by omega)
    · rintro ⟨h1, h2⟩
      exact ⟨⟨h1, fun j hj => h2 j (by omega)⟩, h2 k (by omega)⟩
/-- three positions of a word -/
theorem posS_three {ws S : List Int} (h : 2 < (posS ws S).length) : ∃ a b c : Nat, a < b ∧ b < c ∧ c < ws.length ∧ ixI ws a ∈ S ∧ ixI ws b ∈ S ∧ ixI ws c ∈ S := by
  have hp := posS_posB ws S
  have hb := posN8_bd ws S ws.length
  have h1 := G.pos_lt hp (show 1 < (posS ws S).length by omega) (show 0 < 1 by omega)
  have h2 := G.pos_lt hp h (show 1 < 2 by omega)
  have m0 := ixI_mem (show 0 < (posS ws S).length by omega)
  have m1 := ixI_mem (show 1 < (posS ws S).length by omega)
  have m2 := ixI_mem h
  have b0 := hb _ m0
  have b1 := hb _ m1
  have b2 := hb _ m2
  obtain ⟨a, ha⟩ : ∃ a : Nat, ixI (posS ws S) 0 = a := ⟨(ixI (posS ws S) 0).toNat, by omega⟩
  obtain ⟨b, hb'⟩ : ∃ a : Nat, ixI (posS ws S) 1 = a := ⟨(ixI (posS ws S) 1).toNat, by omega⟩
  obtain ⟨c, hc⟩ : ∃ a : Nat, ixI (posS ws S) 2 = a := ⟨(ixI (posS ws S) 2).toNat, by omega⟩
  rw [ha] at h1 m0 b0
  rw [hb'] at h1 h2 m1 b1
  rw [hc] at h2 m2 b2
  exact ⟨a, b, c, by omega, by omega, by omega, (mem_posS (by omega)).1 m0, (mem_posS (by omega)).1 m1, (mem_posS (by omega)).1 m2⟩
/-- the word of an offset -/
theorem wd_of_p (x : Int) (h0 : 12 ≤ x) (h1 : x < 2248) : x ∈ wd ((x - 12) % 86).toNat := by
  have hk : ((x - 12) % 86).toNat < 86 := by omega
  have hl := wd_length ((x - 12) % 86).toNat
  rw [if_pos hk] at hl
  have hi : ((x - 12) / 86).toNat < (wd ((x - 12) % 86).toNat).length := by omega
  rcases wd_at _ _ (by omega) hi with ⟨_, _, h3⟩ | ⟨h2, _⟩ | ⟨h2, _⟩ | ⟨h2, _⟩
  · have hm := ixI_mem hi
    have e : ixI (wd ((x - 12) % 86).toNat) ((x - 12) / 86).toNat = x := by rw [h3]; omega
    rwa [e] at hm
  · omega
  · omega
  · omega
theorem wd_of_q (x : Int) (h0 : 2248 ≤ x) (h1 : x < 2352) : x ∈ wd (86 + ((x - 2248) % 52).toNat) := by
  have hl := wd_length (86 + ((x - 2248) % 52).toNat)
  rw [if_neg (by omega)] at hl
  have key : ∀ i, i < 45 → ixI (wd (86 + ((x - 2248) % 52).toNat)) i = x → x ∈ wd (86 + ((x - 2248) % 52).toNat) := fun i hi e => by
    have := ixI_mem (l := wd (86 + ((x - 2248) % 52).toNat)) (i := i) (by omega)
    rwa [e] at this
  by_cases c : x < 2300
  · refine key 43 (by omega) ?_
    rcases wd_at (86 + ((x - 2248) % 52).toNat) 43 (by omega) (by omega) with ⟨h2, _⟩ | ⟨_, h2, _⟩ | ⟨_, _, h3⟩ | ⟨_, h2, _⟩
    · omega
    · omega
    · rw [h3]; omega
    · omega
  · refine key 44 (by omega) ?_
    rcases wd_at (86 + ((x - 2248) % 52).toNat) 44 (by omega) (by omega) with ⟨h2, _⟩ | ⟨_, h2, _⟩ | ⟨_, h2, _⟩ | ⟨_, _, h3⟩
    · omega
    · omega
    · omega
    · rw [h3]; omega
/-- where each P word has two erased offsets at most, a pass leaves none -/
theorem pass_peels {S : List Int} (hS : ∀ x ∈ S, 12 ≤ x ∧ x < 2352) (hP : ∀ j, j < 86 → (posS (wd j) S).length ≤ 2) : pkN S 138 = [] := by
  have h86 : ∀ j, j < 86 → (posS (wd j) (pkN S j)).length ≤ 2 := fun j hj => Nat.le_trans (posN8_mono (pkN_sub S j) _) (hP j hj)
  have hm := pkN_mem (S := S) 86 h86
  have hge : ∀ j, 86 ≤ j → ∀ x ∈ pkN S j, 2248 ≤ x := by
    have h1 : ∀ x ∈ pkN S 86, 2248 ≤ x := fun x hx => by
      obtain ⟨h2, h3⟩ := (hm x).1 hx
      have hb := hS x h2
      rcases Decidable.em (x < 2248) with h4 | h4
      · exact absurd (wd_of_p x hb.1 h4) (h3 _ (by omega))
      · omega
    intro j hj
    induction j with
    | zero => omega
    | succ j ih =>
      by_cases e : j + 1 = 86
      · rw [e]; exact h1
      · intro x hx; exact ih (by omega) x (pkS_sub _ _ x hx)
  have h138 : ∀ j, j < 138 → (posS (wd j) (pkN S j)).length ≤ 2 := fun j hj => by
    by_cases hj2 : j < 86
    · exact h86 j hj2
    · rcases Decidable.em ((posS (wd j) (pkN S j)).length ≤ 2) with h | h
      · exact h
      · obtain ⟨a, b, c, hab, hbc, hcl, ha, hb, hc⟩ := posS_three (show 2 < (posS (wd j) (pkN S j)).length by omega)
        have g := hge j (by omega) _ ha
        rcases wd_at j a hj (by omega) with ⟨h1, _⟩ | ⟨_, h2, h3⟩ | ⟨_, h2, _⟩ | ⟨_, h2, _⟩
        · omega
        · have := qf_bd (m := j - 86) (i := a) (by omega); omega
        · rw [wd_length, if_neg hj2] at hcl; omega
        · rw [wd_length, if_neg hj2] at hcl; omega
  have hm2 := pkN_mem (S := S) 138 h138
  rcases hq : pkN S 138 with _ | ⟨x, r⟩
  · rfl
  · have hx : x ∈ pkN S 138 := by rw [hq]; exact List.mem_cons_self ..
    obtain ⟨h1, h2⟩ := (hm2 x).1 hx
    have hb := hS x h1
    have hg := hge 138 (by omega) x hx
    exact absurd (wd_of_q x hg hb.2) (h2 _ (by omega))
/-- a burst -/
theorem burst_two {S : List Int} {a : Int} (hS : ∀ x ∈ S, a ≤ x ∧ x < a + 172) (j : Nat) (hj : j < 86) : (posS (wd j) S).length ≤ 2 := by
  rcases Decidable.em ((posS (wd j) S).length ≤ 2) with h | h
  · exact h
  · obtain ⟨i, b, c, hab, hbc, hcl, hi, hb, hc⟩ := posS_three (show 2 < (posS (wd j) S).length by omega)
    have h1 := hS _ hi
    have h2 := hS _ hc
    rcases wd_at j i (by omega) (by omega) with ⟨_, _, e1⟩ | ⟨e, _⟩ | ⟨e, _⟩ | ⟨e, _⟩
    · rcases wd_at j c (by omega) hcl with ⟨_, _, e2⟩ | ⟨e, _⟩ | ⟨e, _⟩ | ⟨e, _⟩
      · rw [e1] at h1
        rw [e2] at h2
        omega
      · omega
      · omega
      · omega
    · omega
    · omega
    · omega
end Go.Proofs.Ytepdcpbgdfjobaa.W8
/- Chapter 8: Decode for any sector; Repeat; where passes end, plain. -/
namespace Go.Proofs.Ytepdcpbgdfjobaa.W8
open Go.RowKit Go.Shelf
set_option linter.unusedVariables false

set_option maxRecDepth 100000 in
set_option maxHeartbeats 1000000 in
theorem decode8_bad (raw : List UInt8) (m : Int) (ea : Option Addr) (el ec : Nat) (w : World) (hf : fitB raw m = false) (hl : raw.length ≤ 9223372036854775807) :
    Calls Try.prog 24 #[.string (str raw), .int .i64 m, .slice ea el ec] w fun e w' => e = .returned (.tuple #[.string (str []), .int .i64 0, .int .i64 1]) ∧ w = w' := by
  have hs := str_size raw
  have HF := Lib.hid (fun W => first_any m W)
  cases hb : fstB m with
  | false =>
    rw [hb] at HF
    clear hb hf
    go_enter Try.func24, Try.ntmps24
    go_wp2_with (refine (HF.out _).mono ?_; rintro e w' ⟨rfl, rfl⟩)
    refine bodyPost_ret (results_tmp3 rfl _ _ _) rfl ?_
    exact ⟨rfl, rfl⟩
  | true =>
    rw [hb] at HF
    have hn : raw.length ≠ 2352 := by
      intro h
      unfold fitB at hf
      rw [hb, h] at hf
      simp at hf
    have hd : ((raw.length : Int) != 2352) = true := by simp; omega
    have HN := Lib.hid hn
    clear hb hf hn
    go_enter Try.func24, Try.ntmps24
    go_wp2_with (refine (HF.out _).mono ?_; rintro e w' ⟨rfl, rfl⟩)
    refine bodyPost_ret (results_tmp3 rfl _ _ _) rfl ?_
    exact ⟨rfl, rfl⟩
theorem decode8_any (raw : List UInt8) (m : Int) (ev : Value) (l : List Int) (w : World) (hv : RdI w ev l) (hl : l.length ≤ 100000) (hr : raw.length ≤ 9223372036854775807) :
    Calls Try.prog 24 #[.string (str raw), .int .i64 m, ev] w (Dec8 raw m l w) := by
  cases hf : fitB raw m with
  | true => exact decode8_ok raw m ev l w hf hv hl
  | false =>
    obtain ⟨_, ⟨a, c, _, _, rfl, _⟩, _⟩ := hv
    refine (decode8_bad raw m a _ c w hf hr).mono ?_
    rintro e w' ⟨rfl, rfl⟩
    exact ⟨⟨([], 0, 1), rfl, .inl ⟨(fun h => by rw [hf] at h; cases h.1), rfl⟩⟩, Below.refl _ _⟩

/-- a codeword with nothing erased stays -/
theorem pass_good {c : List UInt8} {f : Int} (hc : Good c f) : (pass8 f c []).1 = c ∧ (pass8 f c []).2.1 = [] := by
  have h := Inv.pass hc (inv_self hc []) (fun x hx => by cases hx) nw (by rw [nw_eq]; exact Nat.le_refl _)
  have e : (pass8 f c []).2.1 = [] := by
    have h2 : (pass8 f c []).2.1 = pkN [] nw := h.2
    rw [h2]
    rcases hq : pkN ([] : List Int) nw with _ | ⟨x, r⟩
    · rfl
    · have := pkN_sub [] nw x (by rw [hq]; exact List.mem_cons_self ..)
      cases this
  have h1 : Inv c (pass8 f c []).1 (pass8 f c []).2.1 := h.1
  rw [e] at h1
  exact ⟨h1.done hc, e⟩
theorem it_good {c R : List UInt8} {S : List Int} {f : Int} (hc : Good c f) (h : (itS f R S 1) = (c, [])) : ∀ i, itS f R S (i + 1) = (c, [])
  | 0 => h
  | i + 1 => by
    rw [itS_succ, it_good hc h i]
    exact Prod.ext (pass_good hc).1 (pass_good hc).2
/-- one pass is enough where the words release all -/
theorem it_peels {c R : List UInt8} {S : List Int} {f : Int} (hc : Good c f) (h : Inv c R S) (hf : 12 ≤ f) (hS : ∀ x ∈ S, f ≤ x ∧ x < 2352) (hP : ∀ j, j < 86 → (posS (wd j) S).length ≤ 2) : ∀ i, itS f R S (i + 1) = (c, []) := by
  refine it_good hc ?_
  have hp := Inv.pass hc h (fun x hx => (hS x hx).1) nw (by rw [nw_eq]; exact Nat.le_refl _)
  have e : (pass8 f R S).2.1 = [] := by
    have h2 : (pass8 f R S).2.1 = pkN S nw := hp.2
    rw [h2, nw_eq]
    exact pass_peels (fun x hx => by have := hS x hx; omega) hP
  have h1 : Inv c (pass8 f R S).1 (pass8 f R S).2.1 := hp.1
  rw [e] at h1
  rw [itS_succ]
  exact Prod.ext (h1.done hc) e
theorem good_sound {c : List UInt8} {f : Int} (hc : Good c f) : soundB c f = true := soundN_of' 138 (Nat.le_refl _) hc.word
where soundN_of' : ∀ k, k ≤ 138 → (∀ j, j < 138 → G.validB (takeL c (wd j) f) 2 = true) → soundN c f k = true
  | 0, _, _ => rfl
  | k + 1, hk, h => by rw [soundN, soundN_of' k (by omega) h, h k (by omega)]; rfl
theorem enc_good {raw : List UInt8} {f : Int} (hl : raw.length = 2352) (hf : f ≤ 16) : Good (encN raw f 138) f := ⟨by rw [encN_length]; exact hl, enc_words hl hf 138 (Nat.le_refl _)⟩
theorem decR_good {c R : List UInt8} {S : List Int} {f : Int} (hc : Good c f) (i : Nat) (h : itS f R S (i + 1) = (c, [])) : decR f R S i = (c, (G.allN c R 2352 : Int), 0) := by
  unfold decR
  rw [h, if_pos ⟨rfl, good_sound hc⟩]
theorem allN_comm (a b : List UInt8) : ∀ n, G.allN a b n = G.allN b a n
  | 0 => rfl
  | n + 1 => by
    rw [G.allN, G.allN, allN_comm a b n]
    congr 1
    by_cases e : G.ix a n = G.ix b n
    · rw [if_pos e, if_pos e.symm]
    · rw [if_neg e, if_neg (Ne.symm e)]
theorem fst_12 {m : Int} (h : fstB m = true) : fstI m = 12 ∨ fstI m = 16 := by
  unfold fstB at h
  simp only [Bool.or_eq_true, decide_eq_true_eq] at h
  unfold fstI
  rcases h with h | h
  · left; rw [if_pos h]
  · subst h; right; rfl

/-- 's[lo:hi]' of a string -/
theorem run_sfrom {P : Program} {t : TypeId} (ht : P.underlying t = some .string) (l : List UInt8) (k : Nat) (hk : k ≤ l.length) (x : Int) (hx : x = k) (w : World) : (Instr.slice t (.string (str l)) (some (.int .i64 x)) none none).run P w = .ok (.string (str (l.drop k))) w := by
  subst hx
  have hs := str_size l
  have he : (str l).extract k l.length = str (l.drop k) := by
    unfold str
    ext1
    simp [ByteArray.extract, ByteArray.copySlice]
    try exact List.take_of_length_le (by simp)
  simp [Instr.slice, run_underlying ht, Instr.sliceBounds, run_sliceBound, hs, hk, he]
theorem run_sto {P : Program} {t : TypeId} (ht : P.underlying t = some .string) (l : List UInt8) (k : Nat) (hk : k ≤ l.length) (x : Int) (hx : x = k) (w : World) : (Instr.slice t (.string (str l)) none (some (.int .i64 x)) none).run P w = .ok (.string (str (l.take k))) w := by
  subst hx
  have hs := str_size l
  have he : (str l).extract 0 k = str (l.take k) := by
    unfold str
    ext1
    simp [ByteArray.extract, ByteArray.copySlice]
  simp [Instr.slice, run_underlying ht, Instr.sliceBounds, run_sliceBound, hs, hk, he]

set_option maxRecDepth 100000 in
set_option maxHeartbeats 2000000 in
theorem rrepeat_any (c : UInt8) (n : Nat) (x y : Int) (w : World) (hx : x = c.toNat) (hy : y = n) (hn : n ≤ 1000000) :
    Calls Try.prog 23 #[.int .u8 x, .int .i64 y] w fun e w' => e = .returned (.string (str (List.replicate n c))) ∧ Below w.heap.size w w' := by
  subst hx hy
  go_enter Try.func23, Try.ntmps23
  go_wp2_with fail
  have ho0 : (w.alloc (.cells #[] 5)).ownsRow w.heap.size 5 1 (.slice (some ⟨w.heap.size, 0, none⟩) 0 0) 0 (bs (List.replicate 0 c)) := World.ownsRow_lit w #[] 0 (Nat.le_refl _) (by simp) (by simp)
  have hb0 : Below w.heap.size w (w.alloc (.cells #[] 5)) := (Below.refl _ _).alloc (Nat.le_refl _) _
  go_loopw [5, 6] (fun vo vk wr => ∃ k : Nat, k ≤ n ∧ vk = .int .i64 k ∧ wr.ownsRow w.heap.size 5 1 vo k (bs (List.replicate k c)) ∧ Below w.heap.size w wr) (fun _ vk _ => n - (intOf vk).toNat)
  case atStart => exact ⟨0, by omega, rfl, ho0, hb0⟩
  case round =>
    clear ho0 hb0
    obtain ⟨k, hk, rfl, ho, hb⟩ := hrel
    by_cases hlt : k < n
    · have hbs := hb.size
      have hlt' : (k : Int) < n := by omega
      have ho6 := own_keep' ho ((Below.refl wr.heap.size wr).alloc (Nat.le_refl _) (.cells #[B c] 5))
      have hrd1 : Rd (wr.alloc (.cells #[B c] 5)) (.slice (some ⟨wr.heap.size, 0, none⟩) 1 1) [c] := Rd.ofOwn' (World.ownsRow_lit wr #[B c] 1 (Nat.le_refl _) (by simp [maxLen]) (by simp)) (by simp)
      have hb6 := hb.alloc hbs (.cells #[B c] 5)
      have hb6s := hb6.size
      clear ho hb
      go_wp2_with (refine wpList_appB rfl _ _ rfl Try.underlying43 Try.infoU8 ho6 rfl hrd1 rfl (by simp; omega) hb6s ?_; intro v7 w7 hown7 hgr7 _)
      have hb7 := hb6.grown hgr7 hb6s (ownBlock_ge' ho6)
      have hown8 : w7.ownsRow w.heap.size 5 1 v7 (k + 1) (bs (List.replicate (k + 1) c)) := by rw [List.replicate_succ']; exact hown7
      clear hb6 ho6 hrd1 hgr7 hown7
      go_roundw
      case rel => exact ⟨k + 1, by omega, by go_num, hown8, hb7⟩
      case measure => simp [intOf]; omega
    · obtain rfl : k = n := by omega
      have hrd : Rd wr u5 (List.replicate k c) := Rd.ofOwn' ho (by omega)
      obtain ⟨a3, c3, rfl⟩ := hrd.form
      have hcx := run_str (P := Try.prog) Try.underlying43 Try.underlying5 Try.underlying9 hrd
      rw [List.length_replicate] at hcx
      rw [List.length_replicate]
      clear ho hrd
      go_wp2_with fail
      go_ret
      exact ⟨rfl, hb⟩
end Go.Proofs.Ytepdcpbgdfjobaa.W8
/- Chapter 8: a sector with at most one changed byte in each P word and in the parity of each Q word, plain. -/
namespace Go.Proofs.Ytepdcpbgdfjobaa.W8
open Go.RowKit Go.Shelf
set_option linter.unusedVariables false

theorem fst16' (m : Int) : fstI m ≤ 16 := by unfold fstI; split <;> (try split) <;> omega
theorem enc8_fit' {raw : List UInt8} {m : Int} (hl : raw.length = 2352) (hm : fstB m = true) : enc8 raw m = (encN raw (fstI m) 138, 0) := by
  unfold enc8 fitB
  rw [hl, hm]
  rfl
/-- the P word of a byte, or the Q word of a byte of the Q parity -/
def keyE (x : Int) : Int := if 2248 ≤ x then 1000 + (x - 2248) % 52 else (x - 12) % 86
theorem wd_p {j : Nat} (hj : j < 86) {x : Int} (h : x ∈ wd j) : 12 ≤ x ∧ x < 2248 ∧ (x - 12) % 86 = j := by
  obtain ⟨i, hi, rfl⟩ := List.getElem_of_mem h
  rw [← ixI_get hi]
  rcases wd_at j i (by omega) hi with ⟨_, h2, e⟩ | ⟨e, _⟩ | ⟨e, _⟩ | ⟨e, _⟩ <;> omega
theorem wd_q {k : Nat} (hk : 86 ≤ k) (hk2 : k < 138) {x : Int} (h : x ∈ wd k) (hx : 2248 ≤ x) : (x - 2248) % 52 = k - 86 := by
  obtain ⟨i, hi, rfl⟩ := List.getElem_of_mem h
  rw [← ixI_get hi] at hx ⊢
  rcases wd_at k i hk2 hi with ⟨e, _⟩ | ⟨_, h2, e⟩ | ⟨_, _, e⟩ | ⟨_, _, e⟩
  · omega
  · have := qf_bd (m := k - 86) (i := i) (by omega)
    omega
  · omega
  · omega
theorem posN8_nil (ws : List Int) : ∀ k, posN8 ws [] k = []
  | 0 => rfl
  | k + 1 => by rw [posN8, posN8_nil ws k]; rfl
theorem rel_nil (ws : List Int) : rel [] ws = [] := by
  unfold rel
  generalize ws.length = n
  induction n with
  | zero => rfl
  | succ n ih => rw [relN, ih]; rfl
/-- at most one place differs -/
theorem oth_one {a b : List UInt8} {l : List Int} : ∀ n, (∀ i j, i < n → j < n → G.ix a i ≠ G.ix b i → G.ix a j ≠ G.ix b j → i = j) → G.othN a b l n ≤ 1
  | 0, _ => by simp [G.othN]
  | n + 1, h => by
    rw [G.othN]
    by_cases e : G.ix a n = G.ix b n
    · rw [if_pos e]
      exact oth_one n (fun i j hi hj => h i j (by omega) (by omega))
    · have : G.othN a b l n = 0 := oth_zero n fun i hi hne => by
        have := h i n (by omega) (by omega) hne e
        omega
      rw [this]
      split
      · omega
      · split <;> omega
structure Err (c R : List UInt8) (f : Int) : Prop where
  len : R.length = 2352
  low : ∀ x : Nat, x < 2352 → G.ix R x ≠ G.ix c x → f ≤ x
  one : ∀ x y : Nat, x < 2352 → y < 2352 → G.ix R x ≠ G.ix c x → G.ix R y ≠ G.ix c y → keyE x = keyE y → x = y
theorem err_step {c R : List UInt8} {f : Int} {C : Bool} {k : Nat} (hc : Good c f) (h : Err c R f) (hk : k < 138) (hq : 86 ≤ k → ∀ x : Nat, x < 2248 → G.ix R x = G.ix c x) :
    (passS f (R, [], C) k).2.1 = [] ∧ (passS f (R, [], C) k).1.length = 2352 ∧ ∀ x : Nat, G.ix (passS f (R, [], C) k).1 x = if (x : Int) ∈ wd k ∧ f ≤ x then G.ix c x else G.ix R x := by
  have hp : posS (wd k) [] = [] := posN8_nil _ _
  have ho : G.othN (takeL R (wd k) f) (takeL c (wd k) f) (posS (wd k) []) (wd k).length ≤ 1 := oth_one _ fun i j hi hj h1 h2 => by
    have bi := wd_ix hk hi
    have bj := wd_ix hk hj
    have key : ∀ t, t < (wd k).length → G.ix (takeL R (wd k) f) t ≠ G.ix (takeL c (wd k) f) t → G.ix R (ixI (wd k) t).toNat ≠ G.ix c (ixI (wd k) t).toNat := fun t ht hne => by
      rw [ix_takeL _ _ _ _ ht, ix_takeL _ _ _ _ ht] at hne
      unfold sym at hne
      by_cases hf : ixI (wd k) t < f
      · rw [if_pos hf, if_pos hf] at hne; exact absurd rfl hne
      · rw [if_neg hf, if_neg hf] at hne; exact hne
    have d1 := key i hi h1
    have d2 := key j hj h2
    have ke : keyE (ixI (wd k) i) = keyE (ixI (wd k) j) := by
      unfold keyE
      by_cases hkk : k < 86
      · have p1 := wd_p hkk (ixI_mem hi)
        have p2 := wd_p hkk (ixI_mem hj)
        rw [if_neg (by omega), if_neg (by omega), p1.2.2, p2.2.2]
      · have g1 : 2248 ≤ ixI (wd k) i := by
          rcases Decidable.em (2248 ≤ ixI (wd k) i) with g | g
          · exact g
          · exact absurd (hq (by omega) _ (by omega)) d1
        have g2 : 2248 ≤ ixI (wd k) j := by
          rcases Decidable.em (2248 ≤ ixI (wd k) j) with g | g
          · exact g
          · exact absurd (hq (by omega) _ (by omega)) d2
        rw [if_pos g1, if_pos g2, wd_q (by omega) hk (ixI_mem hi) g1, wd_q (by omega) hk (ixI_mem hj) g2]
    have := h.one _ _ (by omega) (by omega) d1 d2 (by rw [show (((ixI (wd k) i).toNat : Nat) : Int) = ixI (wd k) i by omega, show (((ixI (wd k) j).toNat : Nat) : Int) = ixI (wd k) j by omega]; exact ke)
    exact wd_inj hk hi hj (by omega)
  rw [step_spec hc h.len hk (by rw [hp] at ho ⊢; simp only [List.length_nil]; omega)]
  refine ⟨rel_nil _, by dsimp only; rw [putL_length]; exact h.len, fun x => ?_⟩
  exact put_fix (by rw [h.len, hc.len]) (fun y hy => by have := wd_bd hk y hy; rw [h.len]; omega) x
theorem err_pass {c R : List UInt8} {f : Int} (hc : Good c f) (h : Err c R f) (h12 : 12 ≤ f) : ∀ k, k ≤ 138 →
    (passN f R [] k).2.1 = [] ∧ (passN f R [] k).1.length = 2352 ∧ (∀ x : Nat, x < 2352 → G.ix (passN f R [] k).1 x ≠ G.ix c x → G.ix R x ≠ G.ix c x ∧ ∀ j, j < k → (x : Int) ∉ wd j)
  | 0, _ => ⟨rfl, h.len, fun x hx hne => ⟨hne, fun j hj => by omega⟩⟩
  | k + 1, hk => by
    obtain ⟨h1, h2, h3⟩ := err_pass hc h h12 k (by omega)
    have hE : Err c (passN f R [] k).1 f := ⟨h2, fun x hx hne => h.low x hx (h3 x hx hne).1, fun x y hx hy a b => h.one x y hx hy (h3 x hx a).1 (h3 y hy b).1⟩
    obtain ⟨g1, g2, g3⟩ := err_step (C := (passN f R [] k).2.2) hc hE (show k < 138 by omega) (fun hk86 x hx => by
      rcases Decidable.em (G.ix (passN f R [] k).1 x = G.ix c x) with e | e
      · exact e
      · have h5 := h3 x (by omega) e
        have h6 := h.low x (by omega) h5.1
        exact absurd (wd_of_p x (by omega) (by omega)) (h5.2 _ (by omega)))
    have e1 : passN f R [] (k + 1) = passS f ((passN f R [] k).1, [], (passN f R [] k).2.2) k := by
      have e0 : passN f R [] k = ((passN f R [] k).1, [], (passN f R [] k).2.2) := Prod.ext rfl (Prod.ext h1 rfl)
      exact congrArg (fun s => passS f s k) e0
    rw [e1]
    refine ⟨g1, g2, fun x hx hne => ?_⟩
    rw [g3 x] at hne
    by_cases hm : (x : Int) ∈ wd k ∧ f ≤ x
    · rw [if_pos hm] at hne; exact absurd rfl hne
    · rw [if_neg hm] at hne
      have h5 := h3 x hx hne
      refine ⟨h5.1, fun j hj => ?_⟩
      by_cases e : j = k
      · subst e; exact fun hw => hm ⟨hw, h.low x hx h5.1⟩
      · exact h5.2 j (by omega)
theorem err_it {c R : List UInt8} {f : Int} (hc : Good c f) (h : Err c R f) (h12 : 12 ≤ f) (i : Nat) : itS f R [] (i + 1) = (c, []) := by
  refine it_good hc ?_ i
  obtain ⟨h1, h2, h3⟩ := err_pass hc h h12 nw (by rw [nw_eq]; exact Nat.le_refl _)
  rw [itS_succ]
  refine Prod.ext ?_ h1
  show (passN f R [] nw).1 = c
  refine G.ext_ix (by rw [h2, hc.len]) fun x hx => ?_
  rw [h2] at hx
  rcases Decidable.em (G.ix (passN f R [] nw).1 x = G.ix c x) with e | e
  · exact e
  · exfalso
    obtain ⟨h5, h6⟩ := h3 x hx e
    have h7 := h.low x hx h5
    rw [nw_eq] at h6
    by_cases hp : x < 2248
    · exact h6 _ (by omega) (wd_of_p x (by omega) (by omega))
    · exact h6 _ (by omega) (wd_of_q x (by omega) (by omega))
theorem dec_err {c R : List UInt8} {m : Int} {w w' : World} {e : Ending} (hm : fstB m = true) (hc : Good c (fstI m)) (hE : Err c R (fstI m))
    (h : Dec8 R m [] w e w') : e = .returned (.tuple #[.string (str c), .int .i64 (G.allN c R 2352 : Int), .int .i64 0]) ∧ Below w.heap.size w w' := by
  obtain ⟨⟨r, rfl, hr⟩, hb⟩ := h
  have hfit : fitB R m = true := by
    unfold fitB
    rw [hm, hE.len]
    rfl
  have h12 : 12 ≤ fstI m := by rcases fst_12 hm with h | h <;> omega
  rcases hr with ⟨hno, _⟩ | ⟨_, i, _, rfl⟩
  · exact absurd ⟨hfit, rfl⟩ hno
  · rw [decR_good hc i (err_it hc hE h12 i)]
    exact ⟨rfl, hb⟩

/-- what the changes have done -/
structure Used (c R : List UInt8) (f : Int) (T : List Int) : Prop where
  err : Err c R f
  key : ∀ x : Nat, x < 2352 → G.ix R x ≠ G.ix c x → keyE x ∈ T
  num : G.allN c R 2352 = T.length
theorem allN_self (c : List UInt8) : ∀ n, G.allN c c n = 0
  | 0 => rfl
  | n + 1 => by rw [G.allN, allN_self c n, if_pos rfl]
theorem Used.start {c : List UInt8} {f : Int} (hc : Good c f) : Used c c f [] := ⟨⟨hc.len, fun x _ h => absurd rfl h, fun x y _ _ h => absurd rfl h⟩, fun x _ h => absurd rfl h, allN_self c 2352⟩
theorem allN_set {c R : List UInt8} {a : Nat} {v : UInt8} (ha : a < R.length) (h1 : G.ix R a = G.ix c a) (h2 : v ≠ G.ix c a) : ∀ n, G.allN c (R.set a v) n = G.allN c R n + if a < n then 1 else 0
  | 0 => by simp [G.allN]
  | n + 1 => by
    rw [G.allN, G.allN, allN_set ha h1 h2 n, ix_set _ _ _ _ ha]
    by_cases e : n = a
    · subst e
      rw [if_pos rfl, if_neg (Ne.symm h2), if_neg (Nat.lt_irrefl _), if_pos h1.symm, if_pos (Nat.lt_succ_self _)]
    · rw [if_neg e]
      have e2 : (if a < n + 1 then 1 else 0 : Nat) = if a < n then 1 else 0 := by split <;> split <;> omega
      rw [e2]
      generalize (if a < n then 1 else 0 : Nat) = z
      omega
theorem xor_ne {a v : UInt8} (h : v ≠ 0) : a ^^^ v ≠ a := fun e => h (by
  have : a ^^^ (a ^^^ v) = a ^^^ a := by rw [e]
  rwa [← UInt8.xor_assoc, UInt8.xor_self, UInt8.zero_xor] at this)
theorem Used.step {c R : List UInt8} {f : Int} {T : List Int} {a : Nat} {v : UInt8} (h : Used c R f T) (ha : a < 2352) (hf : f ≤ a) (hv : v ≠ 0) (hk : keyE a ∉ T) : Used c (R.set a (G.ix R a ^^^ v)) f (T ++ [keyE a]) := by
  have hsame : G.ix R a = G.ix c a := by
    rcases Decidable.em (G.ix R a = G.ix c a) with e | e
    · exact e
    · exact absurd (h.key a ha e) hk
  have hl : a < R.length := by rw [h.err.len]; exact ha
  have hix : ∀ x, G.ix (R.set a (G.ix R a ^^^ v)) x = if x = a then G.ix R a ^^^ v else G.ix R x := fun x => ix_set _ _ _ _ hl
  have hne : G.ix R a ^^^ v ≠ G.ix c a := by rw [← hsame]; exact xor_ne hv
  refine ⟨⟨by rw [List.length_set]; exact h.err.len, fun x hx hd => ?_, fun x y hx hy dx dy he => ?_⟩, fun x hx hd => ?_, ?_⟩
  · rw [hix] at hd
    by_cases e : x = a
    · rw [e]; exact hf
    · rw [if_neg e] at hd; exact h.err.low x hx hd
  · rw [hix] at dx dy
    by_cases ex : x = a
    · by_cases ey : y = a
      · omega
      · rw [if_neg ey] at dy
        have := h.key y hy dy
        rw [← he, ex] at this
        exact absurd this hk
    · rw [if_neg ex] at dx
      by_cases ey : y = a
      · have := h.key x hx dx
        rw [he, ey] at this
        exact absurd this hk
      · rw [if_neg ey] at dy
        exact h.err.one x y hx hy dx dy he
  · rw [hix] at hd
    rw [List.mem_append, List.mem_singleton]
    by_cases e : x = a
    · rw [e]; exact .inr rfl
    · rw [if_neg e] at hd; exact .inl (h.key x hx hd)
  · rw [allN_set hl hsame hne, h.num, if_pos ha, List.length_append]
    rfl
end Go.Proofs.Ytepdcpbgdfjobaa.W8
/- Slices of structs that came in: opened. No program is named here. -/
namespace Go.Proofs.Ytepdcpbgdfjobaa
open Go.ChangeShapes Go.WideShapes Go.RowKit Go.Deep
set_option linter.unusedVariables false

/-- an integer of 64 bits -/
def In64 (a : Int) : Prop := -9223372036854775808 ≤ a ∧ a ≤ 9223372036854775807
theorem in64_wf {a : Int} (h : (Lit.int .i64 a).wf = true) : In64 a := by
  simpa [Lit.wf, IntKind.min, IntKind.max, IntKind.signed, IntKind.bits, In64] using h
section
variable {H : Type} {enc : TypeId × Value → H} {P : Program} {w : World} {base b0 : Nat} {sp : Nat → Bool} {held : Bool}
/-- the reading of a field that is an int -/
theorem leaf_int {t : TypeId} {n : Nat} {cs : List Value} {y : Option (DataW H × List MemPlace)} (ht : P.underlying t = some (.int .i64)) (h : DataW.trod enc P w base sp held n t cs = y) (hy : y ≠ none) : ∃ a, cs = [.int .i64 a] ∧ In64 a := by
  cases y with
  | none => exact (hy rfl).elim
  | some y =>
    obtain ⟨a, h1, _, h2⟩ := DataW.trod_int ht h
    exact ⟨a, h1, in64_wf h2⟩
theorem leaf_bool {t : TypeId} {n : Nat} {cs : List Value} {y : Option (DataW H × List MemPlace)} (ht : P.underlying t = some .bool) (h : DataW.trod enc P w base sp held n t cs = y) (hy : y ≠ none) : ∃ a, cs = [.bool a] := by
  cases y with
  | none => exact (hy rfl).elim
  | some y =>
    obtain ⟨a, h1, _⟩ := DataW.trod_bool ht h
    exact ⟨a, h1⟩
theorem some_at {α : Type} {xs : List α} {n i : Nat} (h : xs.length = n) (hi : i < n) : xs[i]? ≠ none := by
  rw [List.getElem?_eq_getElem (by omega)]; simp

/-- a slice of structs that came in, each read by 'D' -/
theorem open_rdS {α : Type} (d : α) (D : α → List Value) (Q : α → Prop) {t e : TypeId} {sz : Nat} (ht : P.underlying t = some (.slice e)) (hC : P.cellsOf e = sz) (hs : 0 < sz)
    (hE : ∀ n cs x, DataW.trod enc P w base sp held n e cs = some x → ∃ a : α, cs = D a ∧ Q a) {n : Nat} {v : Value} {x : DataW H × List MemPlace} (hd : DataW.trod enc P w base sp held n t [v] = some x) :
    ∃ l : List α, RdS w sz v l.length (fun i => D ((l[i]?).getD d)) ∧ l.length ≤ 9223372036854775807 ∧ ∀ i, i < l.length → Q ((l[i]?).getD d) := by
  rcases open_slice ht hd with ⟨hcs, _⟩ | ⟨a, len, cap, m, n', Dd, Pl, hcs, hb, hl, hm, hmm, hx, hi⟩
  · simp only [List.cons.injEq, and_true] at hcs
    subst hcs
    exact ⟨[], RdS.nil _ _ _, by simp, fun i hi => by simp at hi⟩
  · simp only [List.cons.injEq, and_true] at hcs
    subst hcs
    rw [hC] at hi
    by_cases h0 : len = 0
    · subst h0
      exact ⟨[], RdS.empty _ _ _ _ _, by simp, fun i hi => by simp at hi⟩
    obtain ⟨ab, ao, asp⟩ := a
    have hle : len ≤ m := by rw [hmm]; split <;> omega
    obtain rfl : asp = none := by
      obtain ⟨cs', h1, h2⟩ := hi 0 (by omega)
      obtain ⟨_, hL, hc⟩ := World.cells?_some h1
      have e := hc 0 hs
      rw [List.getElem?_eq_getElem (by omega), Nat.zero_mul] at e
      cases asp with
      | none => rfl
      | some s => unfold World.cell? at e; split at e <;> simp [Addr.add] at e
    have key : ∀ i, ∃ z : α, i < len → Q z ∧ w.rangeAt ab (ao + i * sz) (D z) := fun i => by
      by_cases h : i < len
      · obtain ⟨cs', h1, h2⟩ := hi i (by omega)
        obtain ⟨z, rfl, hq⟩ := hE _ _ _ h2
        obtain ⟨_, hL, hc⟩ := World.cells?_some h1
        refine ⟨z, fun _ => ⟨hq, fun j u hu => ?_⟩⟩
        have hj : j < sz := by have := (List.getElem?_eq_some_iff.1 hu).1; omega
        have e := hc j hj
        rw [hu, Addr.add_lit, Addr.add_lit] at e
        exact e
      · exact ⟨d, fun h' => absurd h' h⟩
    obtain ⟨f, hf⟩ : ∃ f : Nat → α, ∀ i, i < len → Q (f i) ∧ w.rangeAt ab (ao + i * sz) (D (f i)) := ⟨fun i => Classical.choose (key i), fun i => Classical.choose_spec (key i)⟩
    have hL : ((List.range len).map f).length = len := by simp
    have hG : ∀ i, i < len → (((List.range len).map f)[i]?).getD d = f i := fun i h => by simp [h]
    refine ⟨(List.range len).map f, ⟨some ⟨ab, ao, none⟩, cap, ab, ao, by rw [hL], by rw [hL]; exact hl, fun i h => ?_⟩, by rw [hL]; unfold maxLen at hm; omega, fun i h => ?_⟩
    · rw [hL] at h
      simp only [hG i h]
      exact ⟨trivial, (hf i h).2⟩
    · rw [hL] at h
      rw [hG i h]
      exact (hf i h).1
end
end Go.Proofs.Ytepdcpbgdfjobaa
/- Changes of bytes that came in: opened (chapter 8). -/
namespace Go.Proofs.Ytepdcpbgdfjobaa
open Go.ChangeShapes Go.WideShapes Go.RowKit Go.Deep Go.Joins
set_option linter.unusedVariables false

structure Cg where
  off : Int
  x : Int
def ccs (c : Cg) : List Value := [.int .i64 c.off, .int .i64 c.x]
def cgz : Cg := ⟨0, 0⟩
def cg (l : List Cg) (i : Nat) : Cg := (l[i]?).getD cgz
def WfC (c : Cg) : Prop := In64 c.off ∧ In64 c.x
def RdC (w : World) (v : Value) (l : List Cg) : Prop := RdS w 2 v l.length (fun i => ccs (cg l i)) ∧ ∀ i, i < l.length → WfC (cg l i)
def CameC (w : World) (v : Value) (l : List Cg) : Prop := RdC w v l ∧ l.length ≤ 9223372036854775807
section
variable {H : Type} {enc : TypeId × Value → H} {w : World} {base b0 : Nat} {sp : Nat → Bool} {held : Bool}
theorem Try.cellsC : Try.prog.cellsOf 46 = 2 := by kernel_rfl
theorem Try.cellsCI : Try.prog.cellsOf 3 = 1 := by kernel_rfl
theorem Try.sizeCg : (Try.prog.info? 46).map (·.size) = some 2 := by kernel_rfl
set_option maxRecDepth 100000 in
theorem cg_cells (n : Nat) (cs : List Value) (x : DataW H × List MemPlace) (h : DataW.trod enc Try.prog w base sp held n 46 cs = some x) : ∃ t : Cg, cs = ccs t ∧ WfC t := by
  obtain ⟨ys, n', _, _, hlen, hyl, hf⟩ := DataW.trod_struct Try.underlying46 h
  rw [Try.cellsC] at hlen
  match cs, hlen with
  | [c0, c1], _ =>
    have g0 : DataW.trod enc Try.prog w base sp held n' 3 (([c0, c1].drop 0).take (Try.prog.cellsOf 3)) = ys[0]? := hf 0 _ rfl
    have g1 : DataW.trod enc Try.prog w base sp held n' 3 (([c0, c1].drop 1).take (Try.prog.cellsOf 3)) = ys[1]? := hf 1 _ rfl
    rw [Try.cellsCI] at g0 g1
    simp only [List.drop, List.take] at g0 g1
    obtain ⟨a0, e0, w0⟩ := leaf_int Try.underlying3 g0 (some_at hyl (by decide))
    obtain ⟨a1, e1, w1⟩ := leaf_int Try.underlying3 g1 (some_at hyl (by decide))
    simp only [List.cons.injEq, and_true] at e0 e1
    subst e0 e1
    exact ⟨⟨a0, a1⟩, rfl, w0, w1⟩
set_option maxRecDepth 100000 in
theorem open_cchanges {v : Value} {d : DataW H} {ps : List MemPlace} {r : Reach} (hval : Value.okWide Try.prog w r b0 42 v) (hd : DataW.Trod enc Try.prog w base sp held 42 v d ps) : ∃ l, CameC w v l := by
  obtain ⟨a, len, cap, rfl⟩ := okWide_slice Try.underlying42 hval
  obtain ⟨fuel, hf⟩ := hd
  obtain ⟨l, h1, h2, h3⟩ := open_rdS cgz ccs WfC Try.underlying42 Try.cellsC (by omega) (fun n cs x h => cg_cells n cs x h) (by simpa [Value.cells] using hf)
  exact ⟨l, ⟨h1, h3⟩, h2⟩
end
end Go.Proofs.Ytepdcpbgdfjobaa
/- Chapter 8: the law ProductcodeErrors walked. -/
namespace Go.Proofs.Ytepdcpbgdfjobaa.W8
open Go.RowKit Go.Shelf
set_option linter.unusedVariables false

set_option maxRecDepth 100000 in
set_option maxHeartbeats 8000000 in
theorem errors_no (w : World) (a : List UInt8) (m : Int) (sa : Option Addr) (sl sc : Nat) (ha : a.length ≤ 9223372036854775807) (h : fitB a m = false) : Calls Try.prog 8 #[.string (str a), .int .i64 m, .slice sa sl sc] w fun e w' => e = .returned (.bool true) ∧ Below w.heap.size w w' := by
  have HX1 := Lib.hid (fun W => encode8_any a m W ha)
  have e1 : enc8 a m = ([], 1) := by unfold enc8; rw [h]; rfl
  rw [e1] at HX1
  clear h e1
  go_enter Try.func8, Try.ntmps8
  go_wp2_with fail
  refine (awake8_any _).mono ?_
  rintro e w0 ⟨rfl, hb0⟩
  go_wp2_with fail
  refine (HX1.out _).mono ?_
  rintro e w1 ⟨rfl, hb1⟩
  have hB1 := hb0.trans (hb1.mono hb0.size)
  clear hb0 hb1
  go_wp2_with fail
  go_ret
  exact ⟨rfl, hB1⟩

set_option maxRecDepth 100000 in
set_option maxHeartbeats 8000000 in
theorem errors_many (w : World) (a : List UInt8) (m : Int) (sa : Option Addr) (sl sc : Nat) (ha : a.length ≤ 9223372036854775807) (hl : sl ≤ 9223372036854775807) (h1 : a.length = 2352) (hm : fstB m = true) (h : 100 < sl) : Calls Try.prog 8 #[.string (str a), .int .i64 m, .slice sa sl sc] w fun e w' => e = .returned (.bool true) ∧ Below w.heap.size w w' := by
  have HX1 := Lib.hid (fun W => encode8_any a m W ha)
  rw [enc8_fit' h1 hm] at HX1
  dsimp only at HX1
  clear h1 hm
  go_enter Try.func8, Try.ntmps8
  go_wp2_with fail
  refine (awake8_any _).mono ?_
  rintro e w0 ⟨rfl, hb0⟩
  go_wp2_with fail
  refine (HX1.out _).mono ?_
  rintro e w1 ⟨rfl, hb1⟩
  have hB1 := hb0.trans (hb1.mono hb0.size)
  clear hb0 hb1
  go_wp2_with fail
  go_ret
  exact ⟨rfl, hB1⟩

theorem below_set {B : Nat} {a w : World} {g : Nat} (h : Below B a w) (hg : B ≤ g) (j : Nat) (v : Value) : Below B a (w.setCell ⟨g, j, none⟩ v) :=
  h.trans ⟨rfl, rfl, rfl, by simp, fun k hk => Below.heap_setCell w ⟨g, j, none⟩ v k (fun e => by simp at e; omega)⟩
theorem chg_step {w w5 : World} {g cap mb n a : Nat} {c R : List UInt8} {T : List Int} {f : Int} {v : UInt8} (hr : Row w5 5 g cap R) (hb : Below w.heap.size w w5) (hgm : g < mb) (hwg : w.heap.size ≤ g) (hl : a < R.length) (hU : Used c R f T) (ha : a < 2352) (hf : f ≤ a) (hv : v ≠ 0) (hk : keyE a ∉ T) :
    ∀ w6, MS w6 mb n (T ++ [keyE a]) → w5.grownBy w6 (some mb) → w6.cell? ⟨g, a, none⟩ = some (B (G.ix R a)) ∧ w6.frozen? ⟨g, a, none⟩ = false ∧
      Hid (Row (w6.setCell ⟨g, a, none⟩ (B (G.ix R a ^^^ v))) 5 g cap (R.set a (G.ix R a ^^^ v)) ∧ MS (w6.setCell ⟨g, a, none⟩ (B (G.ix R a ^^^ v))) mb n (T ++ [keyE a]) ∧ Used c (R.set a (G.ix R a ^^^ v)) f (T ++ [keyE a]) ∧ Below w.heap.size w (w6.setCell ⟨g, a, none⟩ (B (G.ix R a ^^^ v)))) := fun w6 hm6 hg6 => by
  have hr6 := hr.keep (hg6.5 g hr.lt (fun e => by have := Option.some.inj e; omega))
  refine ⟨hr6.cell a hl, hr6.frozen a (by have := hr6.le; omega), Lib.hid ⟨hr6.store a _ hl, hm6.kept (Below.heap_setCell w6 ⟨g, a, none⟩ _ mb (by show mb ≠ g; omega)), hU.step ha hf hv hk, below_set (hb.grown hg6 hb.size (fun k e => by have := Option.some.inj e; omega)) hwg _ _⟩⟩
set_option maxRecDepth 100000 in
set_option maxHeartbeats 16000000 in
theorem errors_ok (w : World) (a : List UInt8) (m : Int) (cv : Value) (l : List Cg) (hr : RdC w cv l) (ha : a.length ≤ 9223372036854775807) (hl : l.length ≤ 100) (h1 : a.length = 2352) (hm : fstB m = true) : Calls Try.prog 8 #[.string (str a), .int .i64 m, cv] w fun e w' => e = .returned (.bool true) ∧ Below w.heap.size w w' := by
  obtain ⟨⟨sa, sc, ab, ao, rfl, hac, hcell⟩, hwf⟩ := hr
  have HC := Lib.hid hcell; clear hcell
  have HWF := Lib.hid hwf; clear hwf
  have hcg := enc_good h1 (fst16' m)
  have HX1 := Lib.hid (fun W => encode8_any a m W ha)
  rw [enc8_fit' h1 hm] at HX1
  dsimp only at HX1
  generalize encN a (fstI m) 138 = c at *
  have hsc : (str c).size = 2352 := by rw [str_size, hcg.len]
  have hrf : rfst m = fstI m := rfst_eq hm
  have HFi := Lib.hid (fun W => rfirst_any m W)
  rw [hrf] at HFi
  obtain ⟨f, hf⟩ : ∃ f : Nat, fstI m = f := ⟨(fstI m).toNat, by rcases fst_12 hm with h | h <;> omega⟩
  have hf16 : 12 ≤ f ∧ f ≤ 16 := by rcases fst_12 hm with h | h <;> omega
  rw [hf] at HFi
  have HM := Lib.hid hm; have HCG := Lib.hid hcg; have HF := Lib.hid hf
  clear h1 hm hcg hf hrf ha
  generalize str a = A at *
  have hmm := @run_makeMap Try.prog
  go_enter Try.func8, Try.ntmps8
  go_wp2_with fail
  refine (awake8_any _).mono ?_
  rintro e w0 ⟨rfl, hb0⟩
  go_wp2_with fail
  refine (HX1.out _).mono ?_
  rintro e w1 ⟨rfl, hb1⟩
  have hB1 := hb0.trans (hb1.mono hb0.size)
  clear hb0 hb1
  obtain ⟨w2, cap, hcv, hr2, hb2, hcap⟩ := run_bytes (P := Try.prog) w1 Try.underlying9 Try.underlying43 Try.underlying5 c 2352 HCG.out.len
  go_wp2_with fail
  refine (HFi.out _).mono ?_
  rintro e w3 ⟨rfl, rfl⟩
  go_wp2_with fail
  obtain ⟨g, hg⟩ : ∃ g, g = w1.heap.size := ⟨_, rfl⟩
  obtain ⟨mb, hmb⟩ : ∃ mb, mb = w2.heap.size := ⟨_, rfl⟩
  have hbm := (Below.refl w2.heap.size w2).alloc (Nat.le_refl _) (.map #[] 0)
  have hm0 := MS.made w2
  have hr0 : Row (w2.alloc (.map #[] 0)) 5 g cap c := by rw [hg]; exact hr2.below hbm
  have hgm : g < mb := by rw [hg, hmb]; exact hr2.lt
  have hwg : w.heap.size ≤ g := by rw [hg]; exact hB1.size
  have hb0 : Below w.heap.size w (w2.alloc (.map #[] 0)) := (hB1.trans (hb2.mono hB1.size)).trans (hbm.mono (by have := hgm; omega))
  rw [← hmb] at hm0
  rw [← hmb, ← hg]
  have HG := Lib.hid hg; have HMB := Lib.hid hmb; have HU0 : Hid (Used c c (fstI m) []) := Lib.hid (Used.start HCG.out)
  clear hg hmb hbm hr2 hb2 hcv hB1 hmm
  go_loopw [44] (fun vk wr => ∃ (k n : Nat) (R : List UInt8) (T : List Int), k ≤ l.length ∧ n ≤ k ∧ vk = .int .i64 k ∧ Row wr 5 g cap R ∧ MS wr mb n T ∧ Hid (Used c R (fstI m) T) ∧ Below w.heap.size w wr) (fun vk _ => l.length - (intOf vk).toNat)
  case atStart => exact ⟨0, 0, c, [], by omega, by omega, rfl, hr0, hm0, HU0, hb0⟩
  case round =>
    clear hr0 hm0 HU0 hb0
    obtain ⟨k, n, R, T, hk, hn, rfl, hr, hm, HU, hb⟩ := hrel
    by_cases hlt : k < l.length
    · obtain ⟨hsa, hrange⟩ := HC.out k hlt
      obtain ⟨wfo, wfx⟩ := HWF.out k hlt
      have hrg : wr.rangeAt ab (ao + k * 2) (ccs (cg l k)) := fun j u hu => (hb.cell (p := ⟨ab, ao + k * 2 + j, none⟩) (World.block_lt_of_cell? w _ (hrange j u hu))).trans (hrange j u hu)
      clear hrange
      generalize cg l k = x at hrg wfo wfx
      obtain ⟨off, xx⟩ := x
      simp only at wfo wfx
      have hc0 : wr.cell? ⟨ab, ao + k * 2, none⟩ = some (.int .i64 off) := hrg 0 _ rfl
      have hc1 : wr.cell? ⟨ab, ao + k * 2 + 1, none⟩ = some (.int .i64 xx) := hrg 1 _ rfl
      clear hrg
      have hix := fun w' => run_idxS Try.underlying42 Try.sizeCg (cap := sc) hsa hlt _ rfl w'
      have Ha := Lib.hid hsa; clear hsa
      go_upto_region 14 with (fail)
      have hbA := (Below.refl wr.heap.size wr).alloc (Nat.le_refl _) (.cells #[.int .i64 off, .int .i64 xx] 46)
      have hBx := Bx.new wr 46 [.int .i64 off, .int .i64 xx]
      have hr1 := hr.below hbA
      have hm1 := hm.below hbA
      have hb1 := hb.trans (hbA.mono hb.size)
      have hx0 := hBx.cell (i := 0) rfl
      have hx1 := hBx.cell (i := 1) rfl
      obtain ⟨gx, hgx⟩ : ∃ gx, gx = wr.heap.size := ⟨_, rfl⟩
      rw [← hgx] at hx0 hx1 ⊢
      clear hbA hBx hr hm hb hc0 hc1 hix hgx
      generalize wr.alloc (.cells #[.int .i64 off, .int .i64 xx] 46) = wa at *
      obtain ⟨v, hv⟩ : ∃ v : UInt8, (v.toNat : Int) = xx % 256 := ⟨UInt8.ofNat (xx % 256).toNat, by rw [UInt8.toNat_ofNat']; omega⟩
      have hwv : IntKind.u8.wrap xx = (v.toNat : Int) := by rw [hv]; simp [IntKind.wrap, IntKind.bits, IntKind.signed]
      clear hv
      go_quiet (fail)
      have hr2 : Row (wa.drewN nq) 5 g cap R := hr1
      have hm2 : MS (wa.drewN nq) mb n T := hm1.kept rfl
      have hb2 := Below.drewN hb1 nq
      generalize wa.drewN nq = w5 at hr2 hm2 hb2 ⊢
      clear hr1 hm1 hb1 hx0 hx1 hwv
      by_cases c1 : off < f
      · go_wp2_with fail
        go_roundw
        case rel => exact ⟨k + 1, n, R, T, by omega, by omega, by go_num, hr2, hm2, HU, hb2⟩
        case measure => simp [intOf]; omega
      by_cases c2 : 2352 ≤ off
      · go_wp2_with fail
        go_roundw
        case rel => exact ⟨k + 1, n, R, T, by omega, by omega, by go_num, hr2, hm2, HU, hb2⟩
        case measure => simp [intOf]; omega
      by_cases c3 : v = 0
      · subst c3
        go_wp2_with fail
        go_roundw
        case rel => exact ⟨k + 1, n, R, T, by omega, by omega, by go_num, hr2, hm2, HU, hb2⟩
        case measure => simp [intOf]; omega
      have hv1 : ((v.toNat : Int) == 0) = false := by
        simp only [beq_eq_false_iff_ne]
        intro h
        exact c3 (UInt8.toNat_inj.1 (by simpa using h))
      have HV := Lib.hid c3; clear c3
      obtain ⟨at_, rfl⟩ : ∃ at_ : Nat, off = at_ := ⟨off.toNat, by omega⟩
      have hla : at_ < 2352 := by omega
      have hlR : at_ < R.length := by rw [HU.out.err.len]; exact hla
      have hix : ∀ wx, (Instr.indexAt 43 (.slice (some ⟨g, 0, none⟩) 2352 cap) (.int .i64 (at_ : Int))).run Try.prog wx = .ok (.pointer (some ⟨g, at_, none⟩)) wx := fun wx => by
        have := run_idx (P := Try.prog) (a := some ⟨g, 0, none⟩) (off := 0) (b := g) (n := 2352) (cap := cap) (k := at_) Try.underlying43 Try.sizeU8 rfl hla _ rfl wx
        rwa [Nat.zero_add] at this
      have hxo : bits .xor .u8 ((G.ix R at_).toNat : Int) (v.toNat : Int) = ((G.ix R at_ ^^^ v).toNat : Int) := by
        rw [int_xor _ _ rfl rfl (UInt8.toNat_lt _) (UInt8.toNat_lt _), UInt8.toNat_xor]
      by_cases c4 : 2248 ≤ (at_ : Int)
      · have hK : keyE (at_ : Int) = 1000 + ((at_ : Int) - 2248) % 52 := by unfold keyE; rw [if_pos c4]
        have hlook := hm2.run (1000 + ((at_ : Int) - 2248) % 52) (by omega) (by omega)
        have HK := Lib.hid hK; clear hK
        cases hcn : T.contains (1000 + ((at_ : Int) - 2248) % 52) with
        | true =>
          rw [hcn] at hlook
          clear hcn
          go_wp2_with fail
          go_roundw
          case rel => exact ⟨k + 1, n, R, T, by omega, by omega, by go_num, hr2, hm2, HU, hb2⟩
          case measure => simp [intOf]; omega
        | false =>
          rw [hcn] at hlook
          have HN : Hid (1000 + ((at_ : Int) - 2248) % 52 ∉ T) := Lib.hid (by simpa using hcn)
          clear hcn
          have HS := Lib.hid (chg_step (n := n + 1) hr2 hb2 hgm hwg hlR HU.out (by rw [HU.out.err.len] at hlR; exact hlR) (by rw [HF.out]; omega) HV.out (by rw [HK.out]; exact HN.out))
          go_wp2_with (refine wpList_ms_set rfl _ _ _ rfl hm2 rfl rfl rfl (by omega) (by omega) (by omega) HN.out ?_; intro w6 hm6 hgr6; obtain ⟨hc6, hf6, HR6⟩ := HS.out w6 (by rw [HK.out]; exact hm6) hgr6; clear hgr6 hm6 hm2 hr2 hb2)
          go_roundw
          case rel => exact ⟨k + 1, n + 1, _, _, by omega, by omega, by go_num, HR6.out.1, HR6.out.2.1, Lib.hid HR6.out.2.2.1, HR6.out.2.2.2⟩
          case measure => simp [intOf]; omega
      · have hK : keyE (at_ : Int) = ((at_ : Int) - 12) % 86 := by unfold keyE; rw [if_neg c4]
        have hlook := hm2.run (((at_ : Int) - 12) % 86) (by omega) (by omega)
        have HK := Lib.hid hK; clear hK
        cases hcn : T.contains (((at_ : Int) - 12) % 86) with
        | true =>
          rw [hcn] at hlook
          clear hcn
          go_wp2_with fail
          go_roundw
          case rel => exact ⟨k + 1, n, R, T, by omega, by omega, by go_num, hr2, hm2, HU, hb2⟩
          case measure => simp [intOf]; omega
        | false =>
          rw [hcn] at hlook
          have HN : Hid (((at_ : Int) - 12) % 86 ∉ T) := Lib.hid (by simpa using hcn)
          clear hcn
          have HS := Lib.hid (chg_step (n := n + 1) hr2 hb2 hgm hwg hlR HU.out (by rw [HU.out.err.len] at hlR; exact hlR) (by rw [HF.out]; omega) HV.out (by rw [HK.out]; exact HN.out))
          go_wp2_with (refine wpList_ms_set rfl _ _ _ rfl hm2 rfl rfl rfl (by omega) (by omega) (by omega) HN.out ?_; intro w6 hm6 hgr6; obtain ⟨hc6, hf6, HR6⟩ := HS.out w6 (by rw [HK.out]; exact hm6) hgr6; clear hgr6 hm6 hm2 hr2 hb2)
          go_roundw
          case rel => exact ⟨k + 1, n + 1, _, _, by omega, by omega, by go_num, HR6.out.1, HR6.out.2.1, Lib.hid HR6.out.2.2.1, HR6.out.2.2.2⟩
          case measure => simp [intOf]; omega
    · have hil := HU.out.err.len
      have hrd := hr.rd (by omega)
      rw [hil] at hrd
      have hcx := run_str (P := Try.prog) Try.underlying43 Try.underlying5 Try.underlying9 hrd
      have HDe := Lib.hid (fun W (hW : RdI W (.slice none 0 0) []) => decode8_any R m (.slice none 0 0) [] W hW (by simp) (by omega))
      have HDd := Lib.hid (fun W e W' (h : Dec8 R m [] W e W') => dec_err HM.out HCG.out HU.out.err h)
      rw [HU.out.num] at HDd
      have HMs := Lib.hid hm
      have HBB := Lib.hid hb
      clear hrd hr hm hb hil
      go_wp2_with fail
      refine (HDe.out _ ⟨by simp, ⟨none, 0, 0, 0, rfl, by simp, fun i hi => by simp at hi⟩, fun i hi => by simp at hi⟩).mono ?_
      intro e w5 hd5
      obtain ⟨rfl, hb5⟩ := HDd.out _ _ _ hd5
      have hm5 := HMs.out.below hb5
      have hlen := hm5.len 3
      have HB5 := Lib.hid (HBB.out.trans (hb5.mono HBB.out.size))
      clear hm5 hb5 hd5
      go_wp2_with fail
      go_ret
      exact ⟨rfl, HB5.out⟩
theorem errors_law (w : World) (s : ByteArray) (hs : s.size ≤ maxLen) (m : Int) (wm : (Lit.int .i64 m).wf = true) (v : Value) (l : List Cg) (h : CameC w v l) : Calls Try.prog 8 #[.string s, .int .i64 m, v] w fun e w' => e = .returned (.bool true) ∧ Below w.heap.size w w' := by
  have hs' : s.data.toList.length ≤ 9223372036854775807 := hs
  rw [str_list s]
  generalize s.data.toList = a at hs'
  obtain ⟨hr, hn⟩ := h
  have hr0 := hr
  obtain ⟨⟨sa, sc, ab, ao, rfl, _, _⟩, _⟩ := hr0
  cases hf : fitB a m with
  | false => exact errors_no w a m sa _ sc hs' hf
  | true =>
    by_cases hl : l.length ≤ 100
    · exact errors_ok w a m _ l hr hs' hl (fit_fst hf).2 (fit_fst hf).1
    · exact errors_many w a m sa _ sc hs' hn (fit_fst hf).2 (fit_fst hf).1 (by omega)
end Go.Proofs.Ytepdcpbgdfjobaa.W8
namespace Go.Proofs.Ytepdcpbgdfjobaa.productcodeErrors
open Go.ChangeShapes Go.WideShapes Go.ChangeAt Go.RowKit
open Go.ChangeMaps (open_string shut_string)
set_option linter.unusedVariables false
theorem own : ownKnob Try.prog.godebug = none := by kernel_rfl
theorem laidOut : laidOutB Try.prog = true := by kernel_rfl

set_option maxRecDepth 100000 in
set_option maxHeartbeats 1000000 in
theorem lifted (os : Os) (started : os.Started) (H : Type) (enc : TypeId × Value → H) :
    ReturnsInHanded {} Try.checked os 8 .any (Rows.productcodeErrorsSpec.pre6 enc Try.prog Try.f8 Rows.productcodeErrorsRow.domain false) (Rows.productcodeErrorsSpec.post enc Try.prog Try.f8 false true false false) := by
  refine returnsInHanded_of_change (C := Try.checked) own started (by kernel_rfl) Try.func8
    (ChangeSpec.witness6 (enc := enc) (C := Try.checked) false ⟨#[], #[.string ByteArray.empty, .int .i64 0, .slice none 0 0], []⟩ 8 (by kernel_rfl) (by kernel_rfl) (by kernel_rfl) (by kernel_rfl)) ?_
  intro W base args ds gs before hval0 hW hcnd _
  have hval : ∀ (j : Nat) t v, Try.f8.params[j]? = some t → args[j]? = some v → Value.okWide Try.prog W .any base t v := hval0
  have hW' := hW
  obtain ⟨p, q, hA0, hV, rfl, hfz, hnd⟩ := hW
  have hA : DataW.TrodAll enc Try.prog W 0 (fun _ => true) true Try.f8.params.toList args.toList ds p := hA0
  rw [Try.params8] at hA hval
  obtain ⟨v0, vs0, d0, ds0, p0, q0, hargs, rfl, rfl, h0, r0⟩ := trodAll_cons hA
  obtain ⟨v1, vs1, d1, ds1, p1, q1, rfl, rfl, rfl, h1, r1⟩ := trodAll_cons r0
  obtain ⟨v2, vs2, d2, ds2, p2, q2, rfl, rfl, rfl, h2, r2⟩ := trodAll_cons r1
  obtain ⟨rfl, rfl, rfl⟩ := trodAll_nil r2
  obtain rfl : args = #[v0, v1, v2] := by cases args; simp_all
  obtain ⟨rfl, rfl⟩ := trodVars_none hV
  have k0 := h0
  have lt0 : ∀ x ∈ p0, x.block < W.heap.size := by obtain ⟨m, hm⟩ := k0; exact DataW.trod_lt m _ _ _ hm
  obtain ⟨a0, rfl, e0, _, w0⟩ := open_string Try.underlying9 (hval 0 9 v0 rfl rfl) h0
  have k1 := h1
  have lt1 : ∀ x ∈ p1, x.block < W.heap.size := by obtain ⟨m, hm⟩ := k1; exact DataW.trod_lt m _ _ _ hm
  obtain ⟨a1, rfl, _, _, w1⟩ := open_int Try.underlying3 (hval 1 3 v1 rfl rfl) h1
  have k2 := h2
  have lt2 : ∀ x ∈ p2, x.block < W.heap.size := by obtain ⟨m, hm⟩ := k2; exact DataW.trod_lt m _ _ _ hm
  obtain ⟨a2, w2⟩ := open_cchanges (hval 2 42 v2 rfl rfl) h2
  refine (W8.errors_law W a0 w0 a1 w1 v2 a2 w2).mono fun e W' ⟨he, bel⟩ => ?_
  subst he
  exact ⟨_, rfl, _, _, _, [], _, [], hW', trodAll_mk1 (shut_bool Try.underlying4 _), (trodAll_cons_mk (Below.trod laidOut (by kernel_rfl) (of_decide_eq_true (by kernel_rfl)) k0 bel lt0) (trodAll_cons_mk (Below.trod laidOut (by kernel_rfl) (of_decide_eq_true (by kernel_rfl)) k1 bel lt1) (trodAll_cons_mk (Below.trod laidOut (by kernel_rfl) (of_decide_eq_true (by kernel_rfl)) k2 bel lt2) trodAll_mk0))), rfl, bel.frame _, fun h => by cases h⟩

theorem over : Rows.productcodeErrorsRow.holds Try.pinned (OpenSpec.ofChange Rows.productcodeErrorsSpec) :=
  OpenClaim.holds_of_wide 8 Try.f8 rfl rfl rfl rfl rfl rfl rfl ⟨rfl, rfl, rfl, rfl, rfl⟩ rfl rfl rfl rfl rfl (by kernel_rfl) Try.func8 (by kernel_rfl)
    (of_decide_eq_true (by kernel_rfl)) (by unfold Func.isWrapper; first | (rw [if_pos (by decide +kernel)]; kernel_rfl) | (rw [if_neg (by decide +kernel)]; exact ⟨rfl, rfl⟩))
    (fun os started H enc _ => lifted os started H enc)

/-- The statement. -/
theorem proved : Rows.ProductcodeErrorsSaid := over
end Go.Proofs.Ytepdcpbgdfjobaa.productcodeErrors
