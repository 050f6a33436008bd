/- The law 'masterdisc/masterdisclaw09.CircScratches' returns true for every input, and leaves its arguments as they were. -/
import Derived.Test.YtkebnmmcogkldaaDm
import Derived.Maps.OwnOps
import Derived.Maps.OwnSet
import Derived.Maps.Views
import Derived.Deep.Cut
import Derived.Test.YtkebnmmcogkldaaRows
import Derived.Test.YtkebnmmcogkldaaOpen
/- Chapter 9: the law CircScratches, what it needs: a map of ints, BinarySearch, frames that are near. -/
namespace Go.Proofs.Ytkebnmmcogkldaa.C9
open Go.RowKit Go.Maps W8
set_option linter.unusedVariables false

theorem lawInt9 : Keyed Try.prog 3 := int_keyed Try.underlying3
theorem zeroInt9 : ∀ w, (zeroValue 3).run Try.prog w = .ok (.int .i64 0) w := fun _ => by kernel_rfl
theorem wf9 {x : Int} (h1 : -9223372036854775808 ≤ x) (h2 : x ≤ 9223372036854775807) : (Lit.int .i64 x).wf = true := by simp [Lit.wf, IntKind.min, IntKind.max, IntKind.signed, IntKind.bits]; omega
/-- block 'b' is a map of at most 'n' entries; at the int 'x' it reads 'f x' -/
def MapN (w : World) (b n : Nat) (f : Int → Int) : Prop :=
  ∃ D : DataW Unit, w.ownsMap Try.prog 3 (plainElem Try.prog 3) b n D ∧ ∀ x, -9223372036854775808 ≤ x → x ≤ 9223372036854775807 → D.atKey (.int .i64 x) (.lit (.int .i64 0)) = .lit (.int .i64 (f x))
theorem MapN.made (w : World) : MapN (w.alloc (.map #[] 0)) w.heap.size 0 (fun _ => 0) := ⟨.map [], World.ownsMap_made _ _ _ _, fun x _ _ => rfl⟩
theorem MapN.lt {w : World} {b n : Nat} {f : Int → Int} (h : MapN w b n f) : b < w.heap.size := by
  obtain ⟨D, h, _⟩ := h; exact h.lt
theorem MapN.kept {w w' : World} {b n : Nat} {f : Int → Int} (h : MapN w b n f) (hk : w'.heap[b]? = w.heap[b]?) : MapN w' b n f := by
  obtain ⟨D, ⟨es, clock, hb, F, hs, hD⟩, hf⟩ := h
  exact ⟨D, ⟨es, clock, hk.trans hb, F, hs, hD⟩, hf⟩
theorem MapN.below {w w' : World} {b n : Nat} {f : Int → Int} (h : MapN w b n f) (hb : Below w.heap.size w w') : MapN w' b n f := h.kept (hb.block b h.lt)
theorem MapN.run {w : World} {b n : Nat} {f : Int → Int} (h : MapN w b n f) (x : Int) (h1 : -9223372036854775808 ≤ x) (h2 : x ≤ 9223372036854775807) :
    (Instr.lookup 56 (.map (some b)) (.int .i64 x) false).run Try.prog w = .ok (.int .i64 (f x)) w := by
  obtain ⟨D, hown, hf⟩ := h
  obtain ⟨v, ps, hrun, hv⟩ := hown.lookup lawInt9 Try.underlying56 (zeroInt9 w) (plainElem_int Try.underlying3 (a := 0) (by decide)) (keyOf_int_mk Try.underlying3 (wf9 h1 h2))
  obtain ⟨c, rfl, hc, _⟩ := plainElem_int_inv Try.underlying3 hv
  simp only [Prod.mk.injEq] at hc
  rw [hf x h1 h2] at hc
  have : c = f x := by simpa using hc.1.symm
  rw [hrun, this]
def setN9 (f : Int → Int) (x v : Int) : Int → Int := fun y => if y = x then v else f y
/-- 'm[x] = v' -/
theorem wpList_setN9 {w : World} {ops : Array Oper} {rest : List Oper} {o : Oper} {a : Act} {Q : Exit → Act → World → Prop}
    (hg : o.guard = none) (m x v : Operand) (hop : o.op = Op.mapUpdate 56 m x v) {b n : Nat} {f : Int → Int} (hown : MapN w b n f) (hm : a.eval m = .map (some b)) {X : Int} (hx : a.eval x = .int .i64 X) {V : Int} (hv : a.eval v = .int .i64 V)
    (h1 : -9223372036854775808 ≤ X) (h2 : X ≤ 9223372036854775807) (h3 : -9223372036854775808 ≤ V) (h4 : V ≤ 9223372036854775807) (hn : n < 1000000)
    (hK : ∀ w', MapN w' b (n + 1) (setN9 f X V) → w.grownBy w' (some b) → wpList Try.prog ops Q rest (a.put o.dst undef) w') : wpList Try.prog ops Q (o :: rest) a w := by
  obtain ⟨D, hown, hf⟩ := hown
  refine wpList_mapUpdate_own _ hg m x v 56 hop 3 3 lawInt9 Try.underlying56 _ b n D hm hown (by unfold maxLen; omega) _ _ _ hx hv (keyOf_int_mk Try.underlying3 (wf9 h1 h2)) _ [] (plainElem_int Try.underlying3 (wf9 h3 h4)) ?_
  intro w' ho hgr
  refine hK w' ⟨_, ho, fun y g1 g2 => ?_⟩ hgr
  unfold setN9
  by_cases e : y = X
  · subst e
    rw [if_pos rfl, atKey_put_same hown.isMap]
    trivial
  · rw [if_neg e, atKey_put_other (by simpa using e), hf y g1 g2]
set_option maxRecDepth 100000 in
set_option maxHeartbeats 1000000 in
theorem bsearch9_nil (a : Option Addr) (c : Nat) (x : Int) (w : World) : Calls Try.prog 29 #[.slice a 0 c, .int .i64 x] w fun e w' => (∃ p : Int, e = .returned (.tuple #[.int .i64 p, .bool false])) ∧ w = w' := by
  go_enter Try.func29, Try.ntmps29
  go_wp2_with fail
  go_loopw [7, 8] (fun vi vj wr => vi = .int .i64 0 ∧ vj = .int .i64 0 ∧ wr = w) (fun _ _ _ => 0)
  case atStart => exact ⟨rfl, rfl, rfl⟩
  case round =>
    obtain ⟨rfl, rfl, rfl⟩ := hrel
    have hd0 : decide ((0 : Int) < 0) = false := by decide
    go_wp2_with fail
    go_ret2
    exact ⟨⟨0, rfl⟩, rfl⟩
theorem bsearch9 (v : Value) (l : List Int) (x : Int) (w : World) (hv : RdI w v l) (hl : l.length ≤ 100000) (hs : l.Pairwise (· ≤ ·)) :
    Calls Try.prog 29 #[v, .int .i64 x] w fun e w' => (∃ p : Int, e = .returned (.tuple #[.int .i64 p, .bool (l.contains x)])) ∧ Below w.heap.size w w' := by
  obtain ⟨h0, ⟨a, cap, b, off, rfl, hcap, hcell⟩, hrng⟩ := hv
  rcases Nat.eq_zero_or_pos l.length with hz | hpos
  · have e : l = [] := List.length_eq_zero_iff.1 hz
    subst e
    refine (bsearch9_nil a cap x w).mono ?_
    rintro e w' ⟨⟨p, rfl⟩, rfl⟩
    exact ⟨⟨p, rfl⟩, Below.refl _ _⟩
  · obtain ⟨rfl, _⟩ := hcell 0 hpos
    refine (Try.slices_BinarySearch_int b off l.length cap l x w (Nat.le_refl _) (by omega) (fun j hj => (hcell j hj).2) (by rw [List.take_length]; exact hs)).mono ?_
    rintro e w' ⟨rfl, q, rfl⟩
    rw [List.take_length]
    exact ⟨⟨_, rfl⟩, Below.drewN (Below.refl _ _) q⟩
/-- received frames, and how many symbols of each may be changed -/
def NearC (d : List UInt8) (n : Nat) (l : List Sc) (R : List (List UInt8)) (f : Int → Int) : Prop :=
  R.length = n + 108 ∧ (∀ g : Nat, g < n + 108 → if gon l g = true then frA R g = [] else (frA R g).length = 32 ∧ (G.othN (frA R g) (frm d n g) [] 32 : Int) ≤ f g) ∧ ∀ x, 0 ≤ f x ∧ f x ≤ 2
theorem NearC.start (d : List UInt8) (n : Nat) (l : List Sc) : NearC d n l (scrF (frms d n (n + 108)) l) (fun _ => 0) := by
  refine ⟨by rw [scrF_length, frms_length], fun g hg => ?_, fun x => by show (0 : Int) ≤ 0 ∧ (0 : Int) ≤ 2; omega⟩
  rw [frA_scrF _ _ (by rw [frms_length]; exact hg), frA_frms _ _ _ _ hg]
  split
  · rfl
  · exact ⟨frm_length _ _ _, by rw [oth_self]; show ((0 : Nat) : Int) ≤ 0; omega⟩
theorem NearC.near {d : List UInt8} {n : Nat} {l : List Sc} {R : List (List UInt8)} {f : Int → Int} (h : NearC d n l R f) : Near2 d n l R := by
  refine ⟨h.1, fun g hg => ?_⟩
  have h1 := h.2.1 g hg
  have h2 := h.2.2 g
  split at h1
  · next hc => rw [if_pos hc]; exact h1
  · next hc => rw [if_neg hc]; exact ⟨h1.1, by omega⟩
theorem oth_set (x c : List UInt8) (a : Nat) (y : UInt8) (l : List Int) : ∀ k, G.othN (x.set a y) c l k ≤ G.othN x c l k + if a < k then 1 else 0
  | 0 => by simp [G.othN]
  | k + 1 => by
    have ih := oth_set x c a y l k
    rw [G.othN, G.othN]
    by_cases h : a = k
    · subst h
      rw [if_neg (by omega)] at ih
      rw [if_pos (by omega : a < a + 1)]
      have : (if G.ix (x.set a y) a = G.ix c a then 0 else if G.cont l (a : Int) = true then 0 else 1) ≤ 1 := by split <;> (try split) <;> omega
      omega
    · have e : G.ix (x.set a y) k = G.ix x k := by simp [G.ix, List.getElem?_set_ne h]
      rw [e]
      generalize (if G.ix x k = G.ix c k then 0 else if G.cont l (k : Int) = true then 0 else 1) = t
      by_cases h2 : a < k
      · rw [if_pos h2] at ih
        rw [if_pos (by omega)]; omega
      · rw [if_neg h2] at ih
        rw [if_neg (by omega)]; omega
theorem frA_set (R : List (List UInt8)) (g h : Nat) (b : List UInt8) (hg : g < R.length) : frA (R.set g b) h = if h = g then b else frA R h := by
  unfold frA
  by_cases e : h = g
  · subst e; rw [if_pos rfl, List.getElem?_set_self hg]; rfl
  · rw [if_neg e, List.getElem?_set_ne (Ne.symm e)]
theorem NearC.step {d : List UInt8} {n : Nat} {l : List Sc} {R : List (List UInt8)} {f : Int → Int} (h : NearC d n l R f) {g a : Nat} (hg : g < n + 108) (h32 : (frA R g).length = 32) (h2 : f g ≠ 2) (y : UInt8) :
    NearC d n l (R.set g ((frA R g).set a y)) (setN9 f g (f g + 1)) := by
  refine ⟨by rw [List.length_set]; exact h.1, fun k hk => ?_, fun x => ?_⟩
  · have h1 := h.2.1 k hk
    rw [frA_set _ _ _ _ (by rw [h.1]; exact hg)]
    by_cases e : k = g
    · subst e
      rw [if_pos rfl]
      by_cases hc : gon l k = true
      · rw [if_pos hc] at h1
        rw [h1] at h32
        simp at h32
      · rw [if_neg hc] at h1 ⊢
        have h3 := oth_set (frA R k) (frm d n k) a y [] 32
        refine ⟨by rw [List.length_set]; exact h1.1, ?_⟩
        have e2 : setN9 f k (f k + 1) k = f k + 1 := by unfold setN9; rw [if_pos rfl]
        rw [e2]
        split at h3 <;> omega
    · rw [if_neg e]
      have e2 : setN9 f g (f g + 1) k = f k := by unfold setN9; rw [if_neg (by omega)]
      rw [e2]
      exact h1
  · have h1 := h.2.2 x
    have h3 := h.2.2 g
    unfold setN9
    split
    · next e => omega
    · exact h1
end Go.Proofs.Ytkebnmmcogkldaa.C9
/- Chapter 9: the law CircScratches. -/
namespace Go.Proofs.Ytkebnmmcogkldaa.C9
open Go.ChangeShapes Go.WideShapes Go.RowKit Go.Deep W8
set_option linter.unusedVariables false

section
variable {H : Type} {enc : TypeId × Value → H} {w : World} {base b0 : Nat} {sp : Nat → Bool} {held : Bool}
theorem Try.cellsCh9 : Try.prog.cellsOf 58 = 2 := by kernel_rfl
set_option maxRecDepth 100000 in
theorem chg_cells (n : Nat) (cs : List Value) (x : DataW H × List MemPlace) (h : DataW.trod enc Try.prog w base sp held n 58 cs = some x) : ∃ t : Sc, cs = scc t ∧ Wf t := by
  obtain ⟨ys, n', _, _, hlen, hyl, hf⟩ := DataW.trod_struct Try.underlying58 h
  rw [Try.cellsCh9] at hlen
  match cs, hlen with
  | [c0, c1], _ =>
    have g0 : DataW.trod enc Try.prog w base sp held n' 3 (([c0, c1].drop 0).take (Try.prog.cellsOf 3)) = ys[0]? := hf 0 _ rfl
    have g1 : DataW.trod enc Try.prog w base sp held n' 3 (([c0, c1].drop 1).take (Try.prog.cellsOf 3)) = ys[1]? := hf 1 _ rfl
    rw [Try.cellsI9] at g0 g1
    simp only [List.drop, List.take] at g0 g1
    obtain ⟨a0, e0, w0⟩ := leaf_int Try.underlying3 g0 (some_at hyl (by decide))
    obtain ⟨a1, e1, w1⟩ := leaf_int Try.underlying3 g1 (some_at hyl (by decide))
    simp only [List.cons.injEq, and_true] at e0 e1
    subst e0 e1
    exact ⟨⟨a0, a1⟩, rfl, w0, w1⟩
set_option maxRecDepth 100000 in
theorem open_cchg9 {v : Value} {d : DataW H} {ps : List MemPlace} {r : Reach} (hval : Value.okWide Try.prog w r b0 55 v) (hd : DataW.Trod enc Try.prog w base sp held 55 v d ps) : ∃ l, CameSc w v l := by
  obtain ⟨a, len, cap, rfl⟩ := okWide_slice Try.underlying55 hval
  obtain ⟨fuel, hf⟩ := hd
  obtain ⟨l, h1, h2, h3⟩ := open_rdS scz scc Wf Try.underlying55 Try.cellsCh9 (by omega) (fun n cs x h => chg_cells n cs x h) (by simpa [Value.cells] using hf)
  exact ⟨l, h1, h3, h2⟩
end
theorem Try.sizeCh9 : (Try.prog.info? 58).map (·.size) = some 2 := by kernel_rfl
theorem lostR_nat {n : Nat} (l : List Sc) (h1 : 1 ≤ n) (h2 : n ≤ 401408) : lostR (n : Int) l = if fitA (n + 108) l = false then ([], 1) else (lostN l n, 0) := by
  unfold lostR
  rw [if_neg (by omega), Int.toNat_natCast]
/-- Go's division by 32 -/
theorem td32 (x : Int) (h1 : -9223372036854775808 ≤ x) (h2 : x ≤ 9223372036854775807) : (x < 0 → x.tdiv 32 < 0 ∨ (x.tdiv 32 = 0 ∧ x.tmod 32 < 0)) ∧ (0 ≤ x → 0 ≤ x.tdiv 32 ∧ 0 ≤ x.tmod 32 ∧ x.tmod 32 < 32) ∧ -9223372036854775808 ≤ x.tdiv 32 ∧ x.tdiv 32 ≤ 9223372036854775807 := by
  have e1 := Int.mul_tdiv_add_tmod x 32
  have e3 := Int.lt_tmod_of_pos x (b := 32) (by omega)
  have e4 := Int.tmod_lt_of_pos x (b := 32) (by omega)
  have e2 : x < 0 → x.tmod 32 ≤ 0 := fun h => by
    have := Int.tmod_nonneg (a := -x) 32 (by omega)
    rw [Int.neg_tmod] at this
    omega
  have e5 : 0 ≤ x → 0 ≤ x.tmod 32 := fun h => Int.tmod_nonneg 32 h
  generalize x.tdiv 32 = Q at *
  generalize x.tmod 32 = A at *
  refine ⟨fun h => ?_, fun h => ?_, ?_⟩
  · have := e2 h; omega
  · have := e5 h; omega
  · by_cases h : x < 0
    · have := e2 h; omega
    · have := e5 (by omega); omega
/-- a byte of any int -/
theorem byte9 (v : Int) : ∃ c : UInt8, IntKind.u8.wrap v = (c.toNat : Int) := by
  have e : IntKind.u8.wrap v = v % 256 := by simp [IntKind.wrap, IntKind.signed, IntKind.bits]
  refine ⟨UInt8.ofNat (v % 256).toNat, ?_⟩
  rw [e, G.toNat_of (by omega)]
  omega
/-- a store elsewhere -/
theorem own_set9 {w : World} {b e sz n : Nat} {v : Value} {xs : List Value} (h : w.ownsRow b e sz v n xs) {p : Addr} (hp : ∀ k, v.ownBlock = some k → k ≠ p.block) (u : Value) : (w.setCell p u).ownsRow b e sz v n xs := by
  refine ⟨h.1, ?_⟩
  rcases h.2 with h | ⟨g, cap, cur, rfl, hb, hh, rest⟩
  · exact .inl h
  · exact .inr ⟨g, cap, cur, rfl, hb, (Below.heap_setCell w p u g (hp g rfl)).trans hh, rest⟩
set_option maxRecDepth 100000 in
set_option maxHeartbeats 4000000 in
theorem scratches_skip (w : World) (d : List UInt8) (hs : d.length ≤ 9223372036854775807) (v1 : Value) (l : List Sc) (h1 : CameSc w v1 l) (v2 : Value) (cs : List Sc) (h2 : CameSc w v2 cs) (hno : 600 < d.length ∨ 20 < l.length ∨ 40 < cs.length) :
    Calls Try.prog 9 #[.string (str d), v1, v2] w fun e w' => e = .returned (.bool true) ∧ Below w.heap.size w w' := by
  obtain ⟨a1, c1, rfl, _⟩ := RdD.form h1.1
  obtain ⟨a2, c2, rfl, _⟩ := RdD.form h2.1
  have hl1 := h1.2.2
  have hl2 := h2.2.2
  have hsz := str_size d
  clear h1 h2
  generalize d.length = m at *
  have hcase : 600 < m ∨ (¬ 600 < m ∧ 20 < l.length) ∨ (¬ 600 < m ∧ ¬ 20 < l.length ∧ 40 < cs.length) := by omega
  clear hno
  rcases hcase with g1 | ⟨g1, g2⟩ | ⟨g1, g2, g3⟩
  all_goals
    go_enter Try.func9, Try.ntmps9
    go_wp2_with fail
    refine (awake9_any _).mono ?_
    rintro e w1 ⟨rfl, hb1⟩
    go_wp2_with fail
    go_ret
    exact ⟨rfl, hb1⟩
set_option maxRecDepth 100000 in
set_option maxHeartbeats 4000000 in
theorem scratches_noenc (w : World) (d : List UInt8) (hs : d.length ≤ 600) (hbad : d.length = 0 ∨ d.length % 24 ≠ 0) (v1 : Value) (l : List Sc) (h1 : CameSc w v1 l) (v2 : Value) (cs : List Sc) (h2 : CameSc w v2 cs) (hl1 : l.length ≤ 20) (hl2 : cs.length ≤ 40) :
    Calls Try.prog 9 #[.string (str d), v1, v2] w fun e w' => e = .returned (.bool true) ∧ Below w.heap.size w w' := by
  obtain ⟨a1, c1, rfl, _⟩ := RdD.form h1.1
  obtain ⟨a2, c2, rfl, _⟩ := RdD.form h2.1
  have hsz := str_size d
  have HE1 := Lib.hid (fun W => pencC_any d W (by omega))
  rw [show encR d = ([], 1) from by unfold encR; rw [if_pos hbad]] at HE1
  clear h1 h2 hbad
  generalize d.length = m at *
  go_enter Try.func9, Try.ntmps9
  go_wp2_with fail
  refine (awake9_any _).mono ?_
  rintro e w1 ⟨rfl, hb1⟩
  go_wp2_with fail
  refine (HE1.out _).mono ?_
  intro e w2 hq
  obtain ⟨v2, rfl, hr2, hb2⟩ := hq.rd
  clear hq
  obtain ⟨a2, c2, rfl, _⟩ := RdD.form hr2
  have hbw := hb1.trans (hb2.mono hb1.size)
  clear hb1 hb2 hr2
  simp only [List.length_nil]
  go_wp2_with fail
  go_ret
  exact ⟨rfl, hbw⟩
set_option maxRecDepth 100000 in
set_option maxHeartbeats 4000000 in
theorem scratches_nofit (w : World) (d : List UInt8) (n : Nat) (hd : d.length = 24 * n) (n1 : 1 ≤ n) (n2 : n ≤ 25) (v1 : Value) (l : List Sc) (h1 : CameSc w v1 l) (v2 : Value) (cs : List Sc) (h2 : CameSc w v2 cs) (hl1 : l.length ≤ 20) (hl2 : cs.length ≤ 40) (hfit : fitA (n + 108) l = false) :
    Calls Try.prog 9 #[.string (str d), v1, v2] w fun e w' => e = .returned (.bool true) ∧ Below w.heap.size w w' := by
  have hsz := str_size d
  rw [hd] at hsz
  have HE1 := Lib.hid (fun W => pencC_any d W (by omega))
  rw [show encR d = (frms d n (n + 108), 0) from by unfold encR; rw [if_neg (by omega), if_neg (by omega), show d.length / 24 = n from by omega]] at HE1
  have HSC := Lib.hid (fun W va hW hc => pscratch_any va (frms d n (n + 108)) v1 l W hW (by rw [frms_length]; omega) hc)
  rw [show scrR (frms d n (n + 108)) l = ([], 1) from by unfold scrR; rw [frms_length, hfit, if_pos rfl]] at HSC
  have HLO := Lib.hid (fun W hc => plost_any n v1 l W hc)
  rw [lostR_nat l n1 (by omega), hfit, if_pos rfl] at HLO
  have HC := Lib.hid h1
  obtain ⟨a1, c1, rfl, _⟩ := RdD.form h1.1
  obtain ⟨a2, c2, rfl, _⟩ := RdD.form h2.1
  generalize frms d n (n + 108) = F at *
  clear h1 h2 hd hfit
  generalize str d = S at *
  go_enter Try.func9, Try.ntmps9
  go_wp2_with fail
  refine (awake9_any _).mono ?_
  rintro e w1 ⟨rfl, hb1⟩
  go_wp2_with fail
  refine (HE1.out _).mono ?_
  intro e w2 hq
  obtain ⟨v2, rfl, hr2, hb2⟩ := hq.rd
  clear hq
  obtain ⟨a3, c3, rfl, _⟩ := RdD.form hr2
  have hbw := hb1.trans (hb2.mono hb1.size)
  have HX := Lib.hid (HSC.out w2 _ hr2 (HC.out.keep hbw))
  clear hb1 hb2 hr2
  simp only
  go_wp2_with fail
  refine HX.out.mono ?_
  intro e w3 hq
  obtain ⟨v3, rfl, hr3, hb3⟩ := hq.rd
  clear hq
  obtain ⟨a4, c4, rfl, _⟩ := RdD.form hr3
  have hbw3 := hbw.trans (hb3.mono hbw.size)
  have HY := Lib.hid (HLO.out w3 (HC.out.keep hbw3))
  clear hb3 hr3 hbw
  simp only [List.length_nil]
  go_wp2_with fail
  refine HY.out.mono ?_
  rintro e w4 ⟨v4, rfl, ho4, hb4⟩
  obtain ⟨a5, c5, rfl⟩ := ownD_form ho4
  have hbw4 := hbw3.trans (hb4.mono hbw3.size)
  simp only [List.length_nil]
  clear hb4 ho4 hbw3
  go_wp2_with fail
  go_ret
  exact ⟨rfl, hbw4⟩
end Go.Proofs.Ytkebnmmcogkldaa.C9
/- Chapter 9: the law CircScratches, frames that can be scratched. -/
namespace Go.Proofs.Ytkebnmmcogkldaa.C9
open Go.ChangeShapes Go.WideShapes Go.RowKit Go.Deep W8
set_option linter.unusedVariables false

set_option maxRecDepth 100000 in
set_option maxHeartbeats 16000000 in
theorem scratches_ok (w : World) (d : List UInt8) (n : Nat) (hd : d.length = 24 * n) (n1 : 1 ≤ n) (n2 : n ≤ 25) (v1 : Value) (l : List Sc) (h1 : CameSc w v1 l) (v2 : Value) (cs : List Sc) (h2 : CameSc w v2 cs) (hl1 : l.length ≤ 20) (hl2 : cs.length ≤ 40) (hfit : fitA (n + 108) l = true) :
    Calls Try.prog 9 #[.string (str d), v1, v2] w fun e w' => e = .returned (.bool true) ∧ Below w.heap.size w w' := by
  have hsz := str_size d
  rw [hd] at hsz
  have HE1 := Lib.hid (fun W => pencC_any d W (by omega))
  rw [show encR d = (frms d n (n + 108), 0) from by unfold encR; rw [if_neg (by omega), if_neg (by omega), show d.length / 24 = n from by omega]] at HE1
  have HSC := Lib.hid (fun W va hW hc => pscratch_any va (frms d n (n + 108)) v1 l W hW (by rw [frms_length]; omega) hc)
  rw [show scrR (frms d n (n + 108)) l = (scrF (frms d n (n + 108)) l, 0) from by unfold scrR; rw [frms_length, hfit, if_neg (by decide)]] at HSC
  have HLO := Lib.hid (fun W hc => plost_any n v1 l W hc)
  rw [lostR_nat l n1 (by omega), hfit, if_neg (by decide)] at HLO
  have HNS := Lib.hid (NearC.start d n l)
  have HFL := Lib.hid (scrF_length (frms d n (n + 108)) l)
  rw [frms_length] at HFL
  have HDR := Lib.hid (fun R (h : Near2 d n l R) => decR_near n1 (by omega) hd h)
  have HDC := Lib.hid (fun W va R hW (hR : R.length = n + 108) => pdecC_any va R W hW (by omega))
  have HC := Lib.hid h1
  have HC2 := Lib.hid h2
  have HD := Lib.hid hd
  have HLL := Lib.hid (lostN_length l n)
  have HLB := Lib.hid (lostN_bd l n)
  have HLS := Lib.hid (lostN_sorted l n)
  obtain ⟨a1, c1, rfl, _⟩ := RdD.form h1.1
  obtain ⟨a2, c2, rfl, _⟩ := RdD.form h2.1
  obtain ⟨b0, off, hcell⟩ := RdD.at h2.1
  have HCE := Lib.hid hcell
  have HW := Lib.hid h2.2.1
  generalize frms d n (n + 108) = F at *
  generalize scrF F l = R0 at *
  clear h1 h2 hd hfit hcell
  have hmm := @run_makeMap Try.prog
  go_enter Try.func9, Try.ntmps9
  go_wp2_with fail
  refine (awake9_any _).mono ?_
  rintro e w1 ⟨rfl, hb1⟩
  go_wp2_with fail
  refine (HE1.out _).mono ?_
  intro e w2 hq
  obtain ⟨v2, rfl, hr2, hb2⟩ := hq.rd
  clear hq
  obtain ⟨a3, c3, rfl, _⟩ := RdD.form hr2
  have hbw := hb1.trans (hb2.mono hb1.size)
  have HX := Lib.hid (HSC.out w2 _ hr2 (HC.out.keep hbw))
  clear hb1 hb2 hr2
  simp only
  go_wp2_with fail
  refine HX.out.mono ?_
  rintro e w3 ⟨v3, rfl, ho3, hb3⟩
  obtain ⟨a4, c4, rfl⟩ := ownD_form ho3
  have hbw3 := hbw.trans (hb3.mono hbw.size)
  have HY := Lib.hid (HLO.out w3 (HC.out.keep hbw3))
  have HO3 := Lib.hid (own_mono ho3 hbw.size)
  clear hb3 ho3 hbw
  simp only
  go_wp2_with fail
  refine HY.out.mono ?_
  rintro e w4 ⟨v4, rfl, ho4, hb4⟩
  obtain ⟨a5, c5, rfl⟩ := ownD_form ho4
  have hbw4 := hbw3.trans (hb4.mono hbw3.size)
  have ho3 := ownD_keep HO3.out hb4
  simp only at ho3 ho4 ⊢
  have hnx : ∀ q, (Value.slice a4 R0.length c4).ownBlock = some q → q < w4.heap.size := fun q hq => (ho3.lt q hq).2
  have hny : ∀ q, (Value.slice a5 (lostN l n).length c5).ownBlock = some q → q < w4.heap.size := fun q hq => (ho4.lt q hq).2
  have hA := (Below.refl w4.heap.size w4).alloc (Nat.le_refl _) (.map #[] 0)
  have hm5 := MapN.made w4
  have ho5 := ownD_keep ho3 hA
  have hl5 := own_mono (ownD_keep ho4 hA) hbw3.size
  have hbw5 := hbw4.alloc hbw4.size (.map #[] 0)
  obtain ⟨gm, hgm⟩ : ∃ gm, gm = w4.heap.size := ⟨_, rfl⟩
  rw [← hgm] at hm5
  rw [HFL.out] at ho5 hnx ⊢
  obtain ⟨ga, hga⟩ : ∃ ga, a4 = some ⟨ga, 0, none⟩ := by
    obtain ⟨g, c', e, _, _⟩ := ownD_addr ho5 (by omega)
    simp only [Value.slice.injEq] at e
    exact ⟨g, e.1⟩
  have hga1 : ga < gm := by have := hnx ga (by rw [hga]; rfl); omega
  have hga2 : w.heap.size ≤ ga := (ho5.lt ga (by rw [hga]; rfl)).1
  have HNY : Hid (∀ q, (Value.slice a5 (lostN l n).length c5).ownBlock = some q → q < gm) := Lib.hid fun q hq => by have := hny q hq; omega
  have HGA := Lib.hid hga
  obtain ⟨LL, hLL⟩ : ∃ LL, LL = lostN l n := ⟨_, rfl⟩
  rw [← hLL] at HNY hl5 HDR HLL HLB HLS ⊢
  have HM5 := Lib.hid hm5
  clear hnx hny ho3 ho4 hb4 hbw3 hbw4 HO3 HX HY HSC HLO HE1 hga hA hm5 hLL
  have HGM := Lib.hid hgm
  obtain ⟨N, hN⟩ : ∃ N, N = n + 108 := ⟨_, rfl⟩
  rw [← hN] at ho5 ⊢
  have hN1 : n + 108 ≤ N := by omega
  have hN2 : N ≤ n + 108 := by omega
  have HO5 := Lib.hid ho5
  have HL5 := Lib.hid hl5
  have HB5 := Lib.hid hbw5
  clear hgm hN ho5 hl5 hbw5
  go_wp2_with fail
  have ho5 := HO5.out
  have hl5 := HL5.out
  have hbw5 := HB5.out
  have hgm := HGM.out
  clear HO5 HL5 HB5 HGM
  generalize w4.alloc (.map #[] 0) = w5 at *
  simp only [← hgm]
  clear hgm
  go_loopw [80] (fun vk wr => ∃ (k : Nat) (R : List (List UInt8)) (f : Int → Int), k ≤ cs.length ∧ vk = .int .i64 k ∧ NearC d n l R f ∧ wr.ownsRow w.heap.size 9 1 (.slice a4 N c4) N (flD ssD R) ∧ MapN wr gm k f ∧ wr.ownsRow w.heap.size 3 1 (.slice a5 LL.length c5) LL.length (is LL) ∧ Below w.heap.size w wr) (fun vk _ => cs.length - (intOf vk).toNat)
  case atStart => exact ⟨0, R0, fun _ => 0, by omega, rfl, HNS.out, ho5, HM5.out, hl5, hbw5⟩
  case round =>
    clear ho5 hl5 hbw5 HM5
    obtain ⟨k, R, f, hk, rfl, hnear, ho, hm, hlo, hb⟩ := hrel
    obtain ⟨wo, rfl⟩ : ∃ wo : World, wo = wr := ⟨_, rfl⟩
    have hbs := hb.size
    have hml := hm.lt
    by_cases hlt : k < cs.length
    · obtain ⟨ha, hrange⟩ := HCE.out k hlt
      have hw9 := HW.out k hlt
      change w.rangeAt b0 (off + k * 2) (scc (scA cs k)) at hrange
      generalize scA cs k = x at *
      obtain ⟨xo, xx⟩ := x
      have hrg : wo.rangeAt b0 (off + k * 2) (scc ⟨xo, xx⟩) := fun j u hu => (hb.cell (p := ⟨b0, off + k * 2 + j, none⟩) (World.block_lt_of_cell? w _ (hrange j u hu))).trans (hrange j u hu)
      clear hrange
      obtain ⟨hc0, hc1⟩ := rd2 hrg
      clear hrg
      simp only at hc0 hc1
      have hix := fun w' => run_idxS Try.underlying55 Try.sizeCh9 (cap := c2) ha hlt _ rfl w'
      have Ha := Lib.hid ha; clear ha
      obtain ⟨⟨f1, f2⟩, f3, f4⟩ := hw9
      simp only at f1 f2 f3 f4
      have hA := (Below.refl wo.heap.size wo).alloc (Nat.le_refl _) (.cells #[.int .i64 xo, .int .i64 xx] 58)
      have hsb := Bx.new wo 58 [.int .i64 xo, .int .i64 xx]
      have ho6 := ownD_keep ho hA
      have hm6 := hm.below hA
      have hlo6 := ownD_keep hlo hA
      have hb6 := hb.trans (hA.mono hbs)
      have HO6 := Lib.hid ho6
      have HM6 := Lib.hid hm6
      have HL6 := Lib.hid hlo6
      have HN := Lib.hid hnear
      clear hA ho hm hlo ho6 hm6 hlo6 hnear hb
      obtain ⟨by_, hby⟩ := byte9 xx
      go_upto_region 16 with (fail)
      go_quiet (fail)
      have hb7 := Below.drewN hb6 nq
      have HO7 := Lib.hid (ownD_keep HO6.out (Below.drewN (Below.refl _ _) nq))
      have HM7 := Lib.hid (HM6.out.below (Below.drewN (Below.refl _ _) nq))
      have HL7 := Lib.hid (ownD_keep HL6.out (Below.drewN (Below.refl _ _) nq))
      clear HO6 HM6 HL6 hb6 hsb
      generalize ((wo.alloc (.cells #[.int .i64 xo, .int .i64 xx] 58)).drewN nq) = w6 at *
      have hs6 := hb7.size
      obtain ⟨Q, hQ⟩ : ∃ Q, Q = xo.tdiv 32 := ⟨_, rfl⟩
      obtain ⟨A, hA⟩ : ∃ A, A = xo.tmod 32 := ⟨_, rfl⟩
      obtain ⟨hneg, hpos, hQb1, hQb2⟩ := td32 xo f1 f2
      rw [← hQ] at hneg hpos hQb1 hQb2
      rw [← hA] at hneg hpos
      try rw [← hQ]
      try rw [← hA]
      try rw [hby]
      clear hQ hA hby hc0 hc1
      have HNC := HN.out
      have hRl : R.length = N := by rw [HNC.1]; omega
      have hcnt := HNC.2.2 Q
      have HST := Lib.hid (fun (g : Nat) (a : Nat) (y : UInt8) (hg : g < N) (h32 : (frA R g).length = 32) (hc : f g ≠ 2) => HNC.step (by omega : g < n + 108) h32 hc y (a := a))
      have HRL := Lib.hid hRl
      have hrunM := HM7.out.run Q hQb1 hQb2
      clear HNC hRl
      have HCON := Lib.hid (show MapN w6 gm (k + 1) f from (by
        obtain ⟨D, ⟨es, clock, hb, F', hs, hD⟩, hf⟩ := HM7.out
        exact ⟨D, ⟨es, clock, hb, F', by omega, hD⟩, hf⟩))
      by_cases hQ0 : Q < 0
      · have e1 : decide (Q < 0) = true := decide_eq_true hQ0
        clear hneg hpos hrunM
        go_wp2_with fail
        go_roundw
        case rel => exact ⟨k + 1, R, f, by omega, by go_num, HN.out, HO7.out, HCON.out, HL7.out, hb7⟩
        case measure => simp [intOf]; omega
      have e1 : decide (Q < 0) = false := decide_eq_false hQ0
      by_cases hx0 : xo < 0
      · have e2 : A < 0 := by rcases hneg hx0 with h | h <;> omega
        have e3 : Q = 0 := by rcases hneg hx0 with h | h <;> omega
        subst e3
        have e4 : decide (A < 0) = true := decide_eq_true e2
        have e5 : ¬ (N : Int) ≤ 0 := by omega
        clear hneg hpos hrunM
        go_wp2_with fail
        go_roundw
        case rel => exact ⟨k + 1, R, f, by omega, by go_num, HN.out, HO7.out, HCON.out, HL7.out, hb7⟩
        case measure => simp [intOf]; omega
      obtain ⟨p1, p2, p3⟩ := hpos (by omega)
      have e4 : decide (A < 0) = false := decide_eq_false (by omega)
      obtain ⟨g, rfl⟩ : ∃ g : Nat, Q = (g : Int) := ⟨Q.toNat, by omega⟩
      obtain ⟨at_, rfl⟩ : ∃ at_ : Nat, A = (at_ : Int) := ⟨A.toNat, by omega⟩
      clear hneg hpos
      by_cases hgN : g < N
      · have hgN' : (g : Int) < (N : Int) := by omega
        have e5 : ¬ (N : Int) ≤ (g : Int) := by omega
        have hrl2 : g < R.length := by rw [HRL.out]; exact hgN
        have ho7 := HO7.out
        rw [HGA.out] at ho7
        have hcl : w6.cell? ⟨ga, g, none⟩ = some (.string (str (frA R g))) := by
          have e : frA R g = atD [] R g := rfl
          rw [e]
          have := (ownD_cells (d := []) ssD_len ho7 g hrl2) 0 (.string (str (atD [] R g))) rfl
          simpa using this
        have hgi := fun w' => run_idxS Try.underlying36 (by kernel_rfl : (Try.prog.info? 9).map (·.size) = some 1) (cap := c4) HGA.out hgN (g : Int) rfl w'
        simp only [Nat.mul_one, Nat.zero_add] at hgi
        have hsx := str_size (frA R g)
        have HSTg := Lib.hid (fun y h32 hc => HST.out g at_ y hgN h32 hc)
        have HFR := Lib.hid (fun (y : List UInt8) => (show (R.set g y).length = R.length from by simp))
        generalize frA R g = x at *
        obtain ⟨nx, hnx⟩ : ∃ nx, nx = x.length := ⟨_, rfl⟩
        rw [← hnx] at hsx HSTg
        have HNX := Lib.hid hnx
        have HRL2 := Lib.hid hrl2
        clear hnx ho7 hrl2 HST
        by_cases h32 : nx = 32
        · subst h32
          by_cases hc2 : f g = 2
          · rw [hc2] at hrunM
            clear hcnt
            go_wp2_with fail
            go_roundw
            case rel => exact ⟨k + 1, R, f, by omega, by go_num, HN.out, HO7.out, HCON.out, HL7.out, hb7⟩
            case measure => simp [intOf]; omega
          · have hcb : (f (g : Int) == 2) = false := by rw [beq_eq_false_iff_ne]; exact hc2
            have HS2 := Lib.hid (fun y => HSTg.out y rfl hc2)
            obtain ⟨c, hc⟩ : ∃ c, c = f (g : Int) := ⟨_, rfl⟩
            rw [← hc] at hrunM hcb hcnt HS2
            have HMX := Lib.hid HM7.out
            have HQN := Lib.hid (show ∀ q, (Value.slice a4 N c4).ownBlock = some q → some q ≠ some gm from fun q hq h => by
              rw [HGA.out] at hq
              simp only [Value.ownBlock, Option.some.injEq] at hq h
              omega)
            have HQL := Lib.hid (show ∀ q, (Value.slice a5 LL.length c5).ownBlock = some q → some q ≠ some gm from fun q hq h => by
              have := HNY.out q hq
              simp only [Option.some.injEq] at h
              omega)
            obtain ⟨hcn1, hcn2⟩ := hcnt
            clear hc hc2 HSTg HCON
            go_upto_region 19 with (refine wpList_setN9 rfl _ _ _ rfl HMX.out rfl rfl rfl hQb1 hQb2 (by omega) (by omega) (by omega) ?_; intro w7 hm7 hgr7)
            have ho8 : w7.ownsRow w.heap.size 9 1 (.slice a4 N c4) N (flD ssD R) := HO7.out.kept hgr7 (by
              cases e : (Value.slice a4 N c4).ownBlock with
              | none => exact .inl rfl
              | some q => exact .inr (HQN.out q e))
            have hl8 : w7.ownsRow w.heap.size 3 1 (.slice a5 LL.length c5) LL.length (is LL) := HL7.out.kept hgr7 (by
              cases e : (Value.slice a5 LL.length c5).ownBlock with
              | none => exact .inl rfl
              | some q => exact .inr (HQL.out q e))
            have hb8 := hb7.grown hgr7 hs6 (fun q hq => by obtain rfl := Option.some.inj hq; omega)
            have hs8 := hb8.size
            have hcl8 : w7.cell? ⟨ga, g, none⟩ = some (.string (str x)) := (World.cell?_of_block (w := w6) (a := ⟨ga, g, none⟩) (hgr7.block ga (World.block_lt_of_cell? w6 _ hcl) (by intro h; have := Option.some.inj h; omega))).trans hcl
            obtain ⟨wN, capN, hrunN, hrowN, hbN, hleN⟩ := run_bytes9 (P := Try.prog) w7 Try.underlying9 Try.underlying59 Try.underlying5 x 32 HNX.out.symm
            have hat : at_ < x.length := by rw [← HNX.out]; omega
            have hm8l := hm7.lt
            have hxc := hrowN.cell at_ hat
            have hxf := hrowN.frozen at_ (by omega)
            have hix3 := fun w' => run_idxS Try.underlying59 (by kernel_rfl : (Try.prog.info? 5).map (·.size) = some 1) (a := some ⟨w7.heap.size, 0, none⟩) (cap := capN) rfl (show at_ < 32 from by omega) (at_ : Int) rfl w'
            simp only [Nat.mul_one, Nat.zero_add] at hix3
            have hxb := xorB (G.ix x at_) by_
            have hst := hrowN.store at_ (G.ix x at_ ^^^ by_) hat
            have hNl := hbN.size
            have ho9 := own_set9 (ownD_keep ho8 hbN) (p := ⟨w7.heap.size, at_, none⟩) (fun q hq h => by have := (ho8.lt q hq).2; simp only at h; omega) (B (G.ix x at_ ^^^ by_))
            have hl9 := own_set9 (ownD_keep hl8 hbN) (p := ⟨w7.heap.size, at_, none⟩) (fun q hq h => by have := (hl8.lt q hq).2; simp only at h; omega) (B (G.ix x at_ ^^^ by_))
            have hm9 : MapN (wN.setCell ⟨w7.heap.size, at_, none⟩ (B (G.ix x at_ ^^^ by_))) gm (k + 1) (setN9 f g (c + 1)) := (hm7.below hbN).kept (Below.heap_setCell wN ⟨w7.heap.size, at_, none⟩ _ gm (by simp only; omega))
            have hb9 := (hb8.trans (hbN.mono hs8)).setCell (p := ⟨w7.heap.size, at_, none⟩) (by simp only; omega) (B (G.ix x at_ ^^^ by_))
            have hga8 := World.block_lt_of_cell? w7 _ hcl8
            have HO9 := Lib.hid ho9
            have HL9 := Lib.hid hl9
            have HM9 := Lib.hid hm9
            have HB9 := Lib.hid hb9
            have HST9 := Lib.hid hst
            clear hm7 ho8 hl8 hb8 hgr7 hrowN hbN ho9 hl9 hm9 hb9 hst hcl hrunM HMX
            simp only at hga8
            go_upto_region 21 with (fail)
            rw [show Value.int IntKind.u8 (((G.ix x at_).toNat ^^^ by_.toNat : Nat) : Int) = B (G.ix x at_ ^^^ by_) from by unfold B; rw [UInt8.toNat_xor]]
            clear hrunN hxc hxf hix3 hxb hcl8
            generalize wN.setCell ⟨w7.heap.size, at_, none⟩ (B (G.ix x at_ ^^^ by_)) = w9 at *
            have hrd9 := HST9.out.rd (by rw [List.length_set, ← HNX.out]; omega)
            rw [List.length_set, ← HNX.out] at hrd9
            have hcx := run_str (P := Try.prog) Try.underlying59 Try.underlying5 Try.underlying9 hrd9
            obtain ⟨y, hy⟩ : ∃ y, y = G.ix x at_ ^^^ by_ := ⟨_, rfl⟩
            rw [← hy] at hcx
            clear hy
            have hs9 := HB9.out.size
            have ho9 := HO9.out
            rw [HGA.out] at ho9
            have hs10 := ownD_fld (d := []) ssD_len ho9 g 0 HRL2.out (by omega) (.string (str (x.set at_ y))) (x.set at_ y) rfl
            have hap := fun q hq => apart9 HL9.out HO9.out (by decide) q hq
            have hl10 := own_set9 HL9.out (p := ⟨ga, g * 1 + 0, none⟩) (fun q hq h => by
              have := hap q hq
              rw [HGA.out] at this
              simp only at h
              subst h
              exact this rfl) (.string (str (x.set at_ y)))
            have hm10 : MapN (w9.setCell ⟨ga, g * 1 + 0, none⟩ (.string (str (x.set at_ y)))) gm (k + 1) (setN9 f g (c + 1)) := HM9.out.kept (Below.heap_setCell w9 ⟨ga, g * 1 + 0, none⟩ _ gm (by simp only; omega))
            have hb10 := HB9.out.setCell (p := ⟨ga, g * 1 + 0, none⟩) (by simp only; omega) (.string (str (x.set at_ y)))
            have hf10 : w9.frozen? ⟨ga, g, none⟩ = false := ho9.frozenAt _
            have hcl10 : w9.cell? ⟨ga, g, none⟩ = some (.string (str (frA R g))) := by
              have e : frA R g = atD [] R g := rfl
              rw [e]
              have := (ownD_cells (d := []) ssD_len ho9 g HRL2.out) 0 (.string (str (atD [] R g))) rfl
              simpa using this
            rw [← HGA.out] at hs10
            simp only [Nat.mul_one, Nat.add_zero] at hs10 hl10 hm10 hb10
            have HO10 := Lib.hid hs10
            have HL10 := Lib.hid hl10
            have HM10 := Lib.hid hm10
            have HB10 := Lib.hid hb10
            have HS10 := Lib.hid (HS2.out y)
            clear hs10 hl10 hm10 hb10 ho9 hap hrd9 HST9
            generalize str (x.set at_ y) = S10 at *
            go_wp2_with fail
            go_roundw
            case rel => exact ⟨k + 1, R.set g (x.set at_ y), setN9 f g (c + 1), by omega, by go_num, HS10.out, HO10.out, HM10.out, HL10.out, HB10.out⟩
            case measure => simp [intOf]; omega
        · have hb32 : ((nx : Int) != 32) = true := by rw [bne_iff_ne]; omega
          clear HSTg
          go_wp2_with fail
          go_roundw
          case rel => exact ⟨k + 1, R, f, by omega, by go_num, HN.out, HO7.out, HCON.out, HL7.out, hb7⟩
          case measure => simp [intOf]; omega
      · have e5 : (N : Int) ≤ (g : Int) := by omega
        go_wp2_with fail
        go_roundw
        case rel => exact ⟨k + 1, R, f, by omega, by go_num, HN.out, HO7.out, HCON.out, HL7.out, hb7⟩
        case measure => simp [intOf]; omega
    · obtain rfl : k = cs.length := by omega
      have hRl : R.length = N := by have := hnear.1; omega
      obtain ⟨s, hdr, hsl, hsi⟩ := HDR.out R hnear.near
      have HDQ := Lib.hid (HDC.out wo _ R (RdD.ofOwn ssD_len (by rw [hRl]; exact ho)) hnear.1)
      rw [hdr] at HDQ
      have hLn := HLL.out
      have HRL := Lib.hid (rdI_own hlo rfl (by omega) (fun x hx => by have := HLB.out x hx; omega))
      have HB := Lib.hid hb
      have HSI := Lib.hid hsi
      clear ho hlo hnear hm hb hsi hdr
      go_wp2_with fail
      refine HDQ.out.mono ?_
      rintro e w6 ⟨v6, rfl, ho6, hb6⟩
      obtain ⟨a6, c6, rfl⟩ := ownD_form ho6
      simp only at ho6 ⊢
      have hss := str_size s
      rw [hsl, HD.out] at hss
      have HRG := Lib.hid (rdI_own ho6 rfl (by omega) (fun x hx => by have := HLB.out x hx; omega))
      have HRL6 := Lib.hid (HRL.out.keep hb6)
      have hb7 := HB.out.trans (hb6.mono hbs)
      have HEQ := Lib.hid (equal9 HRG.out HRL6.out)
      clear ho6 hb6 HRL HDQ HB
      go_wp2_with fail
      refine HEQ.out.mono ?_
      rintro e w7 ⟨rfl, q, rfl⟩
      have HRL7 := Lib.hid (HRL6.out.keep (Below.drewN (Below.refl _ _) q))
      have hb8 := Below.drewN hb7 q
      clear hb7 HRG HRL6 HEQ
      go_wp2_with fail
      go_loopw [164] (fun vk wr => ∃ i : Nat, i ≤ 24 * n ∧ vk = .int .i64 i ∧ Below (w6.drewN q).heap.size (w6.drewN q) wr) (fun vk _ => 24 * n - (intOf vk).toNat)
      case atStart => exact ⟨0, by omega, rfl, Below.refl _ _⟩
      case round =>
        obtain ⟨i, hi, rfl, hb9⟩ := hrel
        by_cases hlt2 : i < 24 * n
        · have hlt2' : (i : Int) < 24 * (n : Int) := by omega
          have hi1 := fun W => run_sidx (P := Try.prog) Try.underlying9 s i (by rw [hsl, HD.out]; exact hlt2) (i : Int) rfl W
          have hi2 := fun W => run_sidx (P := Try.prog) Try.underlying9 d i (by rw [HD.out]; exact hlt2) (i : Int) rfl W
          have hsx := HSI.out i (by rw [HD.out]; exact hlt2)
          have HBS := Lib.hid (bsearch9 _ LL (i : Int) wr (HRL7.out.keep hb9) (by omega) (HLS.out.imp Int.le_of_lt))
          have HB9 := Lib.hid hb9
          clear hb9
          by_cases hin : (i : Int) ∈ LL
          · rw [if_pos hin] at hsx
            rw [hsx] at hi1
            rw [show LL.contains (i : Int) = true from by simpa using hin] at HBS
            clear hsx hin
            go_wp2_with fail
            refine HBS.out.mono ?_
            rintro e wx ⟨⟨p, rfl⟩, hbx⟩
            have HBX := Lib.hid (HB9.out.trans (hbx.mono HB9.out.size))
            clear hbx
            go_upto_region 30 with (fail)
            go_quiet (fail)
            have HBY := Lib.hid (Below.drewN HBX.out nq)
            go_wp2_with fail
            go_roundw
            case rel => exact ⟨i + 1, by omega, by go_num, HBY.out⟩
            case measure => simp [intOf]; omega
          · rw [if_neg hin] at hsx
            rw [hsx] at hi1
            rw [show LL.contains (i : Int) = false from by simpa using hin] at HBS
            clear hsx hin
            go_wp2_with fail
            refine HBS.out.mono ?_
            rintro e wx ⟨⟨p, rfl⟩, hbx⟩
            have HBX := Lib.hid (HB9.out.trans (hbx.mono HB9.out.size))
            clear hbx
            go_upto_region 30 with (fail)
            go_quiet (fail)
            have HBY := Lib.hid (Below.drewN HBX.out nq)
            go_wp2_with fail
            go_roundw
            case rel => exact ⟨i + 1, by omega, by go_num, HBY.out⟩
            case measure => simp [intOf]; omega
        · have hbz := hb8.trans (hb9.mono hb8.size)
          go_wp2_with fail
          go_ret
          exact ⟨rfl, hbz⟩
theorem scratches_law (w : World) (s : ByteArray) (hs : s.size ≤ maxLen) (v1 : Value) (l : List Sc) (h1 : CameSc w v1 l) (v2 : Value) (cs : List Sc) (h2 : CameSc w v2 cs) :
    Calls Try.prog 9 #[.string s, v1, v2] w fun e w' => e = .returned (.bool true) ∧ Below w.heap.size w w' := by
  obtain ⟨d, rfl⟩ : ∃ d, s = str d := ⟨s.data.toList, str_list s⟩
  rw [str_size] at hs
  unfold maxLen at hs
  by_cases hno : 600 < d.length ∨ 20 < l.length ∨ 40 < cs.length
  · exact scratches_skip w d (by omega) v1 l h1 v2 cs h2 hno
  by_cases hbad : d.length = 0 ∨ d.length % 24 ≠ 0
  · exact scratches_noenc w d (by omega) hbad v1 l h1 v2 cs h2 (by omega) (by omega)
  obtain ⟨n, hd⟩ : ∃ n, d.length = 24 * n := ⟨d.length / 24, by omega⟩
  by_cases hfit : fitA (n + 108) l = true
  · exact scratches_ok w d n hd (by omega) (by omega) v1 l h1 v2 cs h2 (by omega) (by omega) hfit
  · exact scratches_nofit w d n hd (by omega) (by omega) v1 l h1 v2 cs h2 (by omega) (by omega) (by simpa using hfit)
end Go.Proofs.Ytkebnmmcogkldaa.C9
namespace Go.Proofs.Ytkebnmmcogkldaa.circScratches
open Go.ChangeShapes Go.WideShapes Go.ChangeAt Go.RowKit
open Go.ChangeMaps (open_string shut_string)
open C9
set_option linter.unusedVariables false
theorem own : ownKnob Try.prog.godebug = none := by kernel_rfl
theorem laidOut : laidOutB Try.prog = true := by kernel_rfl

set_option maxRecDepth 100000 in
set_option maxHeartbeats 1000000 in
theorem lifted (os : Os) (started : os.Started) (H : Type) (enc : TypeId × Value → H) :
    ReturnsInHanded {} Try.checked os 9 .any (Rows.circScratchesSpec.pre6 enc Try.prog Try.f9 Rows.circScratchesRow.domain false) (Rows.circScratchesSpec.post enc Try.prog Try.f9 false true false false) := by
  refine returnsInHanded_of_change (C := Try.checked) own started (by kernel_rfl) Try.func9
    (ChangeSpec.witness6 (enc := enc) (C := Try.checked) false ⟨#[], #[.string ByteArray.empty, .slice none 0 0, .slice none 0 0], []⟩ 8 (by kernel_rfl) (by kernel_rfl) (by kernel_rfl) (by kernel_rfl)) ?_
  intro W base args ds gs before hval0 hW hcnd _
  have hval : ∀ (j : Nat) t v, Try.f9.params[j]? = some t → args[j]? = some v → Value.okWide Try.prog W .any base t v := hval0
  have hW' := hW
  obtain ⟨p, q, hA0, hV, rfl, hfz, hnd⟩ := hW
  have hA : DataW.TrodAll enc Try.prog W 0 (fun _ => true) true Try.f9.params.toList args.toList ds p := hA0
  rw [Try.params9] at hA hval
  obtain ⟨v0, vs0, d0, ds0, p0, q0, hargs, rfl, rfl, h0, r0⟩ := trodAll_cons hA
  obtain ⟨v1, vs1, d1, ds1, p1, q1, rfl, rfl, rfl, h1, r1⟩ := trodAll_cons r0
  obtain ⟨v2, vs2, d2, ds2, p2, q2, rfl, rfl, rfl, h2, r2⟩ := trodAll_cons r1
  obtain ⟨rfl, rfl, rfl⟩ := trodAll_nil r2
  obtain rfl : args = #[v0, v1, v2] := by cases args; simp_all
  obtain ⟨rfl, rfl⟩ := trodVars_none hV
  have k0 := h0
  have lt0 : ∀ x ∈ p0, x.block < W.heap.size := by obtain ⟨m, hm⟩ := k0; exact DataW.trod_lt m _ _ _ hm
  obtain ⟨a0, rfl, e0, _, w0⟩ := open_string Try.underlying9 (hval 0 9 v0 rfl rfl) h0
  have k1 := h1
  have lt1 : ∀ x ∈ p1, x.block < W.heap.size := by obtain ⟨m, hm⟩ := k1; exact DataW.trod_lt m _ _ _ hm
  obtain ⟨a1, w1⟩ := open_cscrs (hval 1 22 v1 rfl rfl) h1
  have k2 := h2
  have lt2 : ∀ x ∈ p2, x.block < W.heap.size := by obtain ⟨m, hm⟩ := k2; exact DataW.trod_lt m _ _ _ hm
  obtain ⟨a2, w2⟩ := open_cchg9 (hval 2 55 v2 rfl rfl) h2
  refine (scratches_law W a0 w0 v1 a1 w1 v2 a2 w2).mono fun e W' ⟨he, bel⟩ => ?_
  subst he
  exact ⟨_, rfl, _, _, _, [], _, [], hW', trodAll_mk1 (shut_bool Try.underlying4 _), (trodAll_cons_mk (Below.trod laidOut (by kernel_rfl) (of_decide_eq_true (by kernel_rfl)) k0 bel lt0) (trodAll_cons_mk (Below.trod laidOut (by kernel_rfl) (of_decide_eq_true (by kernel_rfl)) k1 bel lt1) (trodAll_cons_mk (Below.trod laidOut (by kernel_rfl) (of_decide_eq_true (by kernel_rfl)) k2 bel lt2) trodAll_mk0))), rfl, bel.frame _, fun h => by cases h⟩

theorem over : Rows.circScratchesRow.holds Try.pinned (OpenSpec.ofChange Rows.circScratchesSpec) :=
  OpenClaim.holds_of_wide 9 Try.f9 rfl rfl rfl rfl rfl rfl rfl ⟨rfl, rfl, rfl, rfl, rfl⟩ rfl rfl rfl rfl rfl (by kernel_rfl) Try.func9 (by kernel_rfl)
    (of_decide_eq_true (by kernel_rfl)) (by unfold Func.isWrapper; first | (rw [if_pos (by decide +kernel)]; kernel_rfl) | (rw [if_neg (by decide +kernel)]; exact ⟨rfl, rfl⟩))
    (fun os started H enc _ => lifted os started H enc)

/-- The statement. -/
theorem proved : Rows.CircScratchesSaid := over
end Go.Proofs.Ytkebnmmcogkldaa.circScratches
