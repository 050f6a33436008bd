/- Chapter 12: the reference walked: set, recorded, Record, Tear, Erase. -/
import Derived.Test.YtpncjadhpnapnaaMq14
/- Chapter 12: a medium of the reference: how it lies; set walked. -/
namespace Go.Proofs.Ytpncjadhpnapnaa.D12
open Go.RowKit Go.Maps C9
open D13 (RdI ixI is)
set_option linter.unusedVariables false

/-- a sector of the reference: its slices of marks and of changes -/
structure RS where
  s : Sec
  ae : Option Addr
  ne : Nat
  ce : Nat
  ac : Option Addr
  nc : Nat
  cc : Nat
def RS.vE (x : RS) : Value := .slice x.ae x.ne x.ce
def RS.vC (x : RS) : Value := .slice x.ac x.nc x.cc
def rz : RS := ⟨blank, none, 0, 0, none, 0, 0⟩
def rsD (x : RS) : List Value := [.int .i64 x.s.st, .int .i64 x.s.cnt, .string (str x.s.raw), x.vE, x.vC]
theorem rsD_len (x : RS) : (rsD x).length = 5 := rfl
def bD (b : Bool) : List Value := [.bool b]
theorem rsD_one (x : RS) : ∀ u ∈ rsD x, u.oneCell' = true := by
  intro u hu
  simp only [rsD, List.mem_cons, List.not_mem_nil, or_false] at hu
  rcases hu with rfl | rfl | rfl | rfl | rfl <;> rfl
theorem bD_one (b : Bool) : ∀ u ∈ bD b, u.oneCell' = true := by
  intro u hu
  simp only [bD, List.mem_cons, List.not_mem_nil, or_false] at hu
  rw [hu]; rfl
theorem bD_len (b : Bool) : (bD b).length = 1 := rfl
/-- a slice of marks that is only read -/
def RdBo (w : World) (v : Value) (l : List Bool) : Prop := RdD false bD 1 w v l
def mkE (f : Nat → Bool) : List Bool := (List.range 2352).map f
def mkC (f : Nat → UInt8) : List UInt8 := (List.range 2352).map f
def EpE (f : Nat → Bool) (l : List Bool) : Prop := (l = [] ∧ ∀ k, k < 2352 → f k = false) ∨ l = mkE f
def EpC (f : Nat → UInt8) (l : List UInt8) : Prop := (l = [] ∧ ∀ k, k < 2352 → f k = 0) ∨ l = mkC f
/-- the slices of a sector -/
structure RsW (w : World) (x : RS) : Prop where
  e : ∃ l, RdBo w x.vE l ∧ EpE x.s.er l
  c : ∃ l, Rd w x.vC l ∧ EpC x.s.ch l
theorem RsW.keep {w w' : World} {x : RS} (h : RsW w x) (hb : Below w.heap.size w w') : RsW w' x := by
  obtain ⟨⟨l, h1, h2⟩, m, h3, h4⟩ := h
  exact ⟨⟨l, RdD.keep h1 hb, h2⟩, m, h3.keep hb, h4⟩
/-- the slice of slices of the lost offsets -/
def RdV (w : World) (v : Value) (n : Nat) (scr : List Sc) : Prop := ∃ dv : Nat → Value, RdS w 1 v n (fun i => [dv i]) ∧ ∀ i, i < n → RdI w (dv i) (lostS n scr i)
theorem RdV.keep {w w' : World} {v : Value} {n : Nat} {scr : List Sc} (h : RdV w v n scr) (hb : Below w.heap.size w w') : RdV w' v n scr := by
  obtain ⟨dv, h1, h2⟩ := h
  exact ⟨dv, h1.keep hb, fun i hi => (h2 i hi).keep hb⟩
def rmv (M : Med) (vL vS vD : Value) : Value := .agg #[.int .i64 M.kind, .int .i64 M.endu, vL, vS, vD]
def rmc (M : Med) (vL vS vD : Value) : List Value := [.int .i64 M.kind, .int .i64 M.endu, vL, vS, vD]
/-- a medium of the reference -/
structure RmW (w : World) (vL vS vD : Value) (M : Med) (SS : List RS) : Prop where
  e : M.secs = SS.map RS.s
  l : RdD rz rsD 5 w vL SS
  x : ∀ i, i < SS.length → RsW w (atD rz SS i)
  s : RdSc w vS M.scr
  d : RdV w vD M.n M.scr
theorem RmW.n {w : World} {vL vS vD : Value} {M : Med} {SS : List RS} (h : RmW w vL vS vD M SS) : SS.length = M.n := by unfold Med.n; rw [h.e, List.length_map]
theorem RmW.keep {w w' : World} {vL vS vD : Value} {M : Med} {SS : List RS} (h : RmW w vL vS vD M SS) (hb : Below w.heap.size w w') : RmW w' vL vS vD M SS :=
  ⟨h.e, RdD.keep h.l hb, fun i hi => (h.x i hi).keep hb, RdD.keep h.s hb, h.d.keep hb⟩
theorem RmW.forms {w : World} {vL vS vD : Value} {M : Med} {SS : List RS} (h : RmW w vL vS vD M SS) : (∃ a c, vL = .slice a M.n c) ∧ (∃ a c, vS = .slice a M.scr.length c) ∧ ∃ a c, vD = .slice a M.n c := by
  have hn := h.n
  obtain ⟨a, c, e, _⟩ := RdD.form h.l
  obtain ⟨a2, c2, e2, _⟩ := RdD.form h.s
  obtain ⟨dv, h5, _⟩ := h.d
  obtain ⟨a3, c3, e3, _⟩ := h5.form
  rw [hn] at e
  exact ⟨⟨a, c, e⟩, ⟨a2, c2, e2⟩, a3, c3, e3⟩
/-- the worlds have the same blocks where 'P' says so -/
structure Agree (P : Nat → Prop) (w W : World) : Prop where
  size : w.heap.size ≤ W.heap.size
  eq : ∀ k, k < w.heap.size → P k → W.heap[k]? = w.heap[k]?
theorem Agree.refl (P : Nat → Prop) (w : World) : Agree P w w := ⟨Nat.le_refl _, fun _ _ _ => rfl⟩
theorem Agree.of {P : Nat → Prop} {w W : World} (h : Below w.heap.size w W) : Agree P w W := ⟨h.size, fun k hk _ => h.block k hk⟩
/-- a medium of the reference that lies in blocks of 'P' -/
def RmF (P : Nat → Prop) (w : World) (vL vS vD : Value) (M : Med) (SS : List RS) : Prop := ∀ W, Agree P w W → RmW W vL vS vD M SS
section
variable {P P' : Nat → Prop} {w W : World} {vL vS vD : Value} {M : Med} {SS : List RS}
theorem RmF.here (h : RmF P w vL vS vD M SS) : RmW w vL vS vD M SS := h w (Agree.refl _ _)
/-- a step that changes no block of 'P' -/
theorem RmF.step (h : RmF P w vL vS vD M SS) (ha : Agree P w W) (hp : ∀ k, k < w.heap.size → P k → P' k) : RmF P' W vL vS vD M SS := fun W' h' =>
  h W' ⟨Nat.le_trans ha.size h'.size, fun k hk hpk => (h'.eq k (Nat.lt_of_lt_of_le hk ha.size) (hp k hk hpk)).trans (ha.eq k hk hpk)⟩
theorem RmF.weak (h : RmF P w vL vS vD M SS) (hp : ∀ k, k < w.heap.size → P k → P' k) : RmF P' w vL vS vD M SS := h.step (Agree.refl _ _) hp
theorem RmF.keep (h : RmF P w vL vS vD M SS) (hb : Below w.heap.size w W) : RmF (fun k => k < w.heap.size ∧ P k) W vL vS vD M SS := h.step (Agree.of hb) fun k hk hp => ⟨hk, hp⟩
theorem RmF.res (h : RmF P w vL vS vD M SS) (hb : Below w.heap.size w W) : RmF (fun k => k < w.heap.size → P k) W vL vS vD M SS := h.step (Agree.of hb) fun k hk hp _ => hp
theorem RmF.set1 {p : Addr} (h : RmF P w vL vS vD M SS) (hp : ¬ P p.block) (v : Value) : RmF P (w.setCell p v) vL vS vD M SS := h.step ⟨by simp, fun k _ hk => Below.heap_setCell w p v k (fun e => hp (e ▸ hk))⟩ fun _ _ h => h
end
theorem Med.sec_map {M : Med} {SS : List RS} (h : M.secs = SS.map RS.s) (i : Nat) : M.sec i = (atD rz SS i).s := by
  unfold Med.sec atD
  rw [h, List.getElem?_map]
  cases SS[i]? <;> rfl
/-- what a function of the reference ends with that gives a medium and an error -/
def RmP (Z : Int × Med) (P : Nat → Prop) (w : World) (e : Ending) (w' : World) : Prop := ∃ vL vS vD SS, e = .returned (.tuple #[rmv Z.2 vL vS vD, .int .i64 Z.1]) ∧ RmF (fun k => k < w.heap.size → P k) w' vL vS vD Z.2 SS ∧ Below w.heap.size w w'
/-- the five cells of an element turn -/
theorem flD_sets5 (l : List RS) (i : Nat) (hi : i < l.length) (x : RS) :
    ((((((flD rsD l).set (i * 5) (.int .i64 x.s.st)).set (i * 5 + 1) (.int .i64 x.s.cnt)).set (i * 5 + 2) (.string (str x.s.raw))).set (i * 5 + 3) x.vE).set (i * 5 + 4) x.vC) = flD rsD (l.set i x) := by
  obtain ⟨o, ho⟩ : ∃ o, o = atD rz l i := ⟨_, rfl⟩
  have e0 := flD_set (d := rz) rsD_len l i 0 hi (by decide) (.int .i64 x.s.st) ⟨{ o.s with st := x.s.st }, o.ae, o.ne, o.ce, o.ac, o.nc, o.cc⟩ (by rw [← ho]; rfl)
  have e1 := flD_set (d := rz) rsD_len (l.set i ⟨{ o.s with st := x.s.st }, o.ae, o.ne, o.ce, o.ac, o.nc, o.cc⟩) i 1 (by simpa using hi) (by decide) (.int .i64 x.s.cnt) ⟨{ o.s with st := x.s.st, cnt := x.s.cnt }, o.ae, o.ne, o.ce, o.ac, o.nc, o.cc⟩ (by rw [atD_set_eq _ _ _ hi]; rfl)
  have e2 := flD_set (d := rz) rsD_len (l.set i ⟨{ o.s with st := x.s.st, cnt := x.s.cnt }, o.ae, o.ne, o.ce, o.ac, o.nc, o.cc⟩) i 2 (by simpa using hi) (by decide) (.string (str x.s.raw)) ⟨x.s, o.ae, o.ne, o.ce, o.ac, o.nc, o.cc⟩ (by rw [atD_set_eq _ _ _ hi]; rfl)
  have e3 := flD_set (d := rz) rsD_len (l.set i ⟨x.s, o.ae, o.ne, o.ce, o.ac, o.nc, o.cc⟩) i 3 (by simpa using hi) (by decide) x.vE ⟨x.s, x.ae, x.ne, x.ce, o.ac, o.nc, o.cc⟩ (by rw [atD_set_eq _ _ _ hi]; rfl)
  have e4 := flD_set (d := rz) rsD_len (l.set i ⟨x.s, x.ae, x.ne, x.ce, o.ac, o.nc, o.cc⟩) i 4 (by simpa using hi) (by decide) x.vC x (by rw [atD_set_eq _ _ _ hi]; rfl)
  simp only [List.set_set] at e1 e2 e3 e4
  rw [Nat.add_zero] at e0
  rw [e0, e1, e2, e3, e4]
theorem Try.infoRS : (Try.prog.info? 108).map (fun i => (i.zero, i.size, i.bytes)) = some (some (.agg (rsD rz).toArray), 5, 80) := by kernel_rfl
theorem Try.sizeRS : (Try.prog.info? 108).map (·.size) = some 5 := by kernel_rfl
theorem Try.infoRM : (Try.prog.info? 59).map (fun i => (i.zero, i.size, i.bytes)) = some (some (.agg #[.int .i64 0, .int .i64 0, .slice none 0 0, .slice none 0 0, .slice none 0 0]), 5, 88) := by kernel_rfl
end Go.Proofs.Ytpncjadhpnapnaa.D12
namespace Go.Proofs.Ytpncjadhpnapnaa.D12
open Go.RowKit Go.Maps C9
open D13 (RdI ixI is)
set_option linter.unusedVariables false

theorem zeroRM : ∀ w, (zeroValue 59).run Try.prog w = .ok (.agg #[.int .i64 0, .int .i64 0, .slice none 0 0, .slice none 0 0, .slice none 0 0]) w := fun _ => by kernel_rfl
def SetP (M : Med) (SS : List RS) (i : Nat) (x : RS) (vS vD : Value) (w : World) (e : Ending) (w' : World) : Prop := ∃ aL cL, e = .returned (rmv (M.put i x.s) (.slice aL M.n cL) vS vD) ∧ w'.ownsRow w.heap.size 108 5 (.slice aL M.n cL) M.n (flD rsD (SS.set i x)) ∧ Below w.heap.size w w'
theorem secs_put (M : Med) {SS : List RS} (h : M.secs = SS.map RS.s) (i : Nat) (x : RS) : (M.put i x.s).secs = (SS.set i x).map RS.s := by
  show M.secs.set i x.s = _
  rw [h, List.map_set]
theorem far5 {W : World} {b t : Nat} {cs : List Value} (h : Bx W b t cs) {g : Nat} (hg : g ≠ b) (o0 o1 o2 o3 o4 : Nat) (v0 v1 v2 v3 v4 : Value) : Bx (((((W.setCell ⟨g, o0, none⟩ v0).setCell ⟨g, o1, none⟩ v1).setCell ⟨g, o2, none⟩ v2).setCell ⟨g, o3, none⟩ v3).setCell ⟨g, o4, none⟩ v4) b t cs :=
  (((((h.far (p := ⟨g, o0, none⟩) hg v0).far (p := ⟨g, o1, none⟩) hg v1).far (p := ⟨g, o2, none⟩) hg v2).far (p := ⟨g, o3, none⟩) hg v3).far (p := ⟨g, o4, none⟩) hg v4)
theorem below5 {B : Nat} {w W : World} (h : Below B w W) {g : Nat} (hg : B ≤ g) (o0 o1 o2 o3 o4 : Nat) (v0 v1 v2 v3 v4 : Value) : Below B w (((((W.setCell ⟨g, o0, none⟩ v0).setCell ⟨g, o1, none⟩ v1).setCell ⟨g, o2, none⟩ v2).setCell ⟨g, o3, none⟩ v3).setCell ⟨g, o4, none⟩ v4) :=
  (((((h.setCell (p := ⟨g, o0, none⟩) hg v0).setCell (p := ⟨g, o1, none⟩) hg v1).setCell (p := ⟨g, o2, none⟩) hg v2).setCell (p := ⟨g, o3, none⟩) hg v3).setCell (p := ⟨g, o4, none⟩) hg v4)
theorem own_agree {w W : World} {base e sz n : Nat} {v : Value} {xs : List Value} (h : w.ownsRow base e sz v n xs) (hk : ∀ k, base ≤ k → k < w.heap.size → W.heap[k]? = w.heap[k]?) : W.ownsRow base e sz v n xs := by
  refine ⟨h.1, ?_⟩
  rcases h.2 with h | ⟨g, cap, cur, hv, hg, hh, r⟩
  · exact .inl h
  · exact .inr ⟨g, cap, cur, hv, hg, (hk g hg (Array.getElem?_eq_some_iff.1 hh).1).trans hh, r⟩
theorem Agree.low {P : Nat → Prop} {w w' W : World} (hb : Below w.heap.size w w') (h : Agree (fun k => k < w.heap.size → P k) w' W) : Agree P w W :=
  ⟨Nat.le_trans hb.size h.size, fun k hk hp => (h.eq k (Nat.lt_of_lt_of_le hk hb.size) fun _ => hp).trans (hb.block k hk)⟩
theorem RmF.set {P : Nat → Prop} {w w' : World} {vL vS vD v : Value} {M : Med} {SS : List RS} (h : RmF P w vL vS vD M SS) {i : Nat} (hi : i < M.n) (hb : Below w.heap.size w w') {x : RS} {base : Nat} (hB : w.heap.size ≤ base)
    (hx : ∀ W, RmW W vL vS vD M SS → Agree (fun k => k < w.heap.size → P k) w' W → RsW W x)
    (ho : w'.ownsRow base 108 5 v M.n (flD rsD (SS.set i x))) : RmF (fun k => k < w.heap.size → P k) w' v vS vD (M.put i x.s) (SS.set i x) := fun W hW => by
  have hr := h W (hW.low hb)
  have hSn := hr.n
  refine ⟨secs_put M hr.e i x, RdD.ofOwn rsD_len (by rw [List.length_set, hSn]; exact own_agree ho fun k h1 h2 => hW.eq k h2 fun h3 => by omega), fun j hj => ?_, hr.s, ?_⟩
  · rw [List.length_set] at hj
    by_cases hji : j = i
    · rw [hji, atD_set_eq _ _ _ (by rw [hSn]; exact hi)]; exact hx W hr hW
    · rw [atD_set_ne _ _ _ _ hji]; exact hr.x j hj
  · rw [Med.put_n]; exact hr.d
set_option maxRecDepth 100000 in
set_option maxHeartbeats 4000000 in
theorem rset12 {w : World} {vL vS vD : Value} {M : Med} {SS : List RS} (h : RmW w vL vS vD M SS) (hn : M.n ≤ 4096) {i : Nat} (hi : i < M.n) (x : RS) :
    Calls Try.prog 49 #[rmv M vL vS vD, .int .i64 (i : Nat), .agg #[.int .i64 x.s.st, .int .i64 x.s.cnt, .string (str x.s.raw), .slice x.ae x.ne x.ce, .slice x.ac x.nc x.cc]] w (SetP M SS i x vS vD w) := by
  have HR := Lib.hid h
  obtain ⟨⟨aL, cL, rfl⟩, ⟨aS, cS, rfl⟩, aD, cD, rfl⟩ := h.forms
  have hl1 := h.l
  have hSn := h.n
  have hl2 := h.e
  obtain ⟨n, hnn⟩ : ∃ n, n = M.n := ⟨_, rfl⟩
  rw [← hnn] at hl1 hSn hi hn HR ⊢
  have HNN := Lib.hid hnn
  have HL2 := Lib.hid hl2
  obtain ⟨w1, hw1⟩ : ∃ w1, w1 = w.alloc (.cells #[.int .i64 M.kind, .int .i64 M.endu, .slice aL n cL, .slice aS M.scr.length cS, .slice aD n cD] 59) := ⟨_, rfl⟩
  obtain ⟨w2, hw2⟩ : ∃ w2, w2 = w1.alloc (.cells #[.int .i64 x.s.st, .int .i64 x.s.cnt, .string (str x.s.raw), .slice x.ae x.ne x.ce, .slice x.ac x.nc x.cc] 108) := ⟨_, rfl⟩
  obtain ⟨w3, hw3⟩ : ∃ w3, w3 = w2.alloc (.cells #[.int .i64 0, .int .i64 0, .slice none 0 0, .slice none 0 0, .slice none 0 0] 59) := ⟨_, rfl⟩
  have hA1 := (Below.refl w.heap.size w).alloc (Nat.le_refl _) (.cells #[.int .i64 M.kind, .int .i64 M.endu, .slice aL n cL, .slice aS M.scr.length cS, .slice aD n cD] 59)
  have hA2 := (Below.refl w1.heap.size w1).alloc (Nat.le_refl _) (.cells #[.int .i64 x.s.st, .int .i64 x.s.cnt, .string (str x.s.raw), .slice x.ae x.ne x.ce, .slice x.ac x.nc x.cc] 108)
  have hA3 := (Below.refl w2.heap.size w2).alloc (Nat.le_refl _) (.cells #[.int .i64 0, .int .i64 0, .slice none 0 0, .slice none 0 0, .slice none 0 0] 59)
  rw [← hw1] at hA1
  rw [← hw2] at hA2
  rw [← hw3] at hA3
  have hB1 : Bx w1 w.heap.size 59 [.int .i64 M.kind, .int .i64 M.endu, .slice aL n cL, .slice aS M.scr.length cS, .slice aD n cD] := by rw [hw1]; exact Bx.new w _ _
  have hB2 : Bx w2 w1.heap.size 108 [.int .i64 x.s.st, .int .i64 x.s.cnt, .string (str x.s.raw), .slice x.ae x.ne x.ce, .slice x.ac x.nc x.cc] := by rw [hw2]; exact Bx.new w1 _ _
  have hB3 : Bx w3 w2.heap.size 59 [.int .i64 0, .int .i64 0, .slice none 0 0, .slice none 0 0, .slice none 0 0] := by rw [hw3]; exact Bx.new w2 _ _
  obtain ⟨b, hb⟩ : ∃ b, b = w.heap.size := ⟨_, rfl⟩
  have hs1 : w1.heap.size = b + 1 := by rw [hw1, hb]; simp
  have hs2 : w2.heap.size = b + 1 + 1 := by rw [hw2]; simp [hs1]
  have hs3 : w3.heap.size = b + 1 + 1 + 1 := by rw [hw3]; simp [hs2]
  rw [← hb] at hB1
  rw [hs1] at hB2
  rw [hs2] at hB3
  have H1 := Lib.hid (hB1.call hA2 |>.call hA3)
  have H2 := Lib.hid (hB2.call hA3)
  have H3 := Lib.hid hB3
  have hA13 := hA1.trans ((hA2.trans (hA3.mono hA2.size)).mono hA1.size)
  have HA := Lib.hid hA13
  have HB := Lib.hid hb
  have HS3 := Lib.hid hs3
  have HW3 : Hid (((w.alloc (.cells #[.int .i64 M.kind, .int .i64 M.endu, .slice aL n cL, .slice aS M.scr.length cS, .slice aD n cD] 59)).alloc (.cells #[.int .i64 x.s.st, .int .i64 x.s.cnt, .string (str x.s.raw), .slice x.ae x.ne x.ce, .slice x.ac x.nc x.cc] 108)).alloc (.cells #[.int .i64 0, .int .i64 0, .slice none 0 0, .slice none 0 0, .slice none 0 0] 59) = w3) := Lib.hid (by rw [hw3, hw2, hw1])
  have hz := zeroRM
  have hl4 := RdD.keep hl1 hA13
  have hown0 : (w3.alloc (.cells #[] 108)).ownsRow w3.heap.size 108 5 (.slice (some ⟨w3.heap.size, 0, none⟩) 0 0) 0 (flD rsD []) := World.ownsRow_lit w3 #[] 0 (Nat.le_refl _) (by simp [maxLen]) (by simp)
  have hA4 := (Below.refl w3.heap.size w3).alloc (Nat.le_refl _) (.cells #[] 108)
  have hr4 := RdD.keep hl4 hA4
  have HA4 := Lib.hid hA4
  have HON := Lib.hid hown0
  have HR4 := Lib.hid hr4
  have q2 := H1.out.cell (i := 2) rfl
  clear hl1 hl2 h hw1 hw2 hw3 hA1 hA2 hA3 hB1 hB2 hB3 hs1 hs2 hA13 hl4 hown0 hA4 hr4 hb hnn
  have HSN := Lib.hid hSn
  clear hSn
  unfold rmv
  go_enter Try.func49, Try.ntmps49
  go_upto_region 1 with (fail)
  rw [HW3.out, ← HB.out]
  obtain ⟨w4, hw4⟩ : ∃ w4, w4 = w3.alloc (.cells #[] 108) := ⟨_, rfl⟩
  have hgb : w3.heap.size ≤ w4.heap.size := by rw [hw4]; simp
  have hown4 := HON.out
  have hrd4 := HR4.out
  rw [← hw4] at hown4 hrd4
  rw [HS3.out] at hown4 hgb
  have hA4 := HA4.out
  rw [← hw4] at hA4
  have H14 := Lib.hid (H1.out.call hA4)
  have H24 := Lib.hid (H2.out.call hA4)
  have H34 := Lib.hid (H3.out.call hA4)
  have HL4 := Lib.hid (HA.out.trans (hA4.mono HA.out.size))
  have q24 := H14.out.cell (i := 2) rfl
  have HW4 := Lib.hid hw4
  clear hA4 q24
  go_upto_region 2 with (first
    | (at_builtin; go_loud (
       rw [← HW4.out]
       refine wpList_appD rfl _ _ rfl Try.underlying56 Try.infoRS rfl (by decide) rsD_len rsD_one hown4 rfl hrd4 rfl (by unfold maxLen; rw [HSN.out]; omega) (by rw [HSN.out]; omega) hgb ?_
       intro v5 w5 hown5 hgr5
       rw [HSN.out, Nat.zero_add, List.nil_append] at hown5
       have H15 := Lib.hid (Ap.bx_off H14.out hgr5 (by intro e; simp only [Value.ownBlock, Option.some.injEq] at e; have := HS3.out; omega))
       have H25 := Lib.hid (Ap.bx_off H24.out hgr5 (by intro e; simp only [Value.ownBlock, Option.some.injEq] at e; have := HS3.out; omega))
       have H35 := Lib.hid (Ap.bx_off H34.out hgr5 (by intro e; simp only [Value.ownBlock, Option.some.injEq] at e; have := HS3.out; omega))
       have HL5 := Lib.hid (HL4.out.grown hgr5 HL4.out.size (by intro j hj; simp only [Value.ownBlock, Option.some.injEq] at hj; have := HS3.out; have := HB.out; omega))
       obtain ⟨g5, c5, rfl, hg5, hl5⟩ := ownD_addr hown5 (by omega)
       have q25 := H15.out.cell (i := 2) rfl
       have q2f := H15.out.free))
    | fail)
  have hX1 := H15.out.set 2 (.slice (some ⟨g5, 0, none⟩) n c5)
  have hX2 := H25.out.far (p := ⟨b, 2, none⟩) (by simp only; omega) (.slice (some ⟨g5, 0, none⟩) n c5)
  have hX3 := H35.out.far (p := ⟨b, 2, none⟩) (by simp only; omega) (.slice (some ⟨g5, 0, none⟩) n c5)
  have hXo := ownD_far hown5 (p := ⟨b, 2, none⟩) (by simp only; omega) (.slice (some ⟨g5, 0, none⟩) n c5)
  have hXb := HL5.out.setCell (p := ⟨b, 2, none⟩) (by have := HB.out; simp only; omega) (.slice (some ⟨g5, 0, none⟩) n c5)
  clear q25 q2f hgr5 hown4 hrd4
  rw [List.set_cons_succ, List.set_cons_succ, List.set_cons_zero] at hX1
  generalize w5.setCell ⟨b, 2, none⟩ (.slice (some ⟨g5, 0, none⟩) n c5) = w6 at *
  clear hl5
  have k2 := hX1.cell (i := 2) rfl
  have k20 := hX2.cell (i := 0) rfl
  have k21 := hX2.cell (i := 1) rfl
  have k22 := hX2.cell (i := 2) rfl
  have k23 := hX2.cell (i := 3) rfl
  have k24 := hX2.cell (i := 4) rfl
  have hix := fun w' => run_idxS Try.underlying56 Try.sizeRS (a := some ⟨g5, 0, none⟩) (n := n) (cap := c5) rfl hi (i : Int) rfl w'
  have hsl : i < SS.length := by rw [HSN.out]; exact hi
  have hcl := ownD_cells (d := rz) rsD_len hXo i hsl
  have d0 := hcl 0 _ rfl
  have d1 := hcl 1 _ rfl
  have d2 := hcl 2 _ rfl
  have d3 := hcl 3 _ rfl
  have d4 := hcl 4 _ rfl
  simp only [Nat.add_zero] at d0
  have df : ∀ k, w6.frozen? ⟨g5, k, none⟩ = false := fun k => by
    rcases hXo.2 with ⟨h', _⟩ | ⟨g', cap, cur, hv, _, hh, _⟩
    · simp at h'
    · simp only [Value.slice.injEq, Option.some.injEq, Addr.mk.injEq] at hv
      rw [hv.1.1]
      simp [World.frozen?, hh]
  have hO7 : (((((w6.setCell ⟨g5, i * 5, none⟩ (.int .i64 x.s.st)).setCell ⟨g5, i * 5 + 1, none⟩ (.int .i64 x.s.cnt)).setCell ⟨g5, i * 5 + 2, none⟩ (.string (str x.s.raw))).setCell ⟨g5, i * 5 + 3, none⟩ (.slice x.ae x.ne x.ce)).setCell ⟨g5, i * 5 + 4, none⟩ (.slice x.ac x.nc x.cc)).ownsRow (b + 1 + 1 + 1) 108 5 (.slice (some ⟨g5, 0, none⟩) n c5) n (flD rsD (SS.set i x)) := by
    have h := (((((hXo.stored (i * 5) (.int .i64 x.s.st)).1.stored (i * 5 + 1) (.int .i64 x.s.cnt)).1.stored (i * 5 + 2) (.string (str x.s.raw))).1.stored (i * 5 + 3) (.slice x.ae x.ne x.ce)).1.stored (i * 5 + 4) (.slice x.ac x.nc x.cc)).1
    rw [show (.slice x.ae x.ne x.ce : Value) = x.vE from rfl, show (.slice x.ac x.nc x.cc : Value) = x.vC from rfl] at h
    rw [flD_sets5 SS i hsl x] at h
    exact h
  clear hcl hXo hown5
  have hY1 := far5 hX1 (g := g5) (by omega) (i * 5) (i * 5 + 1) (i * 5 + 2) (i * 5 + 3) (i * 5 + 4) (.int .i64 x.s.st) (.int .i64 x.s.cnt) (.string (str x.s.raw)) (.slice x.ae x.ne x.ce) (.slice x.ac x.nc x.cc)
  have hY3 := far5 hX3 (g := g5) (by omega) (i * 5) (i * 5 + 1) (i * 5 + 2) (i * 5 + 3) (i * 5 + 4) (.int .i64 x.s.st) (.int .i64 x.s.cnt) (.string (str x.s.raw)) (.slice x.ae x.ne x.ce) (.slice x.ac x.nc x.cc)
  have hYb := below5 hXb (g := g5) (by have := HB.out; omega) (i * 5) (i * 5 + 1) (i * 5 + 2) (i * 5 + 3) (i * 5 + 4) (.int .i64 x.s.st) (.int .i64 x.s.cnt) (.string (str x.s.raw)) (.slice x.ae x.ne x.ce) (.slice x.ac x.nc x.cc)
  clear hX1 hX2 hX3 hXb
  have HY1 := Lib.hid hY1
  have HY3 := Lib.hid hY3
  have HYb := Lib.hid hYb
  have HO7 := Lib.hid hO7
  clear hY1 hY3 hYb hO7
  go_upto_region 3 with (fail)
  have k0 := HY1.out.cell (i := 0) rfl
  have k1 := HY1.out.cell (i := 1) rfl
  have k2' := HY1.out.cell (i := 2) rfl
  have k3 := HY1.out.cell (i := 3) rfl
  have k4 := HY1.out.cell (i := 4) rfl
  have r0 := HY3.out.cell (i := 0) rfl
  have r1 := HY3.out.cell (i := 1) rfl
  have r2 := HY3.out.cell (i := 2) rfl
  have r3 := HY3.out.cell (i := 3) rfl
  have r4 := HY3.out.cell (i := 4) rfl
  have rf := HY3.out.free
  clear k2 k20 k21 k22 k23 k24 d0 d1 d2 d3 d4 df
  generalize (((((w6.setCell ⟨g5, i * 5, none⟩ (.int .i64 x.s.st)).setCell ⟨g5, i * 5 + 1, none⟩ (.int .i64 x.s.cnt)).setCell ⟨g5, i * 5 + 2, none⟩ (.string (str x.s.raw))).setCell ⟨g5, i * 5 + 3, none⟩ (.slice x.ae x.ne x.ce)).setCell ⟨g5, i * 5 + 4, none⟩ (.slice x.ac x.nc x.cc)) = w7 at *
  have hZb := below5 HYb.out (g := b + 1 + 1) (by have := HB.out; omega) 0 1 2 3 4 (.int .i64 M.kind) (.int .i64 M.endu) (.slice (some ⟨g5, 0, none⟩) n c5) (.slice aS M.scr.length cS) (.slice aD n cD)
  have hZ3 := ((((HY3.out.set 0 (.int .i64 M.kind)).set 1 (.int .i64 M.endu)).set 2 (.slice (some ⟨g5, 0, none⟩) n c5)).set 3 (.slice aS M.scr.length cS)).set 4 (.slice aD n cD)
  have hZo := ownD_far (ownD_far (ownD_far (ownD_far (ownD_far HO7.out (p := ⟨b + 1 + 1, 0, none⟩) (by simp only; omega) (.int .i64 M.kind)) (p := ⟨b + 1 + 1, 1, none⟩) (by simp only; omega) (.int .i64 M.endu)) (p := ⟨b + 1 + 1, 2, none⟩) (by simp only; omega) (.slice (some ⟨g5, 0, none⟩) n c5)) (p := ⟨b + 1 + 1, 3, none⟩) (by simp only; omega) (.slice aS M.scr.length cS)) (p := ⟨b + 1 + 1, 4, none⟩) (by simp only; omega) (.slice aD n cD)
  have q0 := hZ3.cell (i := 0) rfl
  have q1 := hZ3.cell (i := 1) rfl
  have q2 := hZ3.cell (i := 2) rfl
  have q3 := hZ3.cell (i := 3) rfl
  have q4 := hZ3.cell (i := 4) rfl
  have HQ0 := Lib.hid q0
  have HQ1 := Lib.hid q1
  have HQ2 := Lib.hid q2
  have HQ3 := Lib.hid q3
  have HQ4 := Lib.hid q4
  have HZb := Lib.hid hZb
  have HZo := Lib.hid hZo
  clear q0 q1 q2 q3 q4 hZb hZ3 hZo
  go_wp2_with fail
  refine bodyPost_ret (v := rmv (M.put i x.s) (.slice (some ⟨g5, 0, none⟩) n c5) (.slice aS M.scr.length cS) (.slice aD n cD)) (by simp [rmv, results, Try.results49, go_sem, HQ0.out, HQ1.out, HQ2.out, HQ3.out, HQ4.out]; exact ⟨rfl, rfl⟩) rfl ?_
  refine ⟨some ⟨g5, 0, none⟩, c5, by rw [HNN.out], ?_, HZb.out⟩
  rw [← HNN.out]
  exact own_mono HZo.out (by have := HB.out; omega)
end Go.Proofs.Ytpncjadhpnapnaa.D12
