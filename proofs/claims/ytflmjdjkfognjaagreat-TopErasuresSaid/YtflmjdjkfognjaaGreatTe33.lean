/- Parts: XFb XFc XFd XFe XFf XJb -/
import Derived.Test.YtflmjdjkfognjaaGreatTe32
import Derived.Test.YtflmjdjkfognjaaGreatTe11
import Derived.IntWalk
import Derived.Outline
import Derived.Test.YtflmjdjkfognjaaGreatTe19
namespace Go.Proofs.YtflmjdjkfognjaaGreat.D12
open Go.RowKit Go.Maps C9
open W8 (is)
set_option linter.unusedVariables false
def ErM (w : World) (b : Option Nat) (f : Nat → Bool) : Prop :=
  match b with
  | none => ∀ k, f k = false
  | some b => ∃ D : DataW Unit, w.ownsMap Tryz.prog 3 (plainElem Tryz.prog 4) b 2352 D ∧ ∀ x : Int, Maps.has D (.int .i64 x) = (decide (0 ≤ x) && f x.toNat)
def ChM (w : World) (b : Option Nat) (f : Nat → UInt8) : Prop :=
  match b with
  | none => ∀ k, f k = 0
  | some b => ∃ D : DataW Unit, w.ownsMap Tryz.prog 3 (plainElem Tryz.prog 5) b 2352 D ∧ (∀ x : Int, Maps.has D (.int .i64 x) = true → 0 ≤ x ∧ x < 2352) ∧ ∀ k : Nat, k < 2352 → D.atKey (.int .i64 k) (.lit (.int .u8 0)) = .lit (.int .u8 (f k).toNat)
theorem ErM.kept {w w' : World} {b : Option Nat} {f : Nat → Bool} (h : ErM w b f) (hk : ∀ c, b = some c → w'.heap[c]? = w.heap[c]?) : ErM w' b f := by
  cases b with
  | none => exact h
  | some b =>
    obtain ⟨D, ⟨es, clock, hb, F, hs, hD⟩, hf⟩ := h
    exact ⟨D, ⟨es, clock, (hk b rfl).trans hb, F, hs, hD⟩, hf⟩
theorem ChM.kept {w w' : World} {b : Option Nat} {f : Nat → UInt8} (h : ChM w b f) (hk : ∀ c, b = some c → w'.heap[c]? = w.heap[c]?) : ChM w' b f := by
  cases b with
  | none => exact h
  | some b =>
    obtain ⟨D, ⟨es, clock, hb, F, hs, hD⟩, hf⟩ := h
    exact ⟨D, ⟨es, clock, (hk b rfl).trans hb, F, hs, hD⟩, hf⟩
theorem ErM.map {w : World} {b : Nat} {f : Nat → Bool} (h : ErM w (some b) f) : ∃ es clock, w.heap[b]? = some (.map es clock) := by
  obtain ⟨D, ⟨es, clock, hb, F, hs, hD⟩, hf⟩ := h
  exact ⟨es, clock, hb⟩
theorem ChM.map {w : World} {b : Nat} {f : Nat → UInt8} (h : ChM w (some b) f) : ∃ es clock, w.heap[b]? = some (.map es clock) := by
  obtain ⟨D, ⟨es, clock, hb, F, hs, hD⟩, hf⟩ := h
  exact ⟨es, clock, hb⟩
def lostS (n : Nat) (scr : List Sc) (i : Nat) : List Int := ((List.range 2352).filter (lostP n scr i)).map Int.ofNat
def LoM (w : World) (b : Option Nat) (n : Nat) (scr : List Sc) : Prop :=
  match b with
  | none => ∀ i, i < n → lostS n scr i = []
  | some b => ∃ N, N ≤ 100000000 ∧ ∃ D : DataW Value, w.ownsMap Tryz.prog 3 Mp.rawE b N D ∧ ∀ i, i < n → ∃ v, D.atKey (.int .i64 (i : Nat)) (.held (.slice none 0 0)) = .held v ∧ RdI w v (lostS n scr i)
structure SM where
  s : Sec
  e : Option Nat
  c : Option Nat
def sm0 : SM := ⟨blank, none, none⟩
def smD (x : SM) : List Value := [.int .i64 x.s.st, .int .i64 x.s.cnt, .string (str x.s.raw), .map x.e, .map x.c]
theorem smD_len (x : SM) : (smD x).length = 5 := rfl
def SM.bk (x : SM) (p : Bool) : Option Nat := if p = true then x.e else x.c
def SM.W (w : World) (p : Bool) (x : SM) : Prop := if p = true then ErM w x.e x.s.er else ChM w x.c x.s.ch
theorem SM.W.kept {w w' : World} {p : Bool} {x : SM} (h : x.W w p) (hk : ∀ c, x.bk p = some c → w'.heap[c]? = w.heap[c]?) : x.W w' p := by
  cases p with
  | true => exact ErM.kept h hk
  | false => exact ChM.kept h hk
theorem SM.W.map {w : World} {p : Bool} {x : SM} {b : Nat} (h : x.W w p) (hb : x.bk p = some b) : ∃ es clock, w.heap[b]? = some (.map es clock) := by
  cases p with
  | true =>
    have e : x.e = some b := hb
    have h' : ErM w x.e x.s.er := h
    rw [e] at h'
    exact h'.map
  | false =>
    have e : x.c = some b := hb
    have h' : ChM w x.c x.s.ch := h
    rw [e] at h'
    exact h'.map
structure Lay where
  S : List SM
  gs : Nat
  sp : List Value
  cap : Nat
  vs : Value
  lo : Option Nat
structure MedC (w : World) (g : Nat) (L : Lay) (M : Med) (X R : Nat → Prop) : Prop where
  secs : M.secs = L.S.map SM.s
  box : Bx w g 214 [.int .i64 M.kind, .int .i64 M.endu, .slice (some ⟨L.gs, 0, none⟩) L.S.length L.cap, L.vs, .map L.lo]
  sec : Bx w L.gs 216 (flD smD L.S ++ L.sp)
  cap : L.S.length ≤ L.cap
  maps : ∀ i p, i < L.S.length → (atD sm0 L.S i).W w p
  inj : ∀ i j p q b, i < L.S.length → j < L.S.length → (atD sm0 L.S i).bk p = some b → (atD sm0 L.S j).bk q = some b → i = j ∧ p = q
  scr : ∀ w' : World, (∀ b, R b → w'.heap[b]? = w.heap[b]?) → RdSc w' L.vs M.scr
  lost : ∀ w' : World, (∀ b, R b → w'.heap[b]? = w.heap[b]?) → LoM w' L.lo M.n M.scr
  xg : X g
  xs : X L.gs
  xm : ∀ i p b, i < L.S.length → (atD sm0 L.S i).bk p = some b → X b
  lt : ∀ b, X b ∨ R b → b < w.heap.size
  dis : ∀ b, X b → ¬ R b
  wf : ∀ s ∈ M.scr, Wf s
  lor : ∀ b, L.lo = some b → R b
def MedW (w : World) (g : Nat) (M : Med) (X R : Nat → Prop) : Prop := ∃ L, MedC w g L M X R
structure Ch (X R X2 R2 : Nat → Prop) (w w' : World) : Prop where
  os : w'.os = w.os
  tape : w'.tape = w.tape
  output : w'.output = w.output
  size : w.heap.size ≤ w'.heap.size
  block : ∀ b, b < w.heap.size → ¬ X b → w'.heap[b]? = w.heap[b]?
  x : ∀ b, X2 b → X b ∨ w.heap.size ≤ b
  r : ∀ b, R2 b → R b ∨ w.heap.size ≤ b
section
variable {X R X2 R2 X3 R3 : Nat → Prop} {w w' w2 : World} {g : Nat} {L : Lay} {M : Med}
theorem Ch.of (h : Below w.heap.size w w') : Ch X R X R w w' := ⟨h.os, h.tape, h.output, h.size, fun b hb _ => h.block b hb, fun _ h => .inl h, fun _ h => .inl h⟩
theorem Ch.refl : Ch X R X R w w := .of (Below.refl _ _)
theorem Ch.trans (h : Ch X R X2 R2 w w') (k : Ch X2 R2 X3 R3 w' w2) : Ch X R X3 R3 w w2 :=
  ⟨k.os.trans h.os, k.tape.trans h.tape, k.output.trans h.output, Nat.le_trans h.size k.size,
   fun b hb hx => (k.block b (Nat.lt_of_lt_of_le hb h.size) (fun h2 => (h.x b h2).elim hx (fun h3 => by omega))).trans (h.block b hb hx),
   fun b h3 => (k.x b h3).elim (h.x b) (fun h4 => .inr (Nat.le_trans h.size h4)), fun b h3 => (k.r b h3).elim (h.r b) (fun h4 => .inr (Nat.le_trans h.size h4))⟩
theorem Ch.below (h : Ch X R X2 R2 w w') (B : Nat) (hB : B ≤ w.heap.size) (hx : ∀ b, X b → B ≤ b) : Below B w w' :=
  ⟨h.os, h.tape, h.output, h.size, fun k hk => h.block k (by omega) (fun h2 => by have := hx k h2; omega)⟩
theorem MedC.n (h : MedC w g L M X R) : L.S.length = M.n := by unfold Med.n; rw [h.secs, List.length_map]
theorem MedC.at_ (h : MedC w g L M X R) (i : Nat) : (atD sm0 L.S i).s = M.sec i := by
  unfold Med.sec atD
  rw [h.secs, List.getElem?_map]
  cases L.S[i]? <;> rfl
theorem MedC.keep (h : MedC w g L M X R) (hs : w.heap.size ≤ w'.heap.size) (hk : ∀ b, X b ∨ R b → w'.heap[b]? = w.heap[b]?) : MedC w' g L M X R :=
  ⟨h.secs, (hk g (.inl h.xg)).trans h.box, (hk _ (.inl h.xs)).trans h.sec, h.cap, fun i p hi => (h.maps i p hi).kept (fun c hc => hk c (.inl (h.xm i p c hi hc))), h.inj,
   fun w2 h2 => h.scr w2 (fun b hb => (h2 b hb).trans (hk b (.inr hb))), fun w2 h2 => h.lost w2 (fun b hb => (h2 b hb).trans (hk b (.inr hb))), h.xg, h.xs, h.xm, fun b hb => Nat.lt_of_lt_of_le (h.lt b hb) hs, h.dis, h.wf, h.lor⟩
theorem MedC.below (h : MedC w g L M X R) (hb : Below w.heap.size w w') : MedC w' g L M X R := h.keep hb.size fun b hx => hb.block b (h.lt b hx)
theorem MedW.below (h : MedW w g M X R) (hb : Below w.heap.size w w') : MedW w' g M X R := by obtain ⟨L, h⟩ := h; exact ⟨L, h.below hb⟩
theorem MedW.apart {Y Q Y2 Q2 : Nat → Prop} (h : MedW w g M X R) (hc : Ch Y Q Y2 Q2 w w') (ha : ∀ b, Y b → ¬ (X b ∨ R b)) : MedW w' g M X R := by
  obtain ⟨L, h⟩ := h
  exact ⟨L, h.keep hc.size fun b hx => hc.block b (h.lt b hx) fun hy => ha b hy hx⟩
theorem MedC.cells (h : MedC w g L M X R) : w.cell? ⟨g, 0, none⟩ = some (.int .i64 M.kind) ∧ w.cell? ⟨g, 1, none⟩ = some (.int .i64 M.endu) ∧ w.cell? ⟨g, 2, none⟩ = some (.slice (some ⟨L.gs, 0, none⟩) L.S.length L.cap) ∧ w.cell? ⟨g, 3, none⟩ = some L.vs ∧ w.cell? ⟨g, 4, none⟩ = some (.map L.lo) :=
  ⟨h.box.cell (i := 0) rfl, h.box.cell (i := 1) rfl, h.box.cell (i := 2) rfl, h.box.cell (i := 3) rfl, h.box.cell (i := 4) rfl⟩
theorem MedC.surf (h : MedC w g L M X R) {i j : Nat} (hi : i < L.S.length) (hj : j < 5) : w.cell? ⟨L.gs, i * 5 + j, none⟩ = (smD (atD sm0 L.S i))[j]? := by
  have h1 := flD_get (d := sm0) smD_len L.S i j hi hj
  have hl : i * 5 + j < (flD smD L.S).length := by rw [flD_length smD_len]; omega
  have h2 : (flD smD L.S ++ L.sp)[i * 5 + j]? = (smD (atD sm0 L.S i))[j]? := by rw [List.getElem?_append_left hl, h1]
  have h3 : (smD (atD sm0 L.S i))[j]? = some ((smD (atD sm0 L.S i))[j]'(by rw [smD_len]; exact hj)) := List.getElem?_eq_getElem _
  rw [h3] at h2 ⊢
  exact h.sec.cell h2
theorem MedC.ne (h : MedC w g L M X R) : g ≠ L.gs := fun e => by
  have h1 := h.box
  have h2 := h.sec
  unfold Bx at h1 h2
  rw [e, h2] at h1
  simp only [Option.some.injEq, Obj.cells.injEq] at h1
  exact absurd h1.2.1 (by decide)
theorem MedC.map_ne (h : MedC w g L M X R) {i : Nat} {p : Bool} {b : Nat} (hi : i < L.S.length) (hb : (atD sm0 L.S i).bk p = some b) : b ≠ g ∧ b ≠ L.gs := by
  obtain ⟨es, clock, hm⟩ := (h.maps i p hi).map hb
  have h1 := h.box
  have h2 := h.sec
  unfold Bx at h1 h2
  refine ⟨fun e => ?_, fun e => ?_⟩
  · rw [e, h1] at hm; simp at hm
  · rw [e, h2] at hm; simp at hm
theorem MedC.store (h : MedC w g L M X R) {i j : Nat} (hi : i < L.S.length) (hj : j < 5) (u : Value) (x : SM) (hx : smD x = (smD (atD sm0 L.S i)).set j u)
    (hW : ∀ p, x.W w p) (hb : ∀ p b, x.bk p = some b → (atD sm0 L.S i).bk p = some b ∨ (¬ X b ∧ ¬ R b ∧ b < w.heap.size)) (hself : ∀ b, x.e = some b → x.c ≠ some b) :
    MedC (w.setCell ⟨L.gs, i * 5 + j, none⟩ u) g { L with S := L.S.set i x } (M.put i x.s) (fun b => X b ∨ x.e = some b ∨ x.c = some b) R := by
  have hne : ∀ k, k ≠ L.gs → (w.setCell ⟨L.gs, i * 5 + j, none⟩ u).heap[k]? = w.heap[k]? := fun k hk => Below.heap_setCell w _ _ k hk
  have hRne : ∀ b, R b → (w.setCell ⟨L.gs, i * 5 + j, none⟩ u).heap[b]? = w.heap[b]? := fun b hR => hne b fun e => h.dis b (e ▸ h.xs) hR
  have hsz : (w.setCell ⟨L.gs, i * 5 + j, none⟩ u).heap.size = w.heap.size := by simp
  have hat : ∀ k, k ≠ i → atD sm0 (L.S.set i x) k = atD sm0 L.S k := fun k hk => atD_set_ne _ _ _ _ hk
  have hati : atD sm0 (L.S.set i x) i = x := atD_set_eq _ _ _ hi
  have hxX : ∀ p b, x.bk p = some b → X b ∨ (¬ X b ∧ ¬ R b ∧ b < w.heap.size) := fun p b hp => (hb p b hp).imp (h.xm i p b hi) id
  have hmapb : ∀ p b, x.bk p = some b → b ≠ L.gs := fun p b hp e => by
    obtain ⟨es, clock, hm⟩ := (hW p).map hp
    have h2 := h.sec
    unfold Bx at h2
    rw [e, h2] at hm
    simp at hm
  refine ⟨?_, (hne g h.ne).trans (by have h1 := h.box; unfold Bx at h1; simpa [Med.put] using h1), ?_, by simpa using h.cap, ?_, ?_, fun w2 h2 => h.scr w2 fun b hR => (h2 b hR).trans (hRne b hR), ?_, .inl h.xg, .inl h.xs, ?_, ?_, ?_, h.wf, h.lor⟩
  · show M.secs.set i x.s = (L.S.set i x).map SM.s
    rw [h.secs, List.map_set]
  · show Bx _ L.gs _ (flD smD (L.S.set i x) ++ L.sp)
    have := h.sec.set (i * 5 + j) u
    rw [List.set_append_left _ _ (by rw [flD_length smD_len]; omega), flD_set smD_len L.S i j hi hj u x hx] at this
    exact this
  · intro k p hk
    simp only [List.length_set] at hk
    by_cases e : k = i
    · subst e; simp only [hati]; exact (hW p).kept fun c hc => hne c (hmapb p c hc)
    · simp only [hat k e]; exact (h.maps k p hk).kept fun c hc => hne c (h.map_ne hk hc).2
  · intro k l p q b hk hl h1 h2
    simp only [List.length_set] at hk hl
    by_cases e : k = i
    · by_cases e2 : l = i
      · subst e e2
        simp only [hati] at h1 h2
        refine ⟨rfl, ?_⟩
        cases p <;> cases q
        · rfl
        · exact absurd h1 (hself b h2)
        · exact absurd h2 (hself b h1)
        · rfl
      · subst e
        simp only [hati] at h1
        simp only [hat l e2] at h2
        rcases hb p b h1 with h3 | h3
        · exact h.inj k l p q b hk hl h3 h2
        · exact absurd (h.xm l q b hl h2) h3.1
    · by_cases e2 : l = i
      · subst e2
        simp only [hati] at h2
        simp only [hat k e] at h1
        rcases hb q b h2 with h3 | h3
        · exact h.inj k l p q b hk hl h1 h3
        · exact absurd (h.xm k p b hk h1) h3.1
      · simp only [hat k e] at h1
        simp only [hat l e2] at h2
        exact h.inj k l p q b hk hl h1 h2
  · rw [Med.put_n]
    exact fun w2 h2 => h.lost w2 fun b hR => (h2 b hR).trans (hRne b hR)
  · intro k p b hk h1
    simp only [List.length_set] at hk
    by_cases e : k = i
    · subst e
      simp only [hati] at h1
      cases p
      · exact .inr (.inr h1)
      · exact .inr (.inl h1)
    · simp only [hat k e] at h1
      exact .inl (h.xm k p b hk h1)
  · rw [hsz]
    rintro b ((h1 | h1 | h1) | h1)
    · exact h.lt b (.inl h1)
    · rcases hxX true b h1 with h2 | h2
      · exact h.lt b (.inl h2)
      · exact h2.2.2
    · rcases hxX false b h1 with h2 | h2
      · exact h.lt b (.inl h2)
      · exact h2.2.2
    · exact h.lt b (.inr h1)
  · rintro b (h1 | h1 | h1)
    · exact h.dis b h1
    · rcases hxX true b h1 with h2 | h2
      · exact h.dis b h2
      · exact h2.2.1
    · rcases hxX false b h1 with h2 | h2
      · exact h.dis b h2
      · exact h2.2.1
theorem MedC.grown (h : MedC w g L M X R) {i b : Nat} {p : Bool} (hi : i < L.S.length) (hb : (atD sm0 L.S i).bk p = some b) (hg : w.grownBy w' (some b)) (x : SM) (hx : smD x = smD (atD sm0 L.S i)) (hxe : x.e = (atD sm0 L.S i).e) (hxc : x.c = (atD sm0 L.S i).c)
    (hW : x.W w' p) (hW2 : x.W w (!p)) : MedC w' g { L with S := L.S.set i x } (M.put i x.s) X R ∧ Ch X R X R w w' := by
  have hbX := h.xm i p b hi hb
  have hne : ∀ k, k < w.heap.size → k ≠ b → w'.heap[k]? = w.heap[k]? := fun k hk hkb => hg.block k hk (fun e => hkb (Option.some.inj e))
  have hRne : ∀ k, R k → w'.heap[k]? = w.heap[k]? := fun k hR => hne k (h.lt k (.inr hR)) fun e => h.dis b hbX (e ▸ hR)
  have hat : ∀ k, k ≠ i → atD sm0 (L.S.set i x) k = atD sm0 L.S k := fun k hk => atD_set_ne _ _ _ _ hk
  have hati : atD sm0 (L.S.set i x) i = x := atD_set_eq _ _ _ hi
  have hbk : ∀ k q, (atD sm0 (L.S.set i x) k).bk q = (atD sm0 L.S k).bk q := fun k q => by
    by_cases e : k = i
    · subst e
      rw [hati]
      cases q
      · exact hxc
      · exact hxe
    · rw [hat k e]
  obtain ⟨m1, m2⟩ := h.map_ne hi hb
  refine ⟨⟨?_, (hne g (h.lt g (.inl h.xg)) (Ne.symm m1)).trans (by have h1 := h.box; unfold Bx at h1; simpa [Med.put] using h1), ?_, by simpa using h.cap, ?_, ?_, fun w2 h2 => h.scr w2 fun b hR => (h2 b hR).trans (hRne b hR), ?_, h.xg, h.xs, ?_, fun k hk => Nat.lt_of_lt_of_le (h.lt k hk) hg.size, h.dis, h.wf, h.lor⟩,
    ⟨hg.os, hg.tape, hg.output, hg.size, fun k hk hX => hne k hk fun e => hX (e ▸ hbX), fun _ h => .inl h, fun _ h => .inl h⟩⟩
  · show M.secs.set i x.s = (L.S.set i x).map SM.s
    rw [h.secs, List.map_set]
  · have e := flD_set (d := sm0) smD_len L.S i 0 hi (by decide) (.int .i64 (atD sm0 L.S i).s.st) x (by rw [hx]; rfl)
    have e2 : (flD smD L.S).set (i * 5 + 0) (.int .i64 (atD sm0 L.S i).s.st) = flD smD L.S := by
      have h0 := flD_get (d := sm0) smD_len L.S i 0 hi (by decide)
      apply List.ext_getElem?
      intro k
      rw [List.getElem?_set]
      split
      · rename_i e3
        subst e3
        rw [h0]
        have : i * 5 + 0 < (flD smD L.S).length := by rw [flD_length smD_len]; omega
        rw [if_pos this]
        rfl
      · rfl
    rw [e2] at e
    show Bx w' L.gs _ (flD smD (L.S.set i x) ++ L.sp)
    rw [← e]
    exact (hne L.gs (h.lt _ (.inl h.xs)) (Ne.symm m2)).trans h.sec
  · intro k q hk
    simp only [List.length_set] at hk
    by_cases e : k = i
    · subst e
      simp only [hati]
      by_cases e2 : q = p
      · subst e2; exact hW
      · have e3 : q = !p := by cases q <;> cases p <;> simp_all
        subst e3
        refine hW2.kept fun c hc => hne c ?_ ?_
        · have h1 := hbk k (!p)
          rw [hati] at h1
          exact h.lt c (.inl (h.xm k (!p) c hk (h1 ▸ hc)))
        · rintro rfl
          have h1 := hbk k (!p)
          rw [hati] at h1
          have h2 := h.inj k k (!p) p c hk hk (h1 ▸ hc) hb
          cases p <;> simp at h2
    · simp only [hat k e]
      refine (h.maps k q hk).kept fun c hc => hne c (h.lt c (.inl (h.xm k q c hk hc))) fun e2 => ?_
      subst e2
      exact e (h.inj k i q p c hk hi hc hb).1
  · intro k l q r c hk hl h1 h2
    simp only [List.length_set] at hk hl
    simp only [hbk] at h1 h2
    exact h.inj k l q r c hk hl h1 h2
  · rw [Med.put_n]
    exact fun w2 h2 => h.lost w2 fun b hR => (h2 b hR).trans (hRne b hR)
  · intro k q c hk h1
    simp only [List.length_set] at hk
    simp only [hbk] at h1
    exact h.xm k q c hk h1
end
end Go.Proofs.YtflmjdjkfognjaaGreat.D12
namespace Go.Proofs.YtflmjdjkfognjaaGreat.D12
open Go.RowKit Go.Maps C9
open W8 (is)
set_option linter.unusedVariables false
theorem retB12 {a b : Bool} (h : a = b) : (Ending.returned (.bool a)) = .returned (.bool b) := by rw [h]
set_option maxRecDepth 100000 in
set_option maxHeartbeats 1000000 in
theorem has12 {w : World} {g : Nat} {L : Lay} {M : Med} {X R : Nat → Prop} (h : MedC w g L M X R) (hn : M.n ≤ 4096) (b : Int) :
    Calls Tryz.prog 126 #[.pointer (some ⟨g, 0, none⟩), .int .i64 b] w fun e w' => e = .returned (.bool (decide (0 ≤ b ∧ b < M.n))) ∧ w = w' := by
  obtain ⟨c0, c1, c2, c3, c4⟩ := h.cells
  have e := h.n
  rw [e] at c2
  generalize M.n = n at *
  clear h e
  by_cases h0 : 0 ≤ b
  · by_cases h1 : b < (n : Int)
    · rw [decide_eq_true ⟨h0, h1⟩]
      go_enter Tryz.func126, Tryz.ntmps126
      go_wp2_with fail
      go_ret
      exact ⟨retB12 (by simp), rfl⟩
    · rw [decide_eq_false fun e => h1 e.2]
      go_enter Tryz.func126, Tryz.ntmps126
      go_wp2_with fail
      go_ret
      exact ⟨retB12 (by simp), rfl⟩
  · rw [decide_eq_false fun e => h0 e.1]
    go_enter Tryz.func126, Tryz.ntmps126
    go_wp2_with fail
    go_ret
    exact ⟨retB12 (by simp), rfl⟩
def RetQ (v : Value) (w : World) (e : Ending) (w' : World) : Prop := e = .returned v ∧ Below w.heap.size w w'
set_option maxRecDepth 100000 in
set_option maxHeartbeats 1000000 in
theorem state12 {w : World} {g : Nat} {M : Med} {X R : Nat → Prop} (h : MedW w g M X R) (hn : M.n ≤ 4096) (b : Int) :
    Calls Tryz.prog 128 #[.pointer (some ⟨g, 0, none⟩), .int .i64 b] w (RetQ (.tuple #[.int .i64 (M.stateR b).1, .int .i64 (M.stateR b).2]) w) := by
  obtain ⟨L, h⟩ := h
  obtain ⟨c0, c1, c2, c3, c4⟩ := h.cells
  have HH := Lib.hid (has12 h hn b)
  have e := h.n
  have HS := Lib.hid h
  rw [e] at c2
  clear h
  unfold Med.stateR
  by_cases hr : 0 ≤ b ∧ b < (M.n : Int)
  · rw [if_pos hr]
    rw [decide_eq_true hr] at HH
    obtain ⟨k, rfl⟩ : ∃ k : Nat, b = k := ⟨b.toNat, by omega⟩
    have hk : k < M.n := by omega
    have s0 := HS.out.surf (i := k) (j := 0) (by omega) (by decide)
    simp only [smD, List.getElem?_cons_zero, HS.out.at_, Nat.add_zero] at s0
    have e1 : ((k : Int)).toNat = k := by simp
    rw [e1]
    generalize M.n = n at *
    generalize L.gs = gs at *
    clear hr HS e
    go_enter Tryz.func128, Tryz.ntmps128
    go_wp2_with fail
    refine HH.out.mono ?_
    rintro e w' ⟨rfl, rfl⟩
    go_wp2_with fail
    go_ret2
    exact ⟨rfl, Below.refl _ _⟩
  · rw [if_neg hr]
    rw [decide_eq_false hr] at HH
    clear hr
    go_enter Tryz.func128, Tryz.ntmps128
    go_wp2_with fail
    refine HH.out.mono ?_
    rintro e w' ⟨rfl, rfl⟩
    go_wp2_with fail
    go_ret2
    exact ⟨rfl, Below.refl _ _⟩
end Go.Proofs.YtflmjdjkfognjaaGreat.D12
namespace Go.Proofs.YtflmjdjkfognjaaGreat.D12
open Go.RowKit Go.Maps C9
open W8 (is)
set_option linter.unusedVariables false
def WrP (Z : Int × Med) (g : Nat) (X R : Nat → Prop) (w : World) (e : Ending) (w' : World) : Prop := e = .returned (.int .i64 Z.1) ∧ ∃ X2 R2, MedW w' g Z.2 X2 R2 ∧ Ch X R X2 R2 w w'
section
variable {X R : Nat → Prop} {w w' : World} {g : Nat} {L : Lay} {M : Med}
end
theorem Med.put_put (M : Med) (i : Nat) (s t : Sec) : (M.put i s).put i t = M.put i t := by simp [Med.put]
end Go.Proofs.YtflmjdjkfognjaaGreat.D12
namespace Go.Proofs.YtflmjdjkfognjaaGreat.D12
open Go.RowKit Go.Maps C9
open W8 (is)
set_option linter.unusedVariables false
theorem WrP.same {g : Nat} {X R : Nat → Prop} {w w' : World} {M : Med} {c : Int} (h : MedW w g M X R) (hb : Below w.heap.size w w') : WrP (c, M) g X R w (.returned (.int .i64 c)) w' := ⟨rfl, X, R, h.below hb, .of hb⟩
end Go.Proofs.YtflmjdjkfognjaaGreat.D12
namespace Go.Proofs.YtflmjdjkfognjaaGreat.D12
open Go.RowKit Go.Maps C9
open W8 (is)
set_option linter.unusedVariables false
theorem made_flD {α : Type} (D : α → List Value) (x : α) (sz n : Nat) (h0 : 0 < sz) (hD : ∀ y, (D y).length = sz) : (madeCells (D x).toArray (n * sz)).toList = flD D (List.replicate n x) := by
  apply List.ext_getElem?
  intro k
  by_cases hk : k < n * sz
  · have e : k / sz * sz + k % sz = k := by rw [Nat.mul_comm]; exact Nat.div_add_mod k sz
    have hki : k / sz < n := Nat.div_lt_of_lt_mul (by rw [Nat.mul_comm]; exact hk)
    have hkj : k % sz < sz := Nat.mod_lt _ h0
    have h2 := flD_get (d := x) hD (List.replicate n x) (k / sz) (k % sz) (by simpa using hki) hkj
    rw [e] at h2
    have e3 : atD x (List.replicate n x) (k / sz) = x := by simp [atD, hki]
    rw [h2, e3]
    have hlt : k % sz < (D x).length := by rw [hD]; exact hkj
    simp only [madeCells, Array.toList_map, Array.toList_range, List.getElem?_map, List.getElem?_range hk, Option.map_some, List.size_toArray, hD]
    rw [getElem!_pos _ _ (by simpa using hlt), List.getElem?_eq_getElem hlt]
    simp
  · rw [List.getElem?_eq_none (by simp [madeCells]; omega), List.getElem?_eq_none (by rw [flD_length hD]; simp; omega)]
theorem Tryz.infoSurf : (Tryz.prog.info? 216).map (fun i => (i.zero, i.size, i.bytes)) = some (some (.agg (smD sm0).toArray), 5, 48) := by kernel_rfl
end Go.Proofs.YtflmjdjkfognjaaGreat.D12
namespace Go.Proofs.YtflmjdjkfognjaaGreat.T7
open Go Go.RowKit C9 D12
set_option linter.unusedVariables false
set_option maxRecDepth 100000 in
set_option maxHeartbeats 4000000 in
theorem raw7 (lba : Int) (d : List UInt8) (w : World) (h0 : -150 ≤ lba) (h1 : lba ≤ 449849) (hd : d.length = 2048) :
    Calls Tryz.prog 56 #[.int .i64 lba, .string (str d)] w fun e w' => e = .returned (.string (str (rec lba d))) ∧ Below w.heap.size w w' := by
  have HB := Lib.hid (fun W => build_0 lba d W h0 h1 hd)
  have HE := Lib.hid (fun W => encode_0 lba d hd W)
  have HS := Lib.hid (fun W => scramble_0 lba d hd W)
  unfold secV at HB
  generalize str (rec lba d) = R at *
  generalize str (par lba d) = P at *
  generalize str (bld lba d) = BL at *
  generalize str d = D at *
  clear h0 h1 hd
  go_enter Tryz.func56, Tryz.ntmps56
  go_wp2_with fail
  refine (HB.out w).mono ?_
  rintro e w1 ⟨rfl, hb1⟩
  go_wp2_with fail
  refine (HE.out w1).mono ?_
  rintro e w2 ⟨rfl, hb2⟩
  go_wp2_with fail
  refine (HS.out w2).mono ?_
  rintro e w3 ⟨rfl, hb3⟩
  have h2 := hb1.trans (hb2.mono hb1.size)
  have HL := Lib.hid (h2.trans (hb3.mono h2.size))
  clear hb1 hb2 hb3 h2
  go_wp2_with fail
  go_ret
  exact ⟨rfl, HL.out⟩
def lenP (n : Nat) (x : List UInt8) : Bool := decide (x.length ≠ n)
theorem mpress1 (x : List UInt8) (hx : x.length ≤ 9223372036854775807) (W : World) : Calls Tryz.prog 121 #[.string (str x)] W fun e w' => e = .returned (.bool (lenP 2352 x)) ∧ W = w' := by
  have hsz := str_size x
  have hsz2 : (str x).data.size = x.length := hsz
  unfold lenP
  generalize str x = s at *
  generalize x.length = n at *
  go_enter Tryz.func121, Tryz.ntmps121
  go_wp2_with fail
  go_ret
  exact ⟨retB (by by_cases h : n = 2352 <;> simp [h] <;> omega), rfl⟩
def recS (l : List UInt8) : SM := ⟨⟨1, 1, l, fun _ => false, fun _ => 0⟩, none, none⟩
def medPress (l : List (List UInt8)) : Med := ⟨0, 1, l.map fun s => (recS s).s, []⟩
theorem medPress_n (l : List (List UInt8)) : (medPress l).n = l.length := by simp [medPress, Med.n]
theorem medPress_sec (l : List (List UInt8)) {i : Nat} (h : i < l.length) : (medPress l).sec i = (recS (atD [] l i)).s := by
  simp [medPress, Med.sec, atD, h]
theorem medPress_ok {l : List (List UInt8)} (h1 : 1 ≤ l.length) (h2 : l.length ≤ 4096) (hl : ∀ i, i < l.length → (atD [] l i).length = 2352) : (medPress l).Ok 1 := by
  refine ⟨by simp [medPress], by simp [medPress], by rw [medPress_n]; exact ⟨h1, h2⟩, fun i hi => ?_, by simp [medPress], by simp [medPress, fitA]⟩
  rw [medPress_n] at hi
  rw [medPress_sec l hi]
  exact ⟨by simp [recS], by simp [recS], fun _ => hl i hi, by simp only [recS]; rw [hl i hi]; exact Nat.le_refl _, by simp [recS], by simp [recS]⟩
def PressP (l : List (List UInt8)) (w : World) (e : Ending) (w' : World) : Prop := ∃ g X R, e = .returned (.tuple #[.pointer (some ⟨g, 0, none⟩), .int .i64 0]) ∧ MedW w' g (medPress l) X R ∧ Below w.heap.size w w' ∧ ∀ b, X b ∨ R b → w.heap.size ≤ b
theorem press_med {w' : World} {l : List (List UInt8)} {B gm gs c : Nat} (hx : Bx w' gm 214 [.int .i64 0, .int .i64 1, .slice (some ⟨gs, 0, none⟩) l.length c, .slice none 0 0, .map none])
    (ho : w'.ownsRow B 216 5 (.slice (some ⟨gs, 0, none⟩) l.length c) l.length (flD smD (l.map recS))) :
    MedW w' gm (medPress l) (fun b => b = gs ∨ b = gm) (fun _ => False) := by
  obtain ⟨hlen, h | ⟨g, cap, cur, hv, hB, hg, hc1, hc2, hs, ht⟩⟩ := ho
  · simp at h
  simp only [Value.slice.injEq, Option.some.injEq, Addr.mk.injEq, and_true, true_and] at hv
  obtain ⟨rfl, rfl⟩ := hv
  have hat : ∀ i, i < l.length → atD sm0 (l.map recS) i = recS (atD [] l i) := fun i hi => by simp [atD, hi]
  refine ⟨⟨l.map recS, gs, cur.toList.drop (l.length * 5), c, .slice none 0 0, none⟩, ?_, ?_, ?_, by simpa using hc1, ?_, ?_, ?_, ?_, .inr rfl, .inl rfl, ?_, ?_, fun b _ h => h, fun s hs => (by cases hs), fun b hb => by cases hb⟩
  · simp [medPress]
  · rw [List.length_map]
    exact hx
  · show w'.heap[gs]? = _
    rw [hg, ← ht, List.take_append_drop]
  · intro i p hi
    simp only [List.length_map] at hi
    simp only [hat i hi]
    cases p
    · exact fun _ => rfl
    · exact fun _ => rfl
  · intro i j p q b hi hj h1 h2
    simp only [List.length_map] at hi
    simp only [hat i hi] at h1
    cases p <;> simp [SM.bk, recS] at h1
  · intro w2 _
    exact RdD.nil w2
  · intro w2 _ i hi
    show lostS _ [] i = []
    have e : ∀ m, lostN [] m = [] := fun m => lostN_none (fun f => by
      have : ersK [] f 28 = [] := by simp [ersK, gon]
      rw [ers, this]; decide) m
    simp [lostS, lostP, lostL, e]
  · intro i p b hi h1
    simp only [List.length_map] at hi
    simp only [hat i hi] at h1
    cases p <;> simp [SM.bk, recS] at h1
  · rintro b ((rfl | rfl) | h)
    · exact (Array.getElem?_eq_some_iff.1 hg).1
    · exact hx.lt
    · exact h.elim
theorem smD_oneP (x : SM) : ∀ u ∈ smD x, u.oneCell' = true := fun u hu => by
  simp only [smD, List.mem_cons, List.not_mem_nil, or_false] at hu
  rcases hu with rfl | rfl | rfl | rfl | rfl <;> rfl
def MpS (l : List (List UInt8)) (w : World) (gm i : Nat) (wr : World) : Prop := ∃ vs, Bx wr gm 214 [.int .i64 0, .int .i64 1, vs, .slice none 0 0, .map none] ∧ wr.ownsRow (gm + 1) 216 5 vs i (flD smD ((l.take i).map recS)) ∧ Below gm w wr
set_option maxRecDepth 100000 in
set_option maxHeartbeats 4000000 in
theorem mpress7 (v : Value) (l : List (List UInt8)) (w : World) (hr : RdStr w v l) (h1 : 1 ≤ l.length) (h2 : l.length ≤ 4096) (hl : ∀ i, i < l.length → (atD [] l i).length = 2352) :
    Calls Tryz.prog 57 #[v] w (PressP l w) := by
  have hl' : ∀ x ∈ l, x.length = 2352 := fun x hx => by
    obtain ⟨i, hi, rfl⟩ := List.getElem_of_mem hx
    have := hl i hi
    simpa [atD, hi] using this
  have HF := Lib.hid (contf7 121 (fun _ _ => by kernel_rfl) (lenP 2352) v l w hr (by omega) (fun x W hx => mpress1 x (by rw [hl' x hx]; omega) W))
  have hany : anyS (lenP 2352) l = false := anyS_no fun i hi => by unfold lenP; rw [hl i hi]; decide
  rw [hany] at HF
  obtain ⟨a, c, rfl, _⟩ := RdD.form hr
  obtain ⟨b, o, k⟩ := RdD.at hr
  have HK := Lib.hid k
  clear hr k hany hl hl'
  go_enter Tryz.func57, Tryz.ntmps57
  go_wp2_with fail
  refine HF.out.mono ?_
  rintro e w1 ⟨rfl, rfl⟩
  clear HF
  have hx0 : Bx (w.alloc (.cells #[.int .i64 0, .int .i64 1, .slice none 0 0, .slice none 0 0, .map none] 214)) w.heap.size 214 [.int .i64 0, .int .i64 1, .slice none 0 0, .slice none 0 0, .map none] := Bx.new w _ _
  have hb0 := (Below.refl w.heap.size w).alloc (Nat.le_refl _) (.cells #[.int .i64 0, .int .i64 1, .slice none 0 0, .slice none 0 0, .map none] 214)
  obtain ⟨gm, hgm⟩ : ∃ gm, gm = w.heap.size := ⟨_, rfl⟩
  have Hgm := Lib.hid hgm
  rw [← hgm] at hx0 hb0
  have HX0 := Lib.hid hx0
  have HB0 := Lib.hid hb0
  clear hgm hx0 hb0
  go_wp2_with fail
  go_loopw [23] (fun vi wr => ∃ i : Nat, i ≤ l.length ∧ vi = .int .i64 i ∧ MpS l w gm i wr) (fun vi _ => l.length - (intOf vi).toNat)
  case atStart => exact ⟨0, by omega, rfl, .slice none 0 0, HX0.out, ⟨rfl, .inl ⟨rfl, rfl⟩⟩, HB0.out⟩
  case round =>
    obtain ⟨i, hi, rfl, vs, hx, ho, hb⟩ := hrel
    have HM0 := Lib.hid (show gm = w.heap.size from Hgm.out)
    rw [← HM0.out]
    by_cases hlt : i < l.length
    · obtain ⟨ha, hrange⟩ := HK.out i hlt
      have hix := fun w' => run_idxS Tryz.underlying47 (by kernel_rfl : (Tryz.prog.info? 9).map (·.size) = some 1) (cap := c) ha hlt (i : Int) rfl w'
      have hcl0 : w.cell? ⟨b, o + i * 1, none⟩ = some (.string (str (atD [] l i))) := hrange 0 _ rfl
      have hbl := World.block_lt_of_cell? w _ hcl0
      have hcl : wr.cell? ⟨b, o + i * 1, none⟩ = some (.string (str (atD [] l i))) := (hb.cell (p := ⟨b, o + i * 1, none⟩) (by rw [HM0.out]; exact hbl)).trans hcl0
      simp only [Nat.mul_one] at hix hcl
      obtain ⟨x, hxx⟩ : ∃ x, x = atD [] l i := ⟨_, rfl⟩
      rw [← hxx] at hcl
      have HT : Hid ((l.take (i + 1)).map recS = (l.take i).map recS ++ [recS x]) := Lib.hid (by rw [hxx, List.take_succ_eq_append_getElem hlt, List.map_append]; simp [atD, hlt])
      have hln : ((l.take i).map recS).length = i := by simp; omega
      have hc2 := hx.cell (i := 2) rfl
      have HA : Hid (∀ W : World, Below wr.heap.size wr W → wr.heap.size ≤ W.heap.size → Bx W gm 214 [.int .i64 0, .int .i64 1, vs, .slice none 0 0, .map none] ∧ W.ownsRow (gm + 1) 216 5 vs i (flD smD ((l.take i).map recS)) ∧ Below gm w W) := Lib.hid fun W h _ => ⟨hx.call h, ownD_keep ho h, hb.trans (h.mono (Nat.le_of_lt hx.lt))⟩
      have hgl := hx.lt
      have hal := (Below.refl wr.heap.size wr).alloc (Nat.le_refl _) (.cells #[.int .i64 1, .int .i64 1, .string (str x), .map none, .map none] 216)
      obtain ⟨hxa, hoa, hba⟩ := HA.out _ hal hal.size
      have hrd : RdD sm0 smD 5 (wr.alloc (.cells #[.int .i64 1, .int .i64 1, .string (str x), .map none, .map none] 216)) (.slice (some ⟨wr.heap.size, 0, none⟩) 1 1) [recS x] := RdD.one (by omega) smD_len wr _ (recS x)
      generalize (l.take i).map recS = L at *
      have hbas : gm + 1 ≤ (wr.alloc (.cells #[.int .i64 1, .int .i64 1, .string (str x), .map none, .map none] 216)).heap.size := by simp only [World.size_alloc]; omega
      have HXA := Lib.hid hxa
      have HBA := Lib.hid hba
      have HX := Lib.hid hxx
      have Hha := Lib.hid ha
      clear hx ho hb hxx ha hrange hcl0 hxa hba HA hal HB0 HX0
      go_wp2_with (at_builtin; refine wpList_appD (d := sm0) (D := smD) (l := L) (m := [recS x]) rfl _ _ rfl Tryz.underlying211 Tryz.infoSurf rfl (by omega) smD_len smD_oneP hoa rfl hrd rfl (by unfold maxLen; simp only [List.length_singleton]; omega) (by simp only [List.length_singleton]; omega) hbas ?_; intro v7 w7 hown7 hgr7; obtain ⟨a7, c7, rfl⟩ := ownD_form hown7; have hbx7 := bx_off HXA.out hgr7 (fun h => by have := ownD_block hoa gm h; omega); have hb7 := HBA.out.grown hgr7 (by omega) (fun q hq => by have := ownD_block hoa q hq; omega); have hc7 := hbx7.cell (i := 2) rfl; have hf7 := hbx7.free 2; clear hoa hbas hrd hgr7 hc2)
      go_roundw
      case rel =>
        refine ⟨i + 1, by omega, by go_num, _, hbx7.set 2 _, ?_, hb7.setCell (Nat.le_refl _) _⟩
        rw [HT.out]
        exact ownD_far hown7 (by simp only; omega) _
      case measure => simp [intOf]; omega
    · obtain rfl : i = l.length := by omega
      rw [List.take_of_length_le (Nat.le_refl _)] at ho
      have ho5 := ho
      obtain ⟨gs, cp, rfl, hgs, _⟩ := ownD_addr ho (by omega)
      have HM := Lib.hid (press_med hx ho5)
      have HB := Lib.hid hb
      clear hx ho ho5 hb HB0 HX0
      go_wp2_with fail
      go_ret2
      refine ⟨_, _, _, rfl, HM.out, by rw [← HM0.out]; exact HB.out, ?_⟩
      rintro b9 ((rfl | rfl) | h)
      · rw [← HM0.out]; omega
      · exact Nat.le_of_eq HM0.out.symm
      · exact h.elim
end Go.Proofs.YtflmjdjkfognjaaGreat.T7
