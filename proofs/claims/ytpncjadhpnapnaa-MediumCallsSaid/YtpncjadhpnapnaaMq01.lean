/- Chapter 12: a medium in memory. -/
import Derived.Test.YtpncjadhpnapnaaFa
import Derived.Test.YtpncjadhpnapnaaMb
import Derived.Test.YtpncjadhpnapnaaMq00
import Derived.Test.YtpncjadhpnapnaaRi
import Derived.IntWalk
import Derived.Outline
namespace Go.Proofs.Ytpncjadhpnapnaa.D12
open Go.RowKit Go.Maps C9
open D13 (RdI)
set_option linter.unusedVariables false

/-- the erased offsets as a map; nil or not -/
def ErM (w : World) (b : Option Nat) (f : Nat → Bool) : Prop :=
  match b with
  | none => ∀ k, f k = false
  | some b => ∃ D : DataW Unit, w.ownsMap Try.prog 3 (plainElem Try.prog 4) b 2352 D ∧ ∀ x : Int, Maps.has D (.int .i64 x) = (decide (0 ≤ x) && f x.toNat)
/-- the changed bytes as a map; nil or not -/
def ChM (w : World) (b : Option Nat) (f : Nat → UInt8) : Prop :=
  match b with
  | none => ∀ k, f k = 0
  | some b => ∃ D : DataW Unit, w.ownsMap Try.prog 3 (plainElem Try.prog 5) b 2352 D ∧ (∀ x : Int, Maps.has D (.int .i64 x) = true → 0 ≤ x ∧ x < 2352) ∧ ∀ k : Nat, k < 2352 → D.atKey (.int .i64 k) (.lit (.int .u8 0)) = .lit (.int .u8 (f k).toNat)
theorem ErM.kept {w w' : World} {b : Option Nat} {f : Nat → Bool} (h : ErM w b f) (hk : ∀ c, b = some c → w'.heap[c]? = w.heap[c]?) : ErM w' b f := by
  cases b with
  | none => exact h
  | some b =>
    obtain ⟨D, ⟨es, clock, hb, F, hs, hD⟩, hf⟩ := h
    exact ⟨D, ⟨es, clock, (hk b rfl).trans hb, F, hs, hD⟩, hf⟩
theorem ChM.kept {w w' : World} {b : Option Nat} {f : Nat → UInt8} (h : ChM w b f) (hk : ∀ c, b = some c → w'.heap[c]? = w.heap[c]?) : ChM w' b f := by
  cases b with
  | none => exact h
  | some b =>
    obtain ⟨D, ⟨es, clock, hb, F, hs, hD⟩, hf⟩ := h
    exact ⟨D, ⟨es, clock, (hk b rfl).trans hb, F, hs, hD⟩, hf⟩
theorem ErM.map {w : World} {b : Nat} {f : Nat → Bool} (h : ErM w (some b) f) : ∃ es clock, w.heap[b]? = some (.map es clock) := by
  obtain ⟨D, ⟨es, clock, hb, F, hs, hD⟩, hf⟩ := h
  exact ⟨es, clock, hb⟩
theorem ChM.map {w : World} {b : Nat} {f : Nat → UInt8} (h : ChM w (some b) f) : ∃ es clock, w.heap[b]? = some (.map es clock) := by
  obtain ⟨D, ⟨es, clock, hb, F, hs, hD⟩, hf⟩ := h
  exact ⟨es, clock, hb⟩
/-- the lost offsets of a sector, in order -/
def lostS (n : Nat) (scr : List Sc) (i : Nat) : List Int := ((List.range 2352).filter (lostP n scr i)).map Int.ofNat
/-- the lost offsets of the sectors as a map; nil or not -/
def LoM (w : World) (b : Option Nat) (n : Nat) (scr : List Sc) : Prop :=
  match b with
  | none => ∀ i, i < n → lostS n scr i = []
  | some b => ∃ N, N ≤ 100000000 ∧ ∃ D : DataW Value, w.ownsMap Try.prog 3 Mp.rawE b N D ∧ ∀ i, i < n → ∃ v, D.atKey (.int .i64 (i : Nat)) (.held (.slice none 0 0)) = .held v ∧ RdI w v (lostS n scr i)
/-- a sector and the blocks of its maps -/
structure SM where
  s : Sec
  e : Option Nat
  c : Option Nat
def sm0 : SM := ⟨blank, none, none⟩
def smD (x : SM) : List Value := [.int .i64 x.s.st, .int .i64 x.s.cnt, .string (str x.s.raw), .map x.e, .map x.c]
theorem smD_len (x : SM) : (smD x).length = 5 := rfl
def SM.bk (x : SM) (p : Bool) : Option Nat := if p = true then x.e else x.c
def SM.W (w : World) (p : Bool) (x : SM) : Prop := if p = true then ErM w x.e x.s.er else ChM w x.c x.s.ch
theorem SM.W.kept {w w' : World} {p : Bool} {x : SM} (h : x.W w p) (hk : ∀ c, x.bk p = some c → w'.heap[c]? = w.heap[c]?) : x.W w' p := by
  cases p with
  | true => exact ErM.kept h hk
  | false => exact ChM.kept h hk
theorem SM.W.map {w : World} {p : Bool} {x : SM} {b : Nat} (h : x.W w p) (hb : x.bk p = some b) : ∃ es clock, w.heap[b]? = some (.map es clock) := by
  cases p with
  | true =>
    have e : x.e = some b := hb
    have h' : ErM w x.e x.s.er := h
    rw [e] at h'
    exact h'.map
  | false =>
    have e : x.c = some b := hb
    have h' : ChM w x.c x.s.ch := h
    rw [e] at h'
    exact h'.map
/-- where a medium lies: the sectors' block, what stands behind them, the scratches, the map of the lost offsets -/
structure Lay where
  S : List SM
  gs : Nat
  sp : List Value
  cap : Nat
  vs : Value
  lo : Option Nat
/-- the medium at block 'g': 'X' are the blocks that its calls write, 'R' those that are only read -/
structure MedC (w : World) (g : Nat) (L : Lay) (M : Med) (X R : Nat → Prop) : Prop where
  secs : M.secs = L.S.map SM.s
  box : Bx w g 88 [.int .i64 M.kind, .int .i64 M.endu, .slice (some ⟨L.gs, 0, none⟩) L.S.length L.cap, L.vs, .map L.lo]
  sec : Bx w L.gs 101 (flD smD L.S ++ L.sp)
  cap : L.S.length ≤ L.cap
  maps : ∀ i p, i < L.S.length → (atD sm0 L.S i).W w p
  inj : ∀ i j p q b, i < L.S.length → j < L.S.length → (atD sm0 L.S i).bk p = some b → (atD sm0 L.S j).bk q = some b → i = j ∧ p = q
  scr : ∀ w' : World, (∀ b, R b → w'.heap[b]? = w.heap[b]?) → RdSc w' L.vs M.scr
  lost : ∀ w' : World, (∀ b, R b → w'.heap[b]? = w.heap[b]?) → LoM w' L.lo M.n M.scr
  xg : X g
  xs : X L.gs
  xm : ∀ i p b, i < L.S.length → (atD sm0 L.S i).bk p = some b → X b
  lt : ∀ b, X b ∨ R b → b < w.heap.size
  dis : ∀ b, X b → ¬ R b
  wf : ∀ s ∈ M.scr, Wf s
  lor : ∀ b, L.lo = some b → R b
def MedW (w : World) (g : Nat) (M : Med) (X R : Nat → Prop) : Prop := ∃ L, MedC w g L M X R
/-- only blocks of 'X' turn; 'X2' and 'R2' hold new blocks beside -/
structure Ch (X R X2 R2 : Nat → Prop) (w w' : World) : Prop where
  os : w'.os = w.os
  tape : w'.tape = w.tape
  output : w'.output = w.output
  size : w.heap.size ≤ w'.heap.size
  block : ∀ b, b < w.heap.size → ¬ X b → w'.heap[b]? = w.heap[b]?
  x : ∀ b, X2 b → X b ∨ w.heap.size ≤ b
  r : ∀ b, R2 b → R b ∨ w.heap.size ≤ b
section
variable {X R X2 R2 X3 R3 : Nat → Prop} {w w' w2 : World} {g : Nat} {L : Lay} {M : Med}
theorem Ch.of (h : Below w.heap.size w w') : Ch X R X R w w' := ⟨h.os, h.tape, h.output, h.size, fun b hb _ => h.block b hb, fun _ h => .inl h, fun _ h => .inl h⟩
theorem Ch.refl : Ch X R X R w w := .of (Below.refl _ _)
theorem Ch.trans (h : Ch X R X2 R2 w w') (k : Ch X2 R2 X3 R3 w' w2) : Ch X R X3 R3 w w2 :=
  ⟨k.os.trans h.os, k.tape.trans h.tape, k.output.trans h.output, Nat.le_trans h.size k.size,
   fun b hb hx => (k.block b (Nat.lt_of_lt_of_le hb h.size) (fun h2 => (h.x b h2).elim hx (fun h3 => by omega))).trans (h.block b hb hx),
   fun b h3 => (k.x b h3).elim (h.x b) (fun h4 => .inr (Nat.le_trans h.size h4)), fun b h3 => (k.r b h3).elim (h.r b) (fun h4 => .inr (Nat.le_trans h.size h4))⟩
theorem Ch.below (h : Ch X R X2 R2 w w') (B : Nat) (hB : B ≤ w.heap.size) (hx : ∀ b, X b → B ≤ b) : Below B w w' :=
  ⟨h.os, h.tape, h.output, h.size, fun k hk => h.block k (by omega) (fun h2 => by have := hx k h2; omega)⟩
theorem MedC.n (h : MedC w g L M X R) : L.S.length = M.n := by unfold Med.n; rw [h.secs, List.length_map]
theorem MedC.at_ (h : MedC w g L M X R) (i : Nat) : (atD sm0 L.S i).s = M.sec i := by
  unfold Med.sec atD
  rw [h.secs, List.getElem?_map]
  cases L.S[i]? <;> rfl
theorem MedC.keep (h : MedC w g L M X R) (hs : w.heap.size ≤ w'.heap.size) (hk : ∀ b, X b ∨ R b → w'.heap[b]? = w.heap[b]?) : MedC w' g L M X R :=
  ⟨h.secs, (hk g (.inl h.xg)).trans h.box, (hk _ (.inl h.xs)).trans h.sec, h.cap, fun i p hi => (h.maps i p hi).kept (fun c hc => hk c (.inl (h.xm i p c hi hc))), h.inj,
   fun w2 h2 => h.scr w2 (fun b hb => (h2 b hb).trans (hk b (.inr hb))), fun w2 h2 => h.lost w2 (fun b hb => (h2 b hb).trans (hk b (.inr hb))), h.xg, h.xs, h.xm, fun b hb => Nat.lt_of_lt_of_le (h.lt b hb) hs, h.dis, h.wf, h.lor⟩
theorem MedC.below (h : MedC w g L M X R) (hb : Below w.heap.size w w') : MedC w' g L M X R := h.keep hb.size fun b hx => hb.block b (h.lt b hx)
theorem MedW.below (h : MedW w g M X R) (hb : Below w.heap.size w w') : MedW w' g M X R := by obtain ⟨L, h⟩ := h; exact ⟨L, h.below hb⟩
/-- another medium's calls leave it alone -/
theorem MedW.apart {Y Q Y2 Q2 : Nat → Prop} (h : MedW w g M X R) (hc : Ch Y Q Y2 Q2 w w') (ha : ∀ b, Y b → ¬ (X b ∨ R b)) : MedW w' g M X R := by
  obtain ⟨L, h⟩ := h
  exact ⟨L, h.keep hc.size fun b hx => hc.block b (h.lt b hx) fun hy => ha b hy hx⟩
theorem MedC.cells (h : MedC w g L M X R) : w.cell? ⟨g, 0, none⟩ = some (.int .i64 M.kind) ∧ w.cell? ⟨g, 1, none⟩ = some (.int .i64 M.endu) ∧ w.cell? ⟨g, 2, none⟩ = some (.slice (some ⟨L.gs, 0, none⟩) L.S.length L.cap) ∧ w.cell? ⟨g, 3, none⟩ = some L.vs ∧ w.cell? ⟨g, 4, none⟩ = some (.map L.lo) :=
  ⟨h.box.cell (i := 0) rfl, h.box.cell (i := 1) rfl, h.box.cell (i := 2) rfl, h.box.cell (i := 3) rfl, h.box.cell (i := 4) rfl⟩
theorem MedC.surf (h : MedC w g L M X R) {i j : Nat} (hi : i < L.S.length) (hj : j < 5) : w.cell? ⟨L.gs, i * 5 + j, none⟩ = (smD (atD sm0 L.S i))[j]? := by
  have h1 := flD_get (d := sm0) smD_len L.S i j hi hj
  have hl : i * 5 + j < (flD smD L.S).length := by rw [flD_length smD_len]; omega
  have h2 : (flD smD L.S ++ L.sp)[i * 5 + j]? = (smD (atD sm0 L.S i))[j]? := by rw [List.getElem?_append_left hl, h1]
  have h3 : (smD (atD sm0 L.S i))[j]? = some ((smD (atD sm0 L.S i))[j]'(by rw [smD_len]; exact hj)) := List.getElem?_eq_getElem _
  rw [h3] at h2 ⊢
  exact h.sec.cell h2
theorem MedC.ne (h : MedC w g L M X R) : g ≠ L.gs := fun e => by
  have h1 := h.box
  have h2 := h.sec
  unfold Bx at h1 h2
  rw [e, h2] at h1
  simp only [Option.some.injEq, Obj.cells.injEq] at h1
  exact absurd h1.2.1 (by decide)
theorem MedC.map_ne (h : MedC w g L M X R) {i : Nat} {p : Bool} {b : Nat} (hi : i < L.S.length) (hb : (atD sm0 L.S i).bk p = some b) : b ≠ g ∧ b ≠ L.gs := by
  obtain ⟨es, clock, hm⟩ := (h.maps i p hi).map hb
  have h1 := h.box
  have h2 := h.sec
  unfold Bx at h1 h2
  refine ⟨fun e => ?_, fun e => ?_⟩
  · rw [e, h1] at hm; simp at hm
  · rw [e, h2] at hm; simp at hm
/-- a cell of the sector 'i' is stored: it becomes 'x' -/
theorem MedC.store (h : MedC w g L M X R) {i j : Nat} (hi : i < L.S.length) (hj : j < 5) (u : Value) (x : SM) (hx : smD x = (smD (atD sm0 L.S i)).set j u)
    (hW : ∀ p, x.W w p) (hb : ∀ p b, x.bk p = some b → (atD sm0 L.S i).bk p = some b ∨ (¬ X b ∧ ¬ R b ∧ b < w.heap.size)) (hself : ∀ b, x.e = some b → x.c ≠ some b) :
    MedC (w.setCell ⟨L.gs, i * 5 + j, none⟩ u) g { L with S := L.S.set i x } (M.put i x.s) (fun b => X b ∨ x.e = some b ∨ x.c = some b) R := by
  have hne : ∀ k, k ≠ L.gs → (w.setCell ⟨L.gs, i * 5 + j, none⟩ u).heap[k]? = w.heap[k]? := fun k hk => Below.heap_setCell w _ _ k hk
  have hRne : ∀ b, R b → (w.setCell ⟨L.gs, i * 5 + j, none⟩ u).heap[b]? = w.heap[b]? := fun b hR => hne b fun e => h.dis b (e ▸ h.xs) hR
  have hsz : (w.setCell ⟨L.gs, i * 5 + j, none⟩ u).heap.size = w.heap.size := by simp
  have hat : ∀ k, k ≠ i → atD sm0 (L.S.set i x) k = atD sm0 L.S k := fun k hk => atD_set_ne _ _ _ _ hk
  have hati : atD sm0 (L.S.set i x) i = x := atD_set_eq _ _ _ hi
  have hxX : ∀ p b, x.bk p = some b → X b ∨ (¬ X b ∧ ¬ R b ∧ b < w.heap.size) := fun p b hp => (hb p b hp).imp (h.xm i p b hi) id
  have hmapb : ∀ p b, x.bk p = some b → b ≠ L.gs := fun p b hp e => by
    obtain ⟨es, clock, hm⟩ := (hW p).map hp
    have h2 := h.sec
    unfold Bx at h2
    rw [e, h2] at hm
    simp at hm
  refine ⟨?_, (hne g h.ne).trans (by have h1 := h.box; unfold Bx at h1; simpa [Med.put] using h1), ?_, by simpa using h.cap, ?_, ?_, fun w2 h2 => h.scr w2 fun b hR => (h2 b hR).trans (hRne b hR), ?_, .inl h.xg, .inl h.xs, ?_, ?_, ?_, h.wf, h.lor⟩
  · show M.secs.set i x.s = (L.S.set i x).map SM.s
    rw [h.secs, List.map_set]
  · show Bx _ L.gs _ (flD smD (L.S.set i x) ++ L.sp)
    have := h.sec.set (i * 5 + j) u
    rw [List.set_append_left _ _ (by rw [flD_length smD_len]; omega), flD_set smD_len L.S i j hi hj u x hx] at this
    exact this
  · intro k p hk
    simp only [List.length_set] at hk
    by_cases e : k = i
    · subst e; simp only [hati]; exact (hW p).kept fun c hc => hne c (hmapb p c hc)
    · simp only [hat k e]; exact (h.maps k p hk).kept fun c hc => hne c (h.map_ne hk hc).2
  · intro k l p q b hk hl h1 h2
    simp only [List.length_set] at hk hl
    by_cases e : k = i
    · by_cases e2 : l = i
      · subst e e2
        simp only [hati] at h1 h2
        refine ⟨rfl, ?_⟩
        cases p <;> cases q
        · rfl
        · exact absurd h1 (hself b h2)
        · exact absurd h2 (hself b h1)
        · rfl
      · subst e
        simp only [hati] at h1
        simp only [hat l e2] at h2
        rcases hb p b h1 with h3 | h3
        · exact h.inj k l p q b hk hl h3 h2
        · exact absurd (h.xm l q b hl h2) h3.1
    · by_cases e2 : l = i
      · subst e2
        simp only [hati] at h2
        simp only [hat k e] at h1
        rcases hb q b h2 with h3 | h3
        · exact h.inj k l p q b hk hl h1 h3
        · exact absurd (h.xm k p b hk h1) h3.1
      · simp only [hat k e] at h1
        simp only [hat l e2] at h2
        exact h.inj k l p q b hk hl h1 h2
  · rw [Med.put_n]
    exact fun w2 h2 => h.lost w2 fun b hR => (h2 b hR).trans (hRne b hR)
  · intro k p b hk h1
    simp only [List.length_set] at hk
    by_cases e : k = i
    · subst e
      simp only [hati] at h1
      cases p
      · exact .inr (.inr h1)
      · exact .inr (.inl h1)
    · simp only [hat k e] at h1
      exact .inl (h.xm k p b hk h1)
  · rw [hsz]
    rintro b ((h1 | h1 | h1) | h1)
    · exact h.lt b (.inl h1)
    · rcases hxX true b h1 with h2 | h2
      · exact h.lt b (.inl h2)
      · exact h2.2.2
    · rcases hxX false b h1 with h2 | h2
      · exact h.lt b (.inl h2)
      · exact h2.2.2
    · exact h.lt b (.inr h1)
  · rintro b (h1 | h1 | h1)
    · exact h.dis b h1
    · rcases hxX true b h1 with h2 | h2
      · exact h.dis b h2
      · exact h2.2.1
    · rcases hxX false b h1 with h2 | h2
      · exact h.dis b h2
      · exact h2.2.1
/-- the map 'p' of the sector 'i' turns in place: the sector becomes 'x' -/
theorem MedC.grown (h : MedC w g L M X R) {i b : Nat} {p : Bool} (hi : i < L.S.length) (hb : (atD sm0 L.S i).bk p = some b) (hg : w.grownBy w' (some b)) (x : SM) (hx : smD x = smD (atD sm0 L.S i)) (hxe : x.e = (atD sm0 L.S i).e) (hxc : x.c = (atD sm0 L.S i).c)
    (hW : x.W w' p) (hW2 : x.W w (!p)) : MedC w' g { L with S := L.S.set i x } (M.put i x.s) X R ∧ Ch X R X R w w' := by
  have hbX := h.xm i p b hi hb
  have hne : ∀ k, k < w.heap.size → k ≠ b → w'.heap[k]? = w.heap[k]? := fun k hk hkb => hg.block k hk (fun e => hkb (Option.some.inj e))
  have hRne : ∀ k, R k → w'.heap[k]? = w.heap[k]? := fun k hR => hne k (h.lt k (.inr hR)) fun e => h.dis b hbX (e ▸ hR)
  have hat : ∀ k, k ≠ i → atD sm0 (L.S.set i x) k = atD sm0 L.S k := fun k hk => atD_set_ne _ _ _ _ hk
  have hati : atD sm0 (L.S.set i x) i = x := atD_set_eq _ _ _ hi
  have hbk : ∀ k q, (atD sm0 (L.S.set i x) k).bk q = (atD sm0 L.S k).bk q := fun k q => by
    by_cases e : k = i
    · subst e
      rw [hati]
      cases q
      · exact hxc
      · exact hxe
    · rw [hat k e]
  obtain ⟨m1, m2⟩ := h.map_ne hi hb
  refine ⟨⟨?_, (hne g (h.lt g (.inl h.xg)) (Ne.symm m1)).trans (by have h1 := h.box; unfold Bx at h1; simpa [Med.put] using h1), ?_, by simpa using h.cap, ?_, ?_, fun w2 h2 => h.scr w2 fun b hR => (h2 b hR).trans (hRne b hR), ?_, h.xg, h.xs, ?_, fun k hk => Nat.lt_of_lt_of_le (h.lt k hk) hg.size, h.dis, h.wf, h.lor⟩,
    ⟨hg.os, hg.tape, hg.output, hg.size, fun k hk hX => hne k hk fun e => hX (e ▸ hbX), fun _ h => .inl h, fun _ h => .inl h⟩⟩
  · show M.secs.set i x.s = (L.S.set i x).map SM.s
    rw [h.secs, List.map_set]
  · have e := flD_set (d := sm0) smD_len L.S i 0 hi (by decide) (.int .i64 (atD sm0 L.S i).s.st) x (by rw [hx]; rfl)
    have e2 : (flD smD L.S).set (i * 5 + 0) (.int .i64 (atD sm0 L.S i).s.st) = flD smD L.S := by
      have h0 := flD_get (d := sm0) smD_len L.S i 0 hi (by decide)
      apply List.ext_getElem?
      intro k
      rw [List.getElem?_set]
      split
      · rename_i e3
        subst e3
        rw [h0]
        have : i * 5 + 0 < (flD smD L.S).length := by rw [flD_length smD_len]; omega
        rw [if_pos this]
        rfl
      · rfl
    rw [e2] at e
    show Bx w' L.gs _ (flD smD (L.S.set i x) ++ L.sp)
    rw [← e]
    exact (hne L.gs (h.lt _ (.inl h.xs)) (Ne.symm m2)).trans h.sec
  · intro k q hk
    simp only [List.length_set] at hk
    by_cases e : k = i
    · subst e
      simp only [hati]
      by_cases e2 : q = p
      · subst e2; exact hW
      · have e3 : q = !p := by cases q <;> cases p <;> simp_all
        subst e3
        refine hW2.kept fun c hc => hne c ?_ ?_
        · have h1 := hbk k (!p)
          rw [hati] at h1
          exact h.lt c (.inl (h.xm k (!p) c hk (h1 ▸ hc)))
        · rintro rfl
          have h1 := hbk k (!p)
          rw [hati] at h1
          have h2 := h.inj k k (!p) p c hk hk (h1 ▸ hc) hb
          cases p <;> simp at h2
    · simp only [hat k e]
      refine (h.maps k q hk).kept fun c hc => hne c (h.lt c (.inl (h.xm k q c hk hc))) fun e2 => ?_
      subst e2
      exact e (h.inj k i q p c hk hi hc hb).1
  · intro k l q r c hk hl h1 h2
    simp only [List.length_set] at hk hl
    simp only [hbk] at h1 h2
    exact h.inj k l q r c hk hl h1 h2
  · rw [Med.put_n]
    exact fun w2 h2 => h.lost w2 fun b hR => (h2 b hR).trans (hRne b hR)
  · intro k q c hk h1
    simp only [List.length_set] at hk
    simp only [hbk] at h1
    exact h.xm k q c hk h1
end
end Go.Proofs.Ytpncjadhpnapnaa.D12
