/- Steps of a region that draws its order: append of structs; all blocks kept but one. No program is named here. -/
import Derived.Test.YtpncjadhpnapnaaOwn
import Derived.Deep.RegionHeld3
namespace Go.Proofs.Ytpncjadhpnapnaa
open Go.RowKit
set_option linter.unusedVariables false

section
variable {α : Type} {d : α} {D : α → List Value} {sz : Nat}
/-- 'append(v, s...)' at structs, as a step of a region that draws -/
theorem step_appD {P : Program} {ops : Array Oper} {o : Oper} {a : Act} {w : World} {K : Act → World → Prop} {Q : Exit → Act → World → Prop} {E : Prop} (hg : o.guard = none) (s x : Operand) {t : TypeId}
    (hop : o.op = .call { callee := .builtin .append, args := #[s, x], argTypes := #[t, t] }) {e : TypeId} {z : Value} {bytes : Nat} (ht : P.underlying t = some (.slice e))
    (hi : (P.info? e).map (fun i => (i.zero, i.size, i.bytes)) = some (some z, sz, bytes)) (hzs : z.cells.size = sz) (hs0 : 0 < sz) (hD : ∀ x, (D x).length = sz) (hone : ∀ x, ∀ u ∈ D x, u.oneCell' = true)
    {n base : Nat} {v : Value} {l : List α} (hown : w.ownsRow base e sz v n (flD D l)) (hv : a.eval s = v) {vs : Value} {m : List α} (hs : RdD d D sz w vs m) (hx : a.eval x = vs)
    (h63 : n + m.length ≤ maxLen) (hbytes : (n + m.length) * bytes ≤ 140737488355328) (hbase : base ≤ w.heap.size)
    (hK : ∀ v' w', w'.ownsRow base e sz v' (n + m.length) (flD D (l ++ m)) → w.grownBy w' v.ownBlock → K (a.put o.dst v') w') :
    if Region.wanted o (yielded ops a.tmps) = true then Oper.wp P o a w K Q else E := by
  have hw : Region.wanted o (yielded ops a.tmps) = true := by simp [Region.wanted, hg]
  rw [if_pos hw]
  obtain ⟨i0, hi, hz0, hz1, hz2⟩ := info_parts hi
  obtain ⟨v', w', hrun, r1, r2, r3⟩ := run_app (ty := o.type) ht hi hz0 hz1 hz2 hzs hs0 hown (hs.reads hD) (flD_one hone m) h63 hbytes hbase
  unfold Oper.wp
  simp [execOp, hop, resolve, invoke, builtin, hv, hx, hrun, Result.andThen]
  rw [← flD_append] at r1
  exact hK v' w' r1 r2
end
/-- every block but 'r' is as it was -/
def KeptR (r : Option Nat) (w W : World) : Prop := w.heap.size ≤ W.heap.size ∧ ∀ k, k < w.heap.size → some k ≠ r → W.heap[k]? = w.heap[k]?
section
variable {r : Option Nat} {w W W' : World}
theorem KeptR.refl (r : Option Nat) (w : World) : KeptR r w w := ⟨Nat.le_refl _, fun _ _ _ => rfl⟩
theorem KeptR.drew (h : KeptR r w W) : KeptR r w W.drew := h
theorem KeptR.drewN (h : KeptR r w W) (n : Nat) : KeptR r w (W.drewN n) := h
theorem KeptR.call (h : KeptR r w W) (hb : Below W.heap.size W W') : KeptR r w W' := ⟨Nat.le_trans h.1 hb.size, fun k h1 h2 => (hb.block k (Nat.lt_of_lt_of_le h1 h.1)).trans (h.2 k h1 h2)⟩
theorem KeptR.alloc (h : KeptR r w W) (o : Obj) : KeptR r w (W.alloc o) := h.call ((Below.refl _ _).alloc (Nat.le_refl _) o)
theorem KeptR.grown (h : KeptR r w W) (hg : W.grownBy W' r) : KeptR r w W' := ⟨Nat.le_trans h.1 hg.size, fun k h1 h2 => (hg.block k (Nat.lt_of_lt_of_le h1 h.1) h2).trans (h.2 k h1 h2)⟩
theorem KeptR.bx {g : Nat} {t : TypeId} {cs : List Value} (h : KeptR r w W) (hx : Bx w g t cs) (hg : some g ≠ r) : Bx W g t cs := (h.2 g hx.lt hg).trans hx
theorem KeptR.cell (h : KeptR r w W) {p : Addr} (hp : p.block < w.heap.size) (hg : some p.block ≠ r) : W.cell? p = w.cell? p := World.cell?_of_block (w := w) (h.2 p.block hp hg)
theorem KeptR.below (h : KeptR r w W) {B : Nat} (h0 : W.os = w.os ∧ W.tape = w.tape ∧ W.output = w.output) (hB : B ≤ w.heap.size) (hr : ∀ k, r = some k → B ≤ k) : Below B w W :=
  ⟨h0.1, h0.2.1, h0.2.2, h.1, fun k hk => h.2 k (by omega) (fun e => by have := hr k e.symm; omega)⟩
end
end Go.Proofs.Ytpncjadhpnapnaa
