/- Chapter 12: scratches appended to a full slice that is only read. -/
import Derived.Test.YtpncjadhpnapnaaFl
import Derived.ArgAppend
namespace Go.Proofs.Ytpncjadhpnapnaa.D12
open Go.RowKit Go.Maps C9
open D13 (RdI ixI)
set_option linter.unusedVariables false

theorem Try.infoSc12 : (Try.prog.info? 36).map (fun i => (i.zero, i.size, i.bytes)) = some (some (.agg (scc scz).toArray), 2, 16) := by kernel_rfl
theorem scc_one (x : Sc) : ∀ u ∈ scc x, u.oneCell' = true := fun u hu => by
  simp only [scc, List.mem_cons, List.not_mem_nil, or_false] at hu
  rcases hu with rfl | rfl <;> rfl
set_option maxRecDepth 100000 in
/-- 'append(s, l...)' of scratches where 's' has no room -/
theorem sc_append {w : World} {a : Option Addr} {scr l : List Sc} {vl : Value} (hs : RdSc w (.slice a scr.length scr.length) scr) (hl : RdSc w vl l) (h0 : l ≠ []) (hlen : scr.length + l.length ≤ 1000000000000) (hnil : a = none → scr = []) (ty : TypeId) :
    ∃ v' w', (Builtin.append_ #[22, 22] ty #[.slice a scr.length scr.length, vl]).run Try.prog w = .ok v' w' ∧ w'.ownsRow w.heap.size 36 2 v' (scr.length + l.length) (flD scc (scr ++ l)) ∧ w.grownBy w' none := by
  obtain ⟨i0, hi, hz0, hz1, hz2⟩ := info_parts Try.infoSc12
  have hr1 := RdD.reads scc_len hs
  have hr2 := RdD.reads scc_len hl
  have hpos : 0 < l.length := List.length_pos_iff.2 h0
  obtain ⟨e1, a1, c1, b1, o1, hv1, _, hc1⟩ := hr1
  obtain ⟨e2, a2, c2, b2, o2, hv2, _, hc2⟩ := hr2
  subst hv2
  have hl2 : (flD scc l).length = l.length * 2 := flD_length scc_len l
  have h2 : a2 = some ⟨b2, o2, none⟩ := (hc2 0 ((flD scc l)[0]'(by omega)) (List.getElem?_eq_getElem _)).1
  subst h2
  have hn2 : ∀ j u, (flD scc l)[j]? = some u → w.cell? ((⟨b2, o2, none⟩ : Addr).add j) = some u := fun j u hu => by rw [Addr.add_lit]; exact (hc2 j u hu).2
  rw [flD_append]
  cases a with
  | none =>
    have hscr := hnil rfl
    subst hscr
    obtain ⟨v', w', hrun, r1, r2, _⟩ := run_append_own (P := Try.prog) w w.heap.size 22 ty 36 i0 _ 2 16 Try.underlying22 hi hz0 hz1 hz2 rfl (by decide) (.slice none 0 0) 0 [] (World.ownsRow_nil w _ _ 2) ⟨b2, o2, none⟩ l.length c2 (flD scc l) hl2 hn2 (flD_one scc_one l) (by unfold maxLen; omega) (by omega) (Nat.le_refl _)
    exact ⟨v', w', hrun, by rw [show flD scc ([] : List Sc) = [] from rfl]; simpa using r1, by simpa [Value.ownBlock] using r2⟩
  | some ad =>
    have ho : ∀ j u, (flD scc scr)[j]? = some u → w.cell? (ad.add j) = some u := fun j u hu => by
      obtain ⟨g1, g2⟩ := hc1 j u hu
      have : ad = ⟨b1, o1, none⟩ := by
        injection hv1 with g3 _ _
        exact Option.some.inj (g3.trans g1)
      rw [this, Addr.add_lit]; exact g2
    obtain ⟨v', w', hrun, r1, r2⟩ := run_append_arg_grows (P := Try.prog) w 22 ty 36 i0 _ 2 16 Try.underlying22 hi hz0 hz1 hz2 rfl (by decide) ad scr.length scr.length (flD scc scr) (flD_length scc_len scr) ho ⟨b2, o2, none⟩ l.length c2 (flD scc l) hl2 hn2 (by omega) (by unfold maxLen; omega) (by omega)
    exact ⟨v', w', hrun, r1, r2⟩
/-- 'v[:hi:hi]', its value told -/
theorem cut3_form {P : Program} {t e : TypeId} (ht : P.underlying t = some (.slice e)) {sz : Nat} (hs : (P.info? e).map (·.size) = some sz) {a : Option Addr} {c : Nat} {w : World} {n : Nat} {f : Nat → List Value} (h : RdS w sz (.slice a n c) n f) (hi : Nat) (h2 : hi ≤ n) :
    RdS w sz (.slice a hi hi) hi f ∧ ∀ (x y : Int) (w' : World), x = hi → y = hi → (Instr.slice t (.slice a n c) none (some (.int .i64 x)) (some (.int .i64 y))).run P w' = .ok (.slice a hi hi) w' := by
  obtain ⟨a1, c1, b, off, hv, hc, hcell⟩ := h
  injection hv with g1 g2 g3
  subst g1 g3
  cases hq : P.info? e with
  | none => simp [hq] at hs
  | some i =>
    have hs1 : i.size = sz := by simpa [hq] using hs
    refine ⟨⟨a, hi, b, off, rfl, Nat.le_refl _, fun j hj => hcell j (by omega)⟩, ?_⟩
    rintro x y w' rfl rfl
    have ha : ¬ hi = 0 → Option.map (fun x => x.add 0) a = a := fun h0 => by
      rw [(hcell 0 (by omega)).1]; simp [Addr.add]
    simp [Instr.slice, run_underlying ht, Instr.sliceBounds, run_sliceBound, sizeOf, typeInfo, hq, (by omega : hi ≤ c)]
    exact ha
/-- 'append(s, l...)' of scratches where 's' has no room, at the operation -/
theorem wpList_scApp {w : World} {ops : Array Oper} {rest : List Oper} {o : Oper} {ac : Act} {Q : Exit → Act → World → Prop} (hg : o.guard = none) (s x : Operand)
    (hop : o.op = .call { callee := .builtin .append, args := #[s, x], argTypes := #[22, 22] })
    {a : Option Addr} {scr l : List Sc} {vl : Value} (hs : RdSc w (.slice a scr.length scr.length) scr) (hl : RdSc w vl l) (h0 : l ≠ []) (hlen : scr.length + l.length ≤ 1000000000000) (hnil : a = none → scr = [])
    (hv : ac.eval s = .slice a scr.length scr.length) (hx : ac.eval x = vl)
    (hK : ∀ v' w', w'.ownsRow w.heap.size 36 2 v' (scr.length + l.length) (flD scc (scr ++ l)) → w.grownBy w' none → wpList Try.prog ops Q rest (ac.put o.dst v') w') :
    wpList Try.prog ops Q (o :: rest) ac w := by
  refine wpList_plain hg fun K hK' => ?_
  obtain ⟨v', w', hrun, r1, r2⟩ := sc_append hs hl h0 hlen hnil o.type
  unfold Oper.wp execOp
  simp only [hop, resolve, invoke, builtin, Sem.run_bind, Sem.run_pure, Result.andThen_ok, List.map_toArray, List.map_cons, List.map_nil, hv, hx, hrun]
  exact hK' _ _ (hK v' w' r1 r2)
end Go.Proofs.Ytpncjadhpnapnaa.D12
