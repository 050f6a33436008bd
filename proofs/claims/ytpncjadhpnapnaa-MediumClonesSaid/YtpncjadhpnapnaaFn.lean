/- Chapter 12: what Scratch needs: scratches appended to a full slice, whatever they are; the groups of the lost offsets moved to another world. -/
import Derived.Test.YtpncjadhpnapnaaFm
import Derived.Deep.Upon
namespace Go.Proofs.Ytpncjadhpnapnaa.D12
open Go.RowKit Go.Maps C9
open D13 (RdI ixI)
open Go.ChangeShapes (lits)
set_option linter.unusedVariables false

/-- 'make([]string, n)' -/
theorem wpList_mkStr {w : World} {ops : Array Oper} {rest : List Oper} {o : Oper} {a : Act} {Q : Exit → Act → World → Prop}
    (hg : o.guard = none) (l c : Operand) (hop : o.op = Op.makeSlice 95 l c)
    {L C : Int} (n : Nat) (hl : a.eval l = .int .i64 L) (hc : a.eval c = .int .i64 C) (hL : L = (n : Int)) (hC : C = (n : Int)) (b3 : n ≤ 1000000)
    (hK : ∀ w' v, v = .slice (some ⟨w.heap.size, 0, none⟩) n n → RdStr w' v (List.replicate n []) → Below w.heap.size w w' → wpList Try.prog ops Q rest (a.put o.dst v) w') :
    wpList Try.prog ops Q (o :: rest) a w := by
  obtain ⟨i0, hi, hz0, hz1, hz2⟩ := info_parts Try.infoStr9
  refine wpList_make_full w hg l c _ hop w.heap.size 9 i0 _ 1 Try.underlying95 hi hz0 hz1 .i64 .i64 L C n hl hc hL hC (by rw [hz2]; omega) (by unfold maxLen; omega) (Nat.le_refl _) fun w' h3 h4 => hK w' _ rfl ?_ ((Below.refl _ _).grown h4 (Nat.le_refl _) (fun k hk => by cases hk))
  have e1 : (Value.string ⟨#[]⟩).cells = (ssD []).toArray := rfl
  rw [e1, made_flD ssD [] 1 n (by decide) ssD_len] at h3
  have h5 : w'.ownsRow w.heap.size 9 1 (.slice (some ⟨w.heap.size, 0, none⟩) n n) (List.replicate n ([] : List UInt8)).length (flD ssD (List.replicate n [])) := by rw [List.length_replicate]; exact h3
  exact RdD.ofOwn ssD_len h5
/-- only blocks of 'K' are looked at -/
def Same (K : Nat → Prop) (w w' : World) : Prop := ∀ b, K b → w'.heap[b]? = w.heap[b]?
set_option maxRecDepth 100000 in
/-- 'append(s, l...)' of scratches where 's' has no room, at the operation; 'l' may be empty -/
theorem wpList_scAny {w : World} {ops : Array Oper} {rest : List Oper} {o : Oper} {ac : Act} {Q : Exit → Act → World → Prop} (hg : o.guard = none) (s x : Operand)
    (hop : o.op = .call { callee := .builtin .append, args := #[s, x], argTypes := #[22, 22] })
    {R : Nat → Prop} {a : Option Addr} {scr l : List Sc} {vl : Value} (hs : ∀ w', Same R w w' → RdSc w' (.slice a scr.length scr.length) scr) (hR : ∀ b, R b → b < w.heap.size) (hl : RdSc w vl l) (hlen : scr.length + l.length ≤ 1000000000000) (hnil : a = none → scr = [])
    (hv : ac.eval s = .slice a scr.length scr.length) (hx : ac.eval x = vl)
    (hK : ∀ v' w', (∀ w2, Same (fun b => R b ∨ (w.heap.size ≤ b ∧ b < w'.heap.size)) w' w2 → RdSc w2 v' (scr ++ l)) → w.grownBy w' none → wpList Try.prog ops Q rest (ac.put o.dst v') w') :
    wpList Try.prog ops Q (o :: rest) ac w := by
  by_cases h0 : l = []
  · subst h0
    obtain ⟨a2, c2, hvl, _⟩ := RdD.form hl
    subst hvl
    obtain ⟨i0, hi, hz0, hz1, hz2⟩ := info_parts Try.infoSc12
    refine wpList_plain hg fun K hK' => ?_
    have hsrc : Src Try.prog i0.size 22 (.slice a2 ([] : List Sc).length c2) 0 [] w := by
      cases a2 with
      | none => exact Src.ofNil w Try.underlying22 c2
      | some p => exact Src.ofSlice w Try.underlying22 p 0 c2 [] (by simp) (by simp) (by simp)
    have hrun := run_append_nothing (P := Try.prog) w 22 22 o.type 36 i0 Try.underlying22 hi a scr.length scr.length (Nat.le_refl _) _ hsrc
    unfold Oper.wp execOp
    simp only [hop, resolve, invoke, builtin, Sem.run_bind, Sem.run_pure, Result.andThen_ok, List.map_toArray, List.map_cons, List.map_nil, hv, hx, hrun]
    refine hK' _ _ (hK _ _ (fun w2 h2 => ?_) (World.grownBy.refl _ _))
    rw [List.append_nil]
    exact hs w2 fun b hb => h2 b (.inl hb)
  · refine wpList_scApp hg s x hop (hs w fun _ _ => rfl) hl h0 hlen hnil hv hx fun v' w' h1 h2 => hK v' w' (fun w2 h3 => ?_) h2
    have h4 : w2.ownsRow w.heap.size 36 2 v' (scr.length + l.length) (flD scc (scr ++ l)) := by
      refine ⟨h1.1, ?_⟩
      rcases h1.2 with h | ⟨g, cap, cur, hv, hg, hh, r⟩
      · exact .inl h
      · exact .inr ⟨g, cap, cur, hv, hg, (h3 g (.inr ⟨hg, (Array.getElem?_eq_some_iff.1 hh).1⟩)).trans hh, r⟩
    exact RdD.ofOwn (base := w.heap.size) (e := 36) scc_len (by rw [List.length_append]; exact h4)
theorem ownsInts_move {w w' : World} {base e : Nat} {q : IntKind} {v : Value} {zs : List Int} (h : w.ownsInts base e q v zs) (hk : ∀ x, base ≤ x → x < w.heap.size → w'.heap[x]? = w.heap[x]?) : w'.ownsInts base e q v zs := by
  refine ⟨⟨h.1.1, ?_⟩, h.2⟩
  rcases h.1.2 with h | ⟨g, cap, cur, hv, hg, hh, r⟩
  · exact .inl h
  · exact .inr ⟨g, cap, cur, hv, hg, (hk g hg (Array.getElem?_eq_some_iff.1 hh).1).trans hh, r⟩
/-- the groups in another world, in which their blocks are the same -/
theorem ownsGroups_move {H : Type} {P : Program} {k : TypeId} {w w' : World} {base e : Nat} {q : IntKind} {b n : Nat} {D : DataW H} (h : w.ownsGroups P k base e q b n D) (hk : ∀ x, (x = b ∨ base ≤ x) → x < w.heap.size → w'.heap[x]? = w.heap[x]?) : w'.ownsGroups P k base e q b n D := by
  obtain ⟨es, clock, hb, F, hs, rfl, hbb, hlen, hap⟩ := h
  have hblt : b < w.heap.size := (Array.getElem?_eq_some_iff.1 hb).1
  have hst : ∀ x ∈ es.toList, ∀ z, rowElem (H := H) w base e q x.val = some z → rowElem w' base e q x.val = some z := fun x hx z hz => by
    obtain ⟨zs, ho, rfl⟩ := rowElem_inv hz
    exact rowElem_mk (ownsInts_move ho fun x h1 h2 => hk x (.inr h1) h2)
  obtain ⟨F1, hmap, _⟩ := F.stay hst
  refine ⟨es, clock, (hk b (.inl rfl) hblt).trans hb, F1, hs, by rw [hmap], hbb, fun x hx zs ho => ?_, hap⟩
  obtain ⟨y, hy⟩ := F.reads x hx
  obtain ⟨z, hz, _⟩ := Go.WideElems.rd_val hy
  obtain ⟨zs0, ho0, _⟩ := rowElem_inv hz
  rw [ho.unique (ownsInts_move ho0 fun x h1 h2 => hk x (.inr h1) h2)]
  exact hlen x hx zs0 ho0
/-- no group at all, from any base -/
theorem ownsGroups_none {H : Type} {P : Program} {k : TypeId} {w : World} {base e : Nat} {q : IntKind} {b : Nat} (h : w.heap[b]? = some (.map #[] 0)) (hb : b < base) : w.ownsGroups (H := H) P k base e q b 0 (.map []) :=
  ⟨#[], 0, h, ⟨by simp, Go.MapKept.stamped_empty 0, by simp⟩, Nat.le_refl _, rfl, hb, by simp, by simp⟩
/-- a look-up depends on the map's block alone -/
theorem lookup_move {w w' : World} {base b n : Nat} {D : DataW Unit} (h : w.ownsGroups Try.prog 3 base 3 .i64 b n D) (hb : w'.heap[b]? = w.heap[b]?) {i : Nat} (hi : i < 5000) {v : Value} (hrun : (Instr.lookup 86 (.map (some b)) (.int .i64 (i : Nat)) false).run Try.prog w = .ok v w) :
    (Instr.lookup 86 (.map (some b)) (.int .i64 (i : Nat)) false).run Try.prog w' = .ok v w' := by
  obtain ⟨D2, h2⟩ := rawMap h
  have hkey := keyOf_int_mk Try.underlying3 (wfK12 hi)
  have h3 : w'.ownsMap Try.prog 3 Mp.rawE b n D2 := by
    obtain ⟨es, clock, hb', F, hs, hD⟩ := h2
    exact ⟨es, clock, hb.trans hb', F, hs, hD⟩
  obtain ⟨v2, ps, hrun2, hat2⟩ := h2.lookup lawI12 Try.underlying86 (zeroLo w) (zd := .held (.slice none 0 0)) (zp := []) rfl hkey
  obtain ⟨v3, ps3, hrun3, hat3⟩ := h3.lookup lawI12 Try.underlying86 (zeroLo w') (zd := .held (.slice none 0 0)) (zp := []) rfl hkey
  rw [hrun] at hrun2
  obtain rfl : v = v2 := by simpa using hrun2
  simp only [Mp.rawE, Option.some.injEq, Prod.mk.injEq] at hat2 hat3
  have : v3 = v := by
    have := hat3.1.trans hat2.1.symm
    simpa using this
  subst this
  exact hrun3
/-- one more lost offset -/
theorem GrD.snoc {D : DataW Unit} {L : List Int} {x : Int} {i : Nat} (h : GrD D (part L)) (hm : ∃ es, D = .map es) (hi : i < 5000) (hx : x / 2352 = (i : Int)) {v : Value} (hv : (rowDatum .i64 v (part L i ++ [x % 2352]) : DataW Unit) = .slice (lits .i64 (part L i ++ [x % 2352])) []) :
    GrD (D.put (.int .i64 (i : Nat)) (rowDatum .i64 v (part L i ++ [x % 2352]))) (part (L ++ [x])) := by
  have h1 := h.put hm hi v (x % 2352) hv
  have e : (fun j => if j = i then part L i ++ [x % 2352] else part L j) = part (L ++ [x]) := by
    funext j
    rw [part_snoc]
    by_cases e : j = i
    · subst e; rw [if_pos rfl, if_pos hx]
    · rw [if_neg e, if_neg (by omega)]
  rwa [e] at h1
theorem LoM.move {w w' : World} {base b N : Nat} {D : DataW Unit} {n : Nat} {scr : List Sc} (h : w.ownsGroups Try.prog 3 base 3 .i64 b N D) (hN : N ≤ 100000000) (hn : n ≤ 4096) (hD : GrD D (lostS n scr)) (hk : ∀ x, (x = b ∨ base ≤ x) → x < w.heap.size → w'.heap[x]? = w.heap[x]?) : LoM w' (some b) n scr :=
  LoM.ofGroups (ownsGroups_move h hk) hN hn hD
end Go.Proofs.Ytpncjadhpnapnaa.D12
