/- Chapter 13: Encode of the package walked. -/
import Derived.Test.YtjnedcncfdpjoaaEj
import Derived.Test.YtjnedcncfdpjoaaSeq
namespace Go.Proofs.Ytjnedcncfdpjoaa.D13
open Go.RowKit Go.Maps
set_option linter.unusedVariables false

def magic13 : List UInt8 := [68, 77, 84, 49]
def head13 (T : Tab) : List Int := [(T.blocks : Int), (T.spares : Int), (T.prim.length : Int), (T.used : Int), (T.keys.length : Int)]
def repB (p : Int × Int) : List UInt8 := b2 p.1 ++ b2 p.2
def body13 (T : Tab) : List UInt8 := magic13 ++ encL (head13 T) ++ encL T.prim ++ T.reps.flatMap repB
def enc13 (T : Tab) : List UInt8 := body13 T ++ W10.crcB (C.crc 0 (body13 T))
theorem TabW.turnS {w w' : World} {g gm gs : Nat} {vp : Value} {T : Tab} {cs : List Value} {t : TypeId} (h : TabW w g gm vp T) (ht : Turn1 gs w w') (h1 : g ≠ gs) (h2 : gm ≠ gs) (hd : Bx w gs t cs) (hne : t ≠ 3) : TabW w' g gm vp T :=
  ⟨h.ok, (ht.block g h.box.lt h1).trans h.box, (Turn.own (g := gs) (gm := gs) ⟨ht.os, ht.tape, ht.output, ht.size, fun k hk h1 _ => ht.block k hk h1⟩ h.pri (block13 h.pri hd hne) (block13 h.pri hd hne)), h.map.kept (ht.block gm h.map.lt h2), h.ne⟩
theorem MapO.len {w : World} {gm n : Nat} {f : Int → Option Int} (h : MapO w gm n f) (K : List Int) (hK : K.Pairwise (· < ·)) (hk : ∀ x, x ∈ K ↔ In64 x ∧ (f x).isSome = true) (ty : TypeId) :
    (Builtin.len_ #[36] ty #[.map (some gm)]).run Try.prog w = .ok (.int .i64 K.length) w := by
  obtain ⟨D, hown, hf⟩ := h
  have hnd : K.Nodup := hK.imp fun h e => by omega
  have hp := perm_keys13 hown hnd (fun x => (hk x).trans ⟨fun h => by rw [(hf x h.1).1]; exact h.2, fun h => ⟨has_wf13 hown h, by rw [← (hf x (has_wf13 hown h)).1]; exact h⟩⟩)
  rw [hown.len Try.underlying36 ty]
  obtain ⟨es, hD, _, _⟩ := hown.entries lawI
  subst hD
  have e : (intKeys (DataW.map es)).length = Maps.size (DataW.map es) := by simp [intKeys, Maps.size]
  rw [← e, ← hp.length_eq]
theorem TabW.len {w : World} {g gm : Nat} {vp : Value} {T : Tab} (h : TabW w g gm vp T) (ty : TypeId) : (Builtin.len_ #[36] ty #[.map (some gm)]).run Try.prog w = .ok (.int .i64 T.keys.length) w :=
  h.map.len T.keys T.keys_sorted h.ok.mem_keys ty
theorem Try.sizeRep13 : (Try.prog.info? 53).map (·.size) = some 2 := by kernel_rfl
theorem repsB_le (l : List (Int × Int)) : (l.flatMap repB).length ≤ 4 * l.length := by
  induction l with
  | nil => simp
  | cons x r ih =>
    rw [List.flatMap_cons, List.length_append, List.length_cons]
    have h4 : (repB x).length ≤ 4 := by
      unfold repB
      rw [List.length_append]
      have h2 := b2_le x.1
      have h3 := b2_le x.2
      omega
    omega
theorem Turn1.own {w w' : World} {gs base e sz n : Nat} {v : Value} {xs : List Value} (h : Turn1 gs w w') (ho : w.ownsRow base e sz v n xs) (hg : gs < base) : w'.ownsRow base e sz v n xs :=
  Turn.own (g := gs) (gm := gs) ⟨h.os, h.tape, h.output, h.size, fun k hk h1 _ => h.block k hk h1⟩ ho (fun e => by have := ownD_block ho _ e; omega) (fun e => by have := ownD_block ho _ e; omega)
/-- while the head is put together: 'r' says whether it is written -/
structure EncC (w0 : World) (g gm gs : Nat) (vp : Value) (T : Tab) (r : Nat) (W : World) : Prop where
  t : TabW W g gm vp T
  b : Bx W gs 9 [.string (str (if r = 0 then magic13 else magic13 ++ encL (head13 T)))]
  le : Below w0.heap.size w0 W
  lt : w0.heap.size ≤ gs ∧ g ≠ gs ∧ gm ≠ gs
theorem EncC.call {w0 : World} {g gm gs : Nat} {vp : Value} {T : Tab} {r : Nat} {W W' : World} (h : EncC w0 g gm gs vp T r W) (hb : Below W.heap.size W W') : EncC w0 g gm gs vp T r W' :=
  ⟨h.t.below hb, h.b.call hb, h.le.trans (hb.mono h.le.size), h.lt⟩
def encV (g gm gs : Nat) (ap : Option Addr) (cp : Nat) (T : Tab) (i : Nat) (v : Value) (W : World) : Prop := match i with
  | 0 => v = .func (.func 46) #[] #[.pointer (some ⟨gs, 0, none⟩)]
  | 1 => v = .pointer (some ⟨g, 0, none⟩)
  | 2 => v = .pointer (some ⟨g, 0, none⟩)
  | 3 => v = .pointer (some ⟨g, 0, none⟩)
  | 4 => v = .int .i64 T.blocks
  | 5 => v = .pointer (some ⟨g, 0, none⟩)
  | 6 => v = .pointer (some ⟨g, 0, none⟩)
  | 7 => v = .pointer (some ⟨g, 1, none⟩)
  | 8 => v = .int .i64 T.spares
  | 9 => v = .pointer (some ⟨g, 0, none⟩)
  | 10 => v = .pointer (some ⟨g, 0, none⟩)
  | 11 => v = .pointer (some ⟨g, 3, none⟩)
  | 12 => v = .slice ap T.prim.length cp
  | 13 => v = .int .i64 T.prim.length
  | 14 => v = .pointer (some ⟨g, 0, none⟩)
  | 15 => v = .pointer (some ⟨g, 0, none⟩)
  | 16 => v = .pointer (some ⟨g, 2, none⟩)
  | 17 => v = .int .i64 T.used
  | 18 => v = .pointer (some ⟨g, 0, none⟩)
  | 19 => v = .pointer (some ⟨g, 0, none⟩)
  | 20 => v = .pointer (some ⟨g, 4, none⟩)
  | 21 => v = .map (some gm)
  | 22 => v = .int .i64 T.keys.length
  | 23 => ∃ b, v = .slice (some ⟨b, 0, none⟩) 5 5 ∧ b ≠ gs ∧ Bx W b 3 (is (head13 T))
  | 24 => v = .tuple #[]
  | _ => True
def encVE : Nat → Option Nat
  | 24 => some 0
  | _ => none
theorem encV_keep (g gm gs : Nat) (ap : Option Addr) (cp : Nat) (T : Tab) (i r : Nat) (v : Value) (W W' : World) (hk : ∀ k, encVE i = some k → k < r) (hR : (fun _ w W => Turn1 gs w W) r W W') (h : encV g gm gs ap cp T i v W) : encV g gm gs ap cp T i v W' := by
  by_cases h23 : i = 23
  · subst h23
    obtain ⟨b, h1, h2, h3⟩ := h
    exact ⟨b, h1, h2, (hR.block b h3.lt h2).trans h3⟩
  unfold encV at h ⊢
  split at h <;> first | exact h | exact absurd rfl h23
def encW (gs : Nat) (T : Tab) (i : Nat) (v : Value) (W : World) : Prop := match i with
  | 0 => v = .string (str (body13 T))
  | 1 => v = .string (str (body13 T))
  | 2 => v = .int .u16 (C.crc 0 (body13 T) : Nat)
  | 3 => v = .string (str (W10.crcB (C.crc 0 (body13 T))))
  | 4 => v = .string (str (enc13 T))
  | 5 => v = .string (str (enc13 T))
  | _ => True
theorem encW_keep (gs : Nat) (T : Tab) (i : Nat) (v : Value) (W W' : World) (hR : (fun w W => Below w.heap.size w W) W W') (h : encW gs T i v W) : encW gs T i v W' := by
  unfold encW at h ⊢
  split at h <;> first | exact h
set_option maxRecDepth 100000 in
set_option maxHeartbeats 4000000 in
theorem encode13 {w : World} {g gm : Nat} {vp : Value} {T : Tab} (h : TabW w g gm vp T) :
    Calls Try.prog 23 #[.pointer (some ⟨g, 0, none⟩)] w fun e w' => e = .returned (.string (str (enc13 T))) ∧ Below w.heap.size w w' := by
  obtain ⟨ap, cp, hvp⟩ := RdI.formD h.rd
  subst hvp
  have HR : Hid (∀ x ∈ head13 T, In64 x) := Lib.hid (fun x hx => by
    have h1 := h.ok.b2
    have h2 := h.ok.sp
    have h3 := h.ok.pl
    have h4 := h.ok.us
    have h5 := (replaced_any h).1
    simp only [head13, List.mem_cons, List.not_mem_nil, or_false] at hx
    unfold In64
    rcases hx with rfl | rfl | rfl | rfl | rfl <;> omega)
  have HT := Lib.hid h
  clear h
  go_enter Try.func23, Try.ntmps23
  go_upto_region 3 with (fail)
  have HB0 := Lib.hid (Bx.new w 9 [.string (str magic13)])
  have hb0 := (Below.refl w.heap.size w).alloc (Nat.le_refl _) (.cells #[.string (str magic13)] 9)
  have HC0 : Hid (EncC w g gm w.heap.size (.slice ap T.prim.length cp) T 0 (w.alloc (.cells #[.string (str magic13)] 9)).drew) := Lib.hid
    (EncC.call ⟨HT.out.below hb0, HB0.out, hb0, Nat.le_refl _, fun e => by have := HT.out.box.lt; omega, fun e => by have := HT.out.map.lt; omega⟩ ((Below.refl _ _).drew))
  have e0 : (w.alloc (.cells #[.string { data := #[68, 77, 84, 49] }] 9)) = w.alloc (.cells #[.string (str magic13)] 9) := rfl
  rw [e0]
  obtain ⟨gs, hgs⟩ : ∃ gs, gs = w.heap.size := ⟨_, rfl⟩
  rw [← hgs] at HC0 ⊢
  have HGS := Lib.hid hgs
  clear hgs hb0 HB0 e0
  generalize (w.alloc (.cells #[.string (str magic13)] 9)) = w4 at *
  refine wp_region_seq (by kernel_rfl) (fun _ w W => Turn1 gs w W) (EncC w g gm gs (.slice ap T.prim.length cp) T) (encV g gm gs ap cp T) (fun _ => false) encVE 1 (by kernel_rfl) (by kernel_rfl) (.inl (by kernel_rfl)) (encV_keep g gm gs ap cp T) (HC0.out) ⟨?_, ?_, ?_, ?_, ?_, ?_, ?_, ?_, ?_, ?_, ?_, ?_, ?_, ?_, ?_, ?_, ?_, ?_, ?_, ?_, ?_, ?_, ?_, ?_, ?_, trivial⟩ ?_
  · intro r a W hc hsz hold hdep hnot hlo hhi hrk
    have o4 : a.tmps.getD 4 undef = .func (.func 46) #[] #[.pointer (some ⟨gs, 0, none⟩)] := hold 4 (by kernel_rfl)
    clear hsz hold hdep hnot hlo hhi hrk
    refine stepR_do rfl (wanted_none rfl) ?_
    refine stepS_val (v := .func (.func 46) #[] #[.pointer (some ⟨gs, 0, none⟩)]) (.of (Below.refl _ _)) hc rfl fun K hK => ?_
    go_simp
    exact hK
  · intro r a W hc hsz hold hdep hnot hlo hhi hrk
    have o0 : a.tmps.getD 0 undef = .pointer (some ⟨g, 0, none⟩) := hold 0 (by kernel_rfl)
    clear hsz hold hdep hnot hlo hhi hrk
    refine stepR_do rfl (wanted_none rfl) ?_
    refine stepS_val (v := .pointer (some ⟨g, 0, none⟩)) (.of (Below.refl _ _)) hc rfl fun K hK => ?_
    go_simp
    exact hK
  · intro r a W hc hsz hold hdep hnot hlo hhi hrk
    have d1 : a.tmps.getD 9 undef = .pointer (some ⟨g, 0, none⟩) := hdep 1 (by kernel_rfl) rfl _ rfl
    clear hsz hold hdep hnot hlo hhi hrk
    refine stepR_do rfl (wanted_none rfl) ?_
    refine stepS_val (v := .pointer (some ⟨g, 0, none⟩)) (.of (Below.refl _ _)) hc rfl fun K hK => ?_
    go_simp
    exact hK
  · intro r a W hc hsz hold hdep hnot hlo hhi hrk
    have d2 : a.tmps.getD 10 undef = .pointer (some ⟨g, 0, none⟩) := hdep 2 (by kernel_rfl) rfl _ rfl
    clear hsz hold hdep hnot hlo hhi hrk
    refine stepR_do rfl (wanted_none rfl) ?_
    refine stepS_val (v := .pointer (some ⟨g, 0, none⟩)) (.of (Below.refl _ _)) hc rfl fun K hK => ?_
    go_simp
    exact hK
  · intro r a W hc hsz hold hdep hnot hlo hhi hrk
    have d3 : a.tmps.getD 11 undef = .pointer (some ⟨g, 0, none⟩) := hdep 3 (by kernel_rfl) rfl _ rfl
    have q := hc.t.cells
    have q0 := q.1
    clear q
    clear hsz hold hdep hnot hlo hhi hrk
    refine stepR_do rfl (wanted_none rfl) ?_
    refine stepS_val (v := .int .i64 T.blocks) (.of (Below.refl _ _)) hc rfl fun K hK => ?_
    go_simp
    exact hK
  · intro r a W hc hsz hold hdep hnot hlo hhi hrk
    have o0 : a.tmps.getD 0 undef = .pointer (some ⟨g, 0, none⟩) := hold 0 (by kernel_rfl)
    clear hsz hold hdep hnot hlo hhi hrk
    refine stepR_do rfl (wanted_none rfl) ?_
    refine stepS_val (v := .pointer (some ⟨g, 0, none⟩)) (.of (Below.refl _ _)) hc rfl fun K hK => ?_
    go_simp
    exact hK
  · intro r a W hc hsz hold hdep hnot hlo hhi hrk
    have d5 : a.tmps.getD 13 undef = .pointer (some ⟨g, 0, none⟩) := hdep 5 (by kernel_rfl) rfl _ rfl
    clear hsz hold hdep hnot hlo hhi hrk
    refine stepR_do rfl (wanted_none rfl) ?_
    refine stepS_val (v := .pointer (some ⟨g, 0, none⟩)) (.of (Below.refl _ _)) hc rfl fun K hK => ?_
    go_simp
    exact hK
  · intro r a W hc hsz hold hdep hnot hlo hhi hrk
    have d6 : a.tmps.getD 14 undef = .pointer (some ⟨g, 0, none⟩) := hdep 6 (by kernel_rfl) rfl _ rfl
    clear hsz hold hdep hnot hlo hhi hrk
    refine stepR_do rfl (wanted_none rfl) ?_
    refine stepS_val (v := .pointer (some ⟨g, 1, none⟩)) (.of (Below.refl _ _)) hc rfl fun K hK => ?_
    go_simp
    exact hK
  · intro r a W hc hsz hold hdep hnot hlo hhi hrk
    have d7 : a.tmps.getD 15 undef = .pointer (some ⟨g, 1, none⟩) := hdep 7 (by kernel_rfl) rfl _ rfl
    have q := hc.t.cells
    have q1 := q.2.1
    clear q
    clear hsz hold hdep hnot hlo hhi hrk
    refine stepR_do rfl (wanted_none rfl) ?_
    refine stepS_val (v := .int .i64 T.spares) (.of (Below.refl _ _)) hc rfl fun K hK => ?_
    go_simp
    exact hK
  · intro r a W hc hsz hold hdep hnot hlo hhi hrk
    have o0 : a.tmps.getD 0 undef = .pointer (some ⟨g, 0, none⟩) := hold 0 (by kernel_rfl)
    clear hsz hold hdep hnot hlo hhi hrk
    refine stepR_do rfl (wanted_none rfl) ?_
    refine stepS_val (v := .pointer (some ⟨g, 0, none⟩)) (.of (Below.refl _ _)) hc rfl fun K hK => ?_
    go_simp
    exact hK
  · intro r a W hc hsz hold hdep hnot hlo hhi hrk
    have d9 : a.tmps.getD 17 undef = .pointer (some ⟨g, 0, none⟩) := hdep 9 (by kernel_rfl) rfl _ rfl
    clear hsz hold hdep hnot hlo hhi hrk
    refine stepR_do rfl (wanted_none rfl) ?_
    refine stepS_val (v := .pointer (some ⟨g, 0, none⟩)) (.of (Below.refl _ _)) hc rfl fun K hK => ?_
    go_simp
    exact hK
  · intro r a W hc hsz hold hdep hnot hlo hhi hrk
    have d10 : a.tmps.getD 18 undef = .pointer (some ⟨g, 0, none⟩) := hdep 10 (by kernel_rfl) rfl _ rfl
    clear hsz hold hdep hnot hlo hhi hrk
    refine stepR_do rfl (wanted_none rfl) ?_
    refine stepS_val (v := .pointer (some ⟨g, 3, none⟩)) (.of (Below.refl _ _)) hc rfl fun K hK => ?_
    go_simp
    exact hK
  · intro r a W hc hsz hold hdep hnot hlo hhi hrk
    have d11 : a.tmps.getD 19 undef = .pointer (some ⟨g, 3, none⟩) := hdep 11 (by kernel_rfl) rfl _ rfl
    have q := hc.t.cells
    have q3 := q.2.2.2.1
    clear q
    clear hsz hold hdep hnot hlo hhi hrk
    refine stepR_do rfl (wanted_none rfl) ?_
    refine stepS_val (v := .slice ap T.prim.length cp) (.of (Below.refl _ _)) hc rfl fun K hK => ?_
    go_simp
    exact hK
  · intro r a W hc hsz hold hdep hnot hlo hhi hrk
    have d12 : a.tmps.getD 20 undef = .slice ap T.prim.length cp := hdep 12 (by kernel_rfl) rfl _ rfl
    have e12 : a.tmps[20]?.getD undef = .slice ap T.prim.length cp := by rw [← Array.getD_eq_getD_getElem?]; exact d12
    clear hsz hold hdep hnot hlo hhi hrk
    refine stepR_do rfl (wanted_none rfl) ?_
    refine stepS_val (v := .int .i64 T.prim.length) (.of (Below.refl _ _)) hc rfl fun K hK => ?_
    go_simp
    exact hK
  · intro r a W hc hsz hold hdep hnot hlo hhi hrk
    have o0 : a.tmps.getD 0 undef = .pointer (some ⟨g, 0, none⟩) := hold 0 (by kernel_rfl)
    clear hsz hold hdep hnot hlo hhi hrk
    refine stepR_do rfl (wanted_none rfl) ?_
    refine stepS_val (v := .pointer (some ⟨g, 0, none⟩)) (.of (Below.refl _ _)) hc rfl fun K hK => ?_
    go_simp
    exact hK
  · intro r a W hc hsz hold hdep hnot hlo hhi hrk
    have d14 : a.tmps.getD 22 undef = .pointer (some ⟨g, 0, none⟩) := hdep 14 (by kernel_rfl) rfl _ rfl
    clear hsz hold hdep hnot hlo hhi hrk
    refine stepR_do rfl (wanted_none rfl) ?_
    refine stepS_val (v := .pointer (some ⟨g, 0, none⟩)) (.of (Below.refl _ _)) hc rfl fun K hK => ?_
    go_simp
    exact hK
  · intro r a W hc hsz hold hdep hnot hlo hhi hrk
    have d15 : a.tmps.getD 23 undef = .pointer (some ⟨g, 0, none⟩) := hdep 15 (by kernel_rfl) rfl _ rfl
    clear hsz hold hdep hnot hlo hhi hrk
    refine stepR_do rfl (wanted_none rfl) ?_
    refine stepS_val (v := .pointer (some ⟨g, 2, none⟩)) (.of (Below.refl _ _)) hc rfl fun K hK => ?_
    go_simp
    exact hK
  · intro r a W hc hsz hold hdep hnot hlo hhi hrk
    have d16 : a.tmps.getD 24 undef = .pointer (some ⟨g, 2, none⟩) := hdep 16 (by kernel_rfl) rfl _ rfl
    have q := hc.t.cells
    have q2 := q.2.2.1
    clear q
    clear hsz hold hdep hnot hlo hhi hrk
    refine stepR_do rfl (wanted_none rfl) ?_
    refine stepS_val (v := .int .i64 T.used) (.of (Below.refl _ _)) hc rfl fun K hK => ?_
    go_simp
    exact hK
  · intro r a W hc hsz hold hdep hnot hlo hhi hrk
    have o0 : a.tmps.getD 0 undef = .pointer (some ⟨g, 0, none⟩) := hold 0 (by kernel_rfl)
    clear hsz hold hdep hnot hlo hhi hrk
    refine stepR_do rfl (wanted_none rfl) ?_
    refine stepS_val (v := .pointer (some ⟨g, 0, none⟩)) (.of (Below.refl _ _)) hc rfl fun K hK => ?_
    go_simp
    exact hK
  · intro r a W hc hsz hold hdep hnot hlo hhi hrk
    have d18 : a.tmps.getD 26 undef = .pointer (some ⟨g, 0, none⟩) := hdep 18 (by kernel_rfl) rfl _ rfl
    clear hsz hold hdep hnot hlo hhi hrk
    refine stepR_do rfl (wanted_none rfl) ?_
    refine stepS_val (v := .pointer (some ⟨g, 0, none⟩)) (.of (Below.refl _ _)) hc rfl fun K hK => ?_
    go_simp
    exact hK
  · intro r a W hc hsz hold hdep hnot hlo hhi hrk
    have d19 : a.tmps.getD 27 undef = .pointer (some ⟨g, 0, none⟩) := hdep 19 (by kernel_rfl) rfl _ rfl
    clear hsz hold hdep hnot hlo hhi hrk
    refine stepR_do rfl (wanted_none rfl) ?_
    refine stepS_val (v := .pointer (some ⟨g, 4, none⟩)) (.of (Below.refl _ _)) hc rfl fun K hK => ?_
    go_simp
    exact hK
  · intro r a W hc hsz hold hdep hnot hlo hhi hrk
    have d20 : a.tmps.getD 28 undef = .pointer (some ⟨g, 4, none⟩) := hdep 20 (by kernel_rfl) rfl _ rfl
    have q := hc.t.cells
    have q4 := q.2.2.2.2
    clear q
    clear hsz hold hdep hnot hlo hhi hrk
    refine stepR_do rfl (wanted_none rfl) ?_
    refine stepS_val (v := .map (some gm)) (.of (Below.refl _ _)) hc rfl fun K hK => ?_
    go_simp
    exact hK
  · intro r a W hc hsz hold hdep hnot hlo hhi hrk
    have d21 : a.tmps.getD 29 undef = .map (some gm) := hdep 21 (by kernel_rfl) rfl _ rfl
    have e21 : a.tmps[29]?.getD undef = .map (some gm) := by rw [← Array.getD_eq_getD_getElem?]; exact d21
    have q := hc.t.len
    clear hsz hold hdep hnot hlo hhi hrk
    refine stepR_do rfl (wanted_none rfl) ?_
    refine stepS_val (v := .int .i64 T.keys.length) (.of (Below.refl _ _)) hc rfl fun K hK => ?_
    go_simp
    exact hK
  · intro r a W hc hsz hold hdep hnot hlo hhi hrk
    have d4 : a.tmps.getD 12 undef = .int .i64 T.blocks := hdep 4 (by kernel_rfl) rfl _ rfl
    have e4 : a.tmps[12]?.getD undef = .int .i64 T.blocks := by rw [← Array.getD_eq_getD_getElem?]; exact d4
    have d8 : a.tmps.getD 16 undef = .int .i64 T.spares := hdep 8 (by kernel_rfl) rfl _ rfl
    have e8 : a.tmps[16]?.getD undef = .int .i64 T.spares := by rw [← Array.getD_eq_getD_getElem?]; exact d8
    have d13 : a.tmps.getD 21 undef = .int .i64 T.prim.length := hdep 13 (by kernel_rfl) rfl _ rfl
    have e13 : a.tmps[21]?.getD undef = .int .i64 T.prim.length := by rw [← Array.getD_eq_getD_getElem?]; exact d13
    have d17 : a.tmps.getD 25 undef = .int .i64 T.used := hdep 17 (by kernel_rfl) rfl _ rfl
    have e17 : a.tmps[25]?.getD undef = .int .i64 T.used := by rw [← Array.getD_eq_getD_getElem?]; exact d17
    have d22 : a.tmps.getD 30 undef = .int .i64 T.keys.length := hdep 22 (by kernel_rfl) rfl _ rfl
    have e22 : a.tmps[30]?.getD undef = .int .i64 T.keys.length := by rw [← Array.getD_eq_getD_getElem?]; exact d22
    clear hsz hold hdep hnot hlo hhi hrk
    refine stepR_do rfl (wanted_none rfl) ?_
    have hN := Bx.new W 3 (is (head13 T))
    have hbN := (Below.refl W.heap.size W).alloc (Nat.le_refl _) (.cells (is (head13 T)).toArray 3)
    refine stepS_new (v := .slice (some ⟨W.heap.size, 0, none⟩) 5 5) (.of hbN) (hc.call hbN) ⟨W.heap.size, rfl, fun e => by have := hc.b.lt; omega, hN⟩ fun K hK => ?_
    have e : (is (head13 T)).toArray = #[.int .i64 T.blocks, .int .i64 T.spares, .int .i64 T.prim.length, .int .i64 T.used, .int .i64 T.keys.length] := rfl
    rw [e] at hK
    clear e hN hbN hc
    go_simp
    exact hK
  · intro r a W hc hsz hold hdep hnot hlo hhi hrk
    have hr := hrk 0 rfl
    subst hr
    have d0 : a.tmps.getD 8 undef = .func (.func 46) #[] #[.pointer (some ⟨gs, 0, none⟩)] := hdep 0 (by kernel_rfl) rfl _ rfl
    have e0 : a.tmps[8]?.getD undef = .func (.func 46) #[] #[.pointer (some ⟨gs, 0, none⟩)] := by rw [← Array.getD_eq_getD_getElem?]; exact d0
    have x23 := hdep 23 (by kernel_rfl) rfl _ rfl
    clear hsz hold hdep hnot hlo hhi hrk
    refine stepR_do rfl (wanted_none rfl) ?_
    obtain ⟨b, d23, hbg, hbx⟩ : ∃ b, a.tmps.getD 31 undef = .slice (some ⟨b, 0, none⟩) 5 5 ∧ b ≠ gs ∧ Bx W b 3 (is (head13 T)) := x23
    have e23 : a.tmps[31]?.getD undef = .slice (some ⟨b, 0, none⟩) 5 5 := by rw [← Array.getD_eq_getD_getElem?]; exact d23
    have hrd : RdI W (.slice (some ⟨b, 0, none⟩) 5 5) (head13 T) := ⟨by show 5 ≤ _; omega, ⟨_, _, b, 0, rfl, Nat.le_refl _, fun i hi => ⟨rfl, hbx.cell (by rw [Nat.zero_add]; exact is_get hi)⟩⟩, fun i hi => HR.out _ (ixI_mem hi)⟩
    have hcl := enc1_any hc.b (by show 4 ≤ _; omega) _ _ hrd (by show 5 ≤ _; omega)
    have hcb := hc.b
    refine stepS_call2 (v := .tuple #[]) fun K hK => ?_
    have hlt := hc.lt
    have hle := hc.le
    have ht := hc.t
    clear hc hrd hbx d23
    go_simp
    refine hcl.mono ?_
    rintro e w' ⟨rfl, h1, h2⟩
    exact hK w' h2 ⟨ht.turnS h2 hlt.2.1 hlt.2.2 hcb (by decide), h1, hle.trans (h2.below hlt.1 hle.size), hlt⟩ rfl
  · intro a W hC hd hsz hold hval
    have d0 : a.tmps.getD 0 undef = .pointer (some ⟨g, 0, none⟩) := hold 0 (by kernel_rfl)
    have d3 : a.tmps.getD 3 undef = .pointer (some ⟨gs, 0, none⟩) := hold 3 (by kernel_rfl)
    have d4 : a.tmps.getD 4 undef = .func (.func 46) #[] #[.pointer (some ⟨gs, 0, none⟩)] := hold 4 (by kernel_rfl)
    clear hold
    obtain ⟨tm, df⟩ := a
    replace hd : df = [] := hd
    replace hsz : tm.size = 59 := hsz
    replace d0 : tm.getD 0 undef = .pointer (some ⟨g, 0, none⟩) := d0
    replace d3 : tm.getD 3 undef = .pointer (some ⟨gs, 0, none⟩) := d3
    replace d4 : tm.getD 4 undef = .func (.func 46) #[] #[.pointer (some ⟨gs, 0, none⟩)] := d4
    subst hd
    have e : tm = List.toArray (tm.getD 0 undef :: tm.getD 1 undef :: tm.getD 2 undef :: tm.getD 3 undef :: tm.getD 4 undef :: tm.getD 5 undef :: tm.getD 6 undef :: tm.getD 7 undef :: tm.getD 8 undef :: tm.getD 9 undef :: tm.getD 10 undef :: tm.getD 11 undef :: tm.getD 12 undef :: tm.getD 13 undef :: tm.getD 14 undef :: tm.getD 15 undef :: tm.getD 16 undef :: tm.getD 17 undef :: tm.getD 18 undef :: tm.getD 19 undef :: tm.getD 20 undef :: tm.getD 21 undef :: tm.getD 22 undef :: tm.getD 23 undef :: tm.getD 24 undef :: tm.getD 25 undef :: tm.getD 26 undef :: tm.getD 27 undef :: tm.getD 28 undef :: tm.getD 29 undef :: tm.getD 30 undef :: tm.getD 31 undef :: tm.getD 32 undef :: tm.getD 33 undef :: tm.getD 34 undef :: tm.getD 35 undef :: tm.getD 36 undef :: tm.getD 37 undef :: tm.getD 38 undef :: tm.getD 39 undef :: tm.getD 40 undef :: tm.getD 41 undef :: tm.getD 42 undef :: tm.getD 43 undef :: tm.getD 44 undef :: tm.getD 45 undef :: tm.getD 46 undef :: tm.getD 47 undef :: tm.getD 48 undef :: tm.getD 49 undef :: tm.getD 50 undef :: tm.getD 51 undef :: tm.getD 52 undef :: tm.getD 53 undef :: tm.getD 54 undef :: tm.getD 55 undef :: tm.getD 56 undef :: tm.getD 57 undef :: tm.getD 58 undef :: []) := arr_eq tm 59 hsz
    rw [d0, d3, d4] at e
    clear d0 d3 d4 hsz
    generalize tm.getD 1 undef = v1 at e
    generalize tm.getD 2 undef = v2 at e
    generalize tm.getD 5 undef = v5 at e
    generalize tm.getD 6 undef = v6 at e
    generalize tm.getD 7 undef = v7 at e
    generalize tm.getD 8 undef = v8 at e
    generalize tm.getD 9 undef = v9 at e
    generalize tm.getD 10 undef = v10 at e
    generalize tm.getD 11 undef = v11 at e
    generalize tm.getD 12 undef = v12 at e
    generalize tm.getD 13 undef = v13 at e
    generalize tm.getD 14 undef = v14 at e
    generalize tm.getD 15 undef = v15 at e
    generalize tm.getD 16 undef = v16 at e
    generalize tm.getD 17 undef = v17 at e
    generalize tm.getD 18 undef = v18 at e
    generalize tm.getD 19 undef = v19 at e
    generalize tm.getD 20 undef = v20 at e
    generalize tm.getD 21 undef = v21 at e
    generalize tm.getD 22 undef = v22 at e
    generalize tm.getD 23 undef = v23 at e
    generalize tm.getD 24 undef = v24 at e
    generalize tm.getD 25 undef = v25 at e
    generalize tm.getD 26 undef = v26 at e
    generalize tm.getD 27 undef = v27 at e
    generalize tm.getD 28 undef = v28 at e
    generalize tm.getD 29 undef = v29 at e
    generalize tm.getD 30 undef = v30 at e
    generalize tm.getD 31 undef = v31 at e
    generalize tm.getD 32 undef = v32 at e
    generalize tm.getD 33 undef = v33 at e
    generalize tm.getD 34 undef = v34 at e
    generalize tm.getD 35 undef = v35 at e
    generalize tm.getD 36 undef = v36 at e
    generalize tm.getD 37 undef = v37 at e
    generalize tm.getD 38 undef = v38 at e
    generalize tm.getD 39 undef = v39 at e
    generalize tm.getD 40 undef = v40 at e
    generalize tm.getD 41 undef = v41 at e
    generalize tm.getD 42 undef = v42 at e
    generalize tm.getD 43 undef = v43 at e
    generalize tm.getD 44 undef = v44 at e
    generalize tm.getD 45 undef = v45 at e
    generalize tm.getD 46 undef = v46 at e
    generalize tm.getD 47 undef = v47 at e
    generalize tm.getD 48 undef = v48 at e
    generalize tm.getD 49 undef = v49 at e
    generalize tm.getD 50 undef = v50 at e
    generalize tm.getD 51 undef = v51 at e
    generalize tm.getD 52 undef = v52 at e
    generalize tm.getD 53 undef = v53 at e
    generalize tm.getD 54 undef = v54 at e
    generalize tm.getD 55 undef = v55 at e
    generalize tm.getD 56 undef = v56 at e
    generalize tm.getD 57 undef = v57 at e
    generalize tm.getD 58 undef = v58 at e
    subst e
    have HC1 := Lib.hid (show EncC w g gm gs (.slice ap T.prim.length cp) T 1 W from hC)
    clear hC hval HC0
    obtain ⟨c0, c1, c2, c3, c4⟩ := HC1.out.t.cells
    have HP4 := Lib.hid (enc1_any HC1.out.b (by
      have := encL_le (head13 T)
      show (magic13 ++ encL (head13 T)).length ≤ _
      rw [List.length_append]
      have e : (head13 T).length = 5 := rfl
      have e2 : magic13.length = 4 := rfl
      omega) _ T.prim HC1.out.t.rd (by have := HC1.out.t.ok.pl; omega))
    go_wp2_with fail
    refine HP4.out.mono ?_
    rintro e w5 ⟨rfl, hb5, ht5⟩
    have HT5 := Lib.hid (HC1.out.t.turnS ht5 HC1.out.lt.2.1 HC1.out.lt.2.2 HC1.out.b (by decide))
    have HB5 := Lib.hid (HC1.out.le.trans (ht5.below HC1.out.lt.1 HC1.out.le.size))
    have HX5 := Lib.hid (show Bx w5 gs 9 [.string (str (magic13 ++ encL (head13 T) ++ encL T.prim))] from hb5)
    have hkl := (replaced_any HT5.out).1
    have HRP := Lib.hid (replaced_any HT5.out).2
    clear hb5 ht5 c0 c1 c2 c3 c4 HP4
    go_wp2_with fail
    refine HRP.out.mono ?_
    rintro e w6 ⟨v6, rfl, ho6, hb6⟩
    obtain ⟨a6, c6, rfl⟩ := ownD_form ho6
    have HX6 := Lib.hid (HX5.out.call hb6)
    have HB6 := Lib.hid (HB5.out.trans (hb6.mono HB5.out.size))
    have HO6 := Lib.hid (show w6.ownsRow w5.heap.size 53 2 (.slice a6 T.reps.length c6) T.reps.length (flD dRep T.reps) by rw [Tab.reps_length]; exact ho6)
    have HGL : Hid (gs < w5.heap.size) := Lib.hid HX5.out.lt
    have hkl2 : T.keys.length ≤ 64 := by have := HT.out.ok.us; have := HT.out.ok.sp; omega
    rw [← Tab.reps_length]
    rw [← Tab.reps_length] at hkl2
    have HPRE : Hid ((magic13 ++ encL (head13 T) ++ encL T.prim).length ≤ 10000) := Lib.hid (by
      rw [List.length_append, List.length_append]
      have := encL_le (head13 T)
      have := encL_le T.prim
      have e : (head13 T).length = 5 := rfl
      have e2 : magic13.length = 4 := rfl
      have := HT.out.ok.pl
      omega)
    have HBD : Hid (body13 T = magic13 ++ encL (head13 T) ++ encL T.prim ++ T.reps.flatMap repB) := Lib.hid rfl
    have HRI : Hid (∀ p ∈ T.reps, In64 p.1 ∧ In64 p.2) := Lib.hid (fun p hp => by
      simp only [Tab.reps, List.mem_map] at hp
      obtain ⟨x, hx, rfl⟩ := hp
      refine ⟨((HT.out.ok.mem_keys x).1 hx).1, ?_⟩
      show In64 (((T.mv x).map Int.ofNat).getD 0)
      cases e : T.mv x with
      | none => simp [In64]
      | some s => have := HT.out.ok.mr _ s e; have := HT.out.ok.us; have := HT.out.ok.sp; show In64 (s : Int); unfold In64; omega)
    have HC0' : Hid (w.heap.size ≤ gs) := Lib.hid HC1.out.lt.1
    clear ho6 hb6 HRP HT5 HC1
    generalize magic13 ++ encL (head13 T) ++ encL T.prim = pre at *
    generalize T.reps = rs at *
    go_wp2_with fail
    go_loopw [42] (fun vk wr => ∃ k : Nat, k ≤ rs.length ∧ vk = .int .i64 k ∧ Bx wr gs 9 [.string (str (pre ++ (rs.take k).flatMap repB))] ∧ wr.ownsRow w5.heap.size 53 2 (.slice a6 rs.length c6) rs.length (flD dRep rs) ∧ Below w.heap.size w wr) (fun vk _ => rs.length - (RowKit.intOf vk).toNat)
    case atStart => exact ⟨0, by omega, rfl, by simp; exact HX6.out, HO6.out, HB6.out⟩
    case round =>
      obtain ⟨k, hk, rfl, hX, hO, hB⟩ := hrel
      have HX := Lib.hid hX
      have HO := Lib.hid hO
      have HB := Lib.hid hB
      clear hX hB
      by_cases hlt : k < rs.length
      · obtain ⟨bl, off, hcell⟩ := RdD.at (RdD.ofOwn (d := ((0 : Int), (0 : Int))) dRep_len hO)
        obtain ⟨ha, hrg⟩ := hcell k hlt
        have hix := fun w' => run_idxS Try.underlying39 Try.sizeRep13 (cap := c6) ha hlt (k : Int) rfl w'
        have hc0 := hrg 0 _ rfl
        have hc1 := hrg 1 _ rfl
        simp only [Nat.add_zero] at hc0
        have hpr := HRI.out _ (atD_mem (d := ((0 : Int), (0 : Int))) hlt)
        have HTK : Hid ((rs.take (k + 1)).flatMap repB = (rs.take k).flatMap repB ++ encL [(atD ((0 : Int), (0 : Int)) rs k).1, (atD ((0 : Int), (0 : Int)) rs k).2]) := Lib.hid (by
          rw [List.take_succ_eq_append_getElem hlt, List.flatMap_append]
          congr 1
          simp [encL, repB, atD, hlt])
        have hlen : (pre ++ (rs.take k).flatMap repB).length ≤ 20000 := by
          rw [List.length_append]
          have h2 := repsB_le (rs.take k)
          rw [List.length_take] at h2
          have := HPRE.out
          omega
        generalize atD ((0 : Int), (0 : Int)) rs k = pr at *
        obtain ⟨px, py⟩ := pr
        have HA := Lib.hid ha
        clear ha hcell hO
        have hb1 := (Below.refl wr.heap.size wr).alloc (Nat.le_refl _) (.cells (dRep (px, py)).toArray 53)
        have HXA := Lib.hid (HX.out.call hb1)
        have hlit := rdI_lit (wr.alloc (.cells (dRep (px, py)).toArray 53)) [px, py] (by show 2 ≤ _; omega) (fun x hx => by
          simp only [List.mem_cons, List.not_mem_nil, or_false] at hx
          rcases hx with rfl | rfl
          · exact hpr.1
          · exact hpr.2)
        have hb2 := hb1.alloc hb1.size (.cells (is [px, py]).toArray 3)
        have hsz1 : (wr.alloc (.cells (dRep (px, py)).toArray 53)).heap.size = wr.heap.size + 1 := by simp
        rw [hsz1] at hlit
        have HCL := Lib.hid (enc1_any (HX.out.call hb2) (by omega) _ _ hlit (by show 2 ≤ _; omega))
        have HX2 := Lib.hid (HX.out.call hb2)
        have HO2 := Lib.hid (ownD_keep HO.out hb2)
        have HB2 := Lib.hid (HB.out.trans (hb2.mono HB.out.size))
        clear hlit hsz1 hb1 hb2 hpr
        go_wp2_with fail
        refine HCL.out.mono ?_
        rintro e w8 ⟨rfl, hx8, ht8⟩
        have HX8 := Lib.hid hx8
        have HO8 := Lib.hid (ht8.own HO2.out HGL.out)
        have HB8 := Lib.hid (HB2.out.trans (ht8.below HC0'.out HB2.out.size))
        clear hx8 ht8
        go_wp2_with fail
        go_roundw
        case rel => exact ⟨k + 1, by omega, by go_num, by rw [HTK.out, ← List.append_assoc]; exact HX8.out, HO8.out, HB8.out⟩
        case measure => simp [RowKit.intOf]; omega
      · obtain rfl : k = rs.length := by omega
        rw [List.take_length, ← HBD.out] at HX
        have HBL : Hid ((body13 T).length ≤ 20000) := Lib.hid (by
          rw [HBD.out, List.length_append]
          have := repsB_le rs
          have := HPRE.out
          omega)
        have HGW : Hid (gs < wr.heap.size) := Lib.hid HX.out.lt
        have hC0 : Bx wr.drew gs 9 [.string (str (body13 T))] := HX.out.call ((Below.refl _ _).drew)
        clear hlt
        go_upto_region 10 with (fail)
        refine wp_region_inr (by kernel_rfl) (fun w W => Below w.heap.size w W) (fun W => Bx W gs 9 [.string (str (body13 T))] ∧ Below wr.drew.heap.size wr.drew W) (encW gs T) (fun _ => false) (by kernel_rfl) (fun _ _ hR hc => ⟨hc.1.call hR, hc.2.trans (hR.mono hc.2.size)⟩) (encW_keep gs T) (⟨hC0, Below.refl _ _⟩) ⟨?_, ?_, ?_, ?_, ?_, ?_, trivial⟩ ?_
        · intro a W hc hsz hold hdep
          have o3 : a.tmps.getD 3 undef = .pointer (some ⟨gs, 0, none⟩) := hold 3 (by kernel_rfl)
          have q0 := hc.1.cell (i := 0) rfl
          clear hsz hold hdep
          refine stepR_do rfl (wanted_none rfl) ?_
          refine stepR_val (v := .string (str (body13 T))) (Below.refl _ _) rfl fun K hK => ?_
          go_simp
          exact hK
        · intro a W hc hsz hold hdep
          have o3 : a.tmps.getD 3 undef = .pointer (some ⟨gs, 0, none⟩) := hold 3 (by kernel_rfl)
          have q0 := hc.1.cell (i := 0) rfl
          clear hsz hold hdep
          refine stepR_do rfl (wanted_none rfl) ?_
          refine stepR_val (v := .string (str (body13 T))) (Below.refl _ _) rfl fun K hK => ?_
          go_simp
          exact hK
        · intro a W hc hsz hold hdep
          have d1 : a.tmps.getD 55 undef = .string (str (body13 T)) := hdep 1 (by kernel_rfl) rfl _ rfl
          have e1 : a.tmps[55]?.getD undef = .string (str (body13 T)) := by rw [← Array.getD_eq_getD_getElem?]; exact d1
          clear hsz hold hdep
          refine stepR_do rfl (wanted_none rfl) ?_
          refine stepR_call (v := .int .u16 (C.crc 0 (body13 T) : Nat)) (fun W' hb => hb) (fun _ => rfl) fun K hK => ?_
          go_simp
          refine ((W10.crc_any (str (body13 T)) _ (by rw [str_size]; have := HBL.out; omega))).mono ?_
          rintro e w' ⟨rfl, hb'⟩
          exact hK _ hb'
        · intro a W hc hsz hold hdep
          have d2 : a.tmps.getD 56 undef = .int .u16 (C.crc 0 (body13 T) : Nat) := hdep 2 (by kernel_rfl) rfl _ rfl
          have e2 : a.tmps[56]?.getD undef = .int .u16 (C.crc 0 (body13 T) : Nat) := by rw [← Array.getD_eq_getD_getElem?]; exact d2
          clear hsz hold hdep
          refine stepR_do rfl (wanted_none rfl) ?_
          refine stepR_call (v := .string (str (W10.crcB (C.crc 0 (body13 T))))) (fun W' hb => hb) (fun _ => rfl) fun K hK => ?_
          go_simp
          refine ((W10.crcbytes_any _ _ (C.crc_lt (by omega) _))).mono ?_
          rintro e w' ⟨rfl, hb'⟩
          exact hK _ hb'
        · intro a W hc hsz hold hdep
          have d0 : a.tmps.getD 54 undef = .string (str (body13 T)) := hdep 0 (by kernel_rfl) rfl _ rfl
          have d3 : a.tmps.getD 57 undef = .string (str (W10.crcB (C.crc 0 (body13 T)))) := hdep 3 (by kernel_rfl) rfl _ rfl
          have ap : str (body13 T) ++ str (W10.crcB (C.crc 0 (body13 T))) = str (enc13 T) := str_append _ _
          have hsum : ¬ 9223372036854775807 < (str (body13 T)).size + (str (W10.crcB (C.crc 0 (body13 T)))).size := by rw [str_size, str_size]; have := HBL.out; have e : (W10.crcB (C.crc 0 (body13 T))).length = 2 := rfl; omega
          clear hsz hold hdep
          refine stepR_do rfl (wanted_none rfl) ?_
          refine stepR_val (v := .string (str (enc13 T))) (Below.refl _ _) rfl fun K hK => ?_
          go_simp
          exact hK
        · intro a W hc hsz hold hdep
          have d4 : a.tmps.getD 58 undef = .string (str (enc13 T)) := hdep 4 (by kernel_rfl) rfl _ rfl
          clear hsz hold hdep
          refine stepR_do rfl (wanted_none rfl) ?_
          refine stepR_val (v := .string (str (enc13 T))) (Below.refl _ _) rfl fun K hK => ?_
          go_simp
          exact hK
        · intro a W hC hd hsz hold hval
          have d2 : a.tmps.getD 2 undef = .string (str (enc13 T)) := hval 5 _ rfl rfl
          clear hold
          obtain ⟨tm, df⟩ := a
          replace hd : df = [] := hd
          replace hsz : tm.size = 59 := hsz
          replace d2 : tm.getD 2 undef = .string (str (enc13 T)) := d2
          subst hd
          have e : tm = List.toArray (tm.getD 0 undef :: tm.getD 1 undef :: tm.getD 2 undef :: tm.getD 3 undef :: tm.getD 4 undef :: tm.getD 5 undef :: tm.getD 6 undef :: tm.getD 7 undef :: tm.getD 8 undef :: tm.getD 9 undef :: tm.getD 10 undef :: tm.getD 11 undef :: tm.getD 12 undef :: tm.getD 13 undef :: tm.getD 14 undef :: tm.getD 15 undef :: tm.getD 16 undef :: tm.getD 17 undef :: tm.getD 18 undef :: tm.getD 19 undef :: tm.getD 20 undef :: tm.getD 21 undef :: tm.getD 22 undef :: tm.getD 23 undef :: tm.getD 24 undef :: tm.getD 25 undef :: tm.getD 26 undef :: tm.getD 27 undef :: tm.getD 28 undef :: tm.getD 29 undef :: tm.getD 30 undef :: tm.getD 31 undef :: tm.getD 32 undef :: tm.getD 33 undef :: tm.getD 34 undef :: tm.getD 35 undef :: tm.getD 36 undef :: tm.getD 37 undef :: tm.getD 38 undef :: tm.getD 39 undef :: tm.getD 40 undef :: tm.getD 41 undef :: tm.getD 42 undef :: tm.getD 43 undef :: tm.getD 44 undef :: tm.getD 45 undef :: tm.getD 46 undef :: tm.getD 47 undef :: tm.getD 48 undef :: tm.getD 49 undef :: tm.getD 50 undef :: tm.getD 51 undef :: tm.getD 52 undef :: tm.getD 53 undef :: tm.getD 54 undef :: tm.getD 55 undef :: tm.getD 56 undef :: tm.getD 57 undef :: tm.getD 58 undef :: []) := arr_eq tm 59 hsz
          rw [d2] at e
          clear d2 hsz
          generalize tm.getD 0 undef = v0 at e
          generalize tm.getD 1 undef = v1 at e
          generalize tm.getD 3 undef = v3 at e
          generalize tm.getD 4 undef = v4 at e
          generalize tm.getD 5 undef = v5 at e
          generalize tm.getD 6 undef = v6 at e
          generalize tm.getD 7 undef = v7 at e
          generalize tm.getD 8 undef = v8 at e
          generalize tm.getD 9 undef = v9 at e
          generalize tm.getD 10 undef = v10 at e
          generalize tm.getD 11 undef = v11 at e
          generalize tm.getD 12 undef = v12 at e
          generalize tm.getD 13 undef = v13 at e
          generalize tm.getD 14 undef = v14 at e
          generalize tm.getD 15 undef = v15 at e
          generalize tm.getD 16 undef = v16 at e
          generalize tm.getD 17 undef = v17 at e
          generalize tm.getD 18 undef = v18 at e
          generalize tm.getD 19 undef = v19 at e
          generalize tm.getD 20 undef = v20 at e
          generalize tm.getD 21 undef = v21 at e
          generalize tm.getD 22 undef = v22 at e
          generalize tm.getD 23 undef = v23 at e
          generalize tm.getD 24 undef = v24 at e
          generalize tm.getD 25 undef = v25 at e
          generalize tm.getD 26 undef = v26 at e
          generalize tm.getD 27 undef = v27 at e
          generalize tm.getD 28 undef = v28 at e
          generalize tm.getD 29 undef = v29 at e
          generalize tm.getD 30 undef = v30 at e
          generalize tm.getD 31 undef = v31 at e
          generalize tm.getD 32 undef = v32 at e
          generalize tm.getD 33 undef = v33 at e
          generalize tm.getD 34 undef = v34 at e
          generalize tm.getD 35 undef = v35 at e
          generalize tm.getD 36 undef = v36 at e
          generalize tm.getD 37 undef = v37 at e
          generalize tm.getD 38 undef = v38 at e
          generalize tm.getD 39 undef = v39 at e
          generalize tm.getD 40 undef = v40 at e
          generalize tm.getD 41 undef = v41 at e
          generalize tm.getD 42 undef = v42 at e
          generalize tm.getD 43 undef = v43 at e
          generalize tm.getD 44 undef = v44 at e
          generalize tm.getD 45 undef = v45 at e
          generalize tm.getD 46 undef = v46 at e
          generalize tm.getD 47 undef = v47 at e
          generalize tm.getD 48 undef = v48 at e
          generalize tm.getD 49 undef = v49 at e
          generalize tm.getD 50 undef = v50 at e
          generalize tm.getD 51 undef = v51 at e
          generalize tm.getD 52 undef = v52 at e
          generalize tm.getD 53 undef = v53 at e
          generalize tm.getD 54 undef = v54 at e
          generalize tm.getD 55 undef = v55 at e
          generalize tm.getD 56 undef = v56 at e
          generalize tm.getD 57 undef = v57 at e
          generalize tm.getD 58 undef = v58 at e
          subst e
          have hle : Below w.heap.size w W := HB.out.trans (((Below.refl wr.heap.size wr).drew.trans (hC.2.mono (by simp))).mono HB.out.size)
          go_wp2_with fail
          go_ret
          exact ⟨rfl, hle⟩
end Go.Proofs.Ytjnedcncfdpjoaa.D13
