/- Shaken out of XQn XQf -/
import Derived.Test.YtflmjdjkfognjaaGreatTp21
import Derived.Maps.OwnOps
import Derived.Maps.OwnSet
import Derived.Maps.Views
import Derived.Maps.RangeWalk
import Derived.Deep.DeepMust
import Derived.Test.YtflmjdjkfognjaaGreatTp25
import Derived.Test.YtflmjdjkfognjaaGreatTp11
namespace Go.Proofs.YtflmjdjkfognjaaGreat.W10
open Go.RowKit Go.Maps
set_option linter.unusedVariables false
theorem lawInt : Keyed Tryz.prog 3 := int_keyed Tryz.underlying3
theorem zeroU8 : ∀ w, (zeroValue 5).run Tryz.prog w = .ok (.int .u8 0) w := fun _ => by kernel_rfl
/-- an entry of a map literal -/
theorem wpList_insertM {H : Type} {P : Program} (w : World) {ops : Array Oper} {rest : List Oper} {o : Oper} {a : Act} {Q : Exit → Act → World → Prop}
    (hg : o.guard = none) (m x v : Operand) (t : TypeId) (hop : o.op = Op.insert t m x v)
    (k e : TypeId) (K : Keyed P k) (ht : P.underlying t = some (.map k e)) (R : Value → Option (DataW H × List MemPlace)) (b n : Nat) (D : DataW H)
    (hm : a.eval m = .map (some b)) (hown : w.ownsMap P k R b n D) (hn : n < maxLen) (key val : Value) (kl : Lit) (hx : a.eval x = key) (hv : a.eval v = val) (hkey : keyOf P k key = some kl)
    (d : DataW H) (ps : List MemPlace) (hval : R val = some (d, ps))
    (hK : ∀ w', w'.ownsMap P k R b (n + 1) (D.put kl d) → w.grownBy w' (some b) → wpList P ops Q rest (a.put o.dst undef) w') :
    wpList P ops Q (o :: rest) a w := by
  refine wpList_plain hg fun K' hK' => ?_
  obtain ⟨w', hrun, r1, r2⟩ := hown.update K ht hn hkey hval
  unfold Oper.wp
  simp [execOp, hop, hm, hx, hv, hrun, Result.andThen]
  exact hK' _ _ (hK w' r1 r2)
/-- the entries of 'special' -/
def spD : DataW Unit := .map [(.int .i64 160, .lit (.int .u8 160)), (.int .i64 161, .lit (.int .u8 161)), (.int .i64 162, .lit (.int .u8 162)), (.int .i64 170, .lit (.int .u8 170))]
theorem spD_eq : (((((DataW.map [] : DataW Unit).put (.int .i64 160) (.lit (.int .u8 160))).put (.int .i64 161) (.lit (.int .u8 161))).put (.int .i64 162) (.lit (.int .u8 162))).put (.int .i64 170) (.lit (.int .u8 170))) = spD := by kernel_rfl
/-- a number that is not written in digits -/
def isSp (n : Int) : Bool := n == 160 || n == 161 || n == 162 || n == 170
theorem isSp_iff {n : Int} : isSp n = true ↔ n = 160 ∨ n = 161 ∨ n = 162 ∨ n = 170 := by simp [isSp, or_assoc]
theorem sp_has (n : Int) : Maps.has spD (.int .i64 n) = isSp n := by
  rw [Bool.eq_iff_iff, isSp_iff]
  simp only [spD, Maps.has, List.any_cons, List.any_nil, Bool.or_false, Bool.or_eq_true, Lit.sameKey, decide_eq_true_eq]
  constructor
  · rintro (h | h | h | h) <;> simp at h <;> omega
  · rintro (h | h | h | h) <;> subst h <;> simp
theorem sp_at {n : Int} (h : isSp n = true) (z : DataW Unit) : spD.atKey (.int .i64 n) z = .lit (.int .u8 n) := by
  rcases isSp_iff.1 h with h | h | h | h <;> subst h <;> rfl
def SpP (w : World) (e : Ending) (w' : World) : Prop := ∃ b, e = .returned (.map (some b)) ∧ w'.ownsMap Tryz.prog 3 (plainElem Tryz.prog 5) b 4 spD ∧ Below w.heap.size w w'
set_option maxRecDepth 100000 in
set_option maxHeartbeats 2000000 in
theorem special_any (w : World) : Calls Tryz.prog 115 #[] w (SpP w) := by
  have hmm := @run_makeMap Tryz.prog
  have hk : ∀ n : Int, 0 ≤ n → n < 1000 → keyOf Tryz.prog 3 (.int .i64 n) = some (.int .i64 n) := fun n h1 h2 => keyOf_int_mk Tryz.underlying3 (by simp [Lit.wf, IntKind.min, IntKind.max, IntKind.signed, IntKind.bits]; omega)
  have he : ∀ n : Int, 0 ≤ n → n < 256 → plainElem (H := Unit) Tryz.prog 5 (.int .u8 n) = some (.lit (.int .u8 n), []) := fun n h1 h2 => plainElem_int Tryz.underlying5 (by simp [Lit.wf, IntKind.min, IntKind.max, IntKind.signed, IntKind.bits]; omega)
  have Hk := Lib.hid hk
  have He := Lib.hid he
  clear hk he
  have h0 := World.ownsMap_made (H := Unit) w Tryz.prog 3 (plainElem Tryz.prog 5)
  have b0 := (Below.refl w.heap.size w).alloc (Nat.le_refl _) (.map #[] 0)
  have H0 := Lib.hid h0
  clear h0
  go_enter Tryz.func115, Tryz.ntmps115
  go_wp2_with (first
    | (refine wpList_insertM _ rfl (.tmp 1) (.const (.int .i64 160)) (.const (.int .u8 160)) 201 rfl 3 5 lawInt Tryz.underlying201 _ w.heap.size 0 _ rfl H0.out (by unfold maxLen; omega) _ _ _ rfl rfl (Hk.out 160 (by omega) (by omega)) _ [] (He.out 160 (by omega) (by omega)) ?_; intro w1 h1 g1; have H1 := Lib.hid h1; clear h1)
    | (refine wpList_insertM _ rfl (.tmp 1) (.const (.int .i64 161)) (.const (.int .u8 161)) 201 rfl 3 5 lawInt Tryz.underlying201 _ w.heap.size 1 _ rfl H1.out (by unfold maxLen; omega) _ _ _ rfl rfl (Hk.out 161 (by omega) (by omega)) _ [] (He.out 161 (by omega) (by omega)) ?_; intro w2 h2 g2; have H2 := Lib.hid h2; clear h2)
    | (refine wpList_insertM _ rfl (.tmp 1) (.const (.int .i64 162)) (.const (.int .u8 162)) 201 rfl 3 5 lawInt Tryz.underlying201 _ w.heap.size 2 _ rfl H2.out (by unfold maxLen; omega) _ _ _ rfl rfl (Hk.out 162 (by omega) (by omega)) _ [] (He.out 162 (by omega) (by omega)) ?_; intro w3 h3 g3; have H3 := Lib.hid h3; clear h3)
    | (refine wpList_insertM _ rfl (.tmp 1) (.const (.int .i64 170)) (.const (.int .u8 170)) 201 rfl 3 5 lawInt Tryz.underlying201 _ w.heap.size 3 _ rfl H3.out (by unfold maxLen; omega) _ _ _ rfl rfl (Hk.out 170 (by omega) (by omega)) _ [] (He.out 170 (by omega) (by omega)) ?_; intro w4 h4 g4; have H4 := Lib.hid h4; clear h4))
  go_ret
  refine ⟨_, rfl, ?_, ?_⟩
  · have := H4.out; rw [spD_eq] at this; exact this
  · exact (((b0.grown g1 (by simp) (fun k hk => by cases hk; exact Nat.le_refl _)).grown g2 (by have := g1.size; simp at this; omega) (fun k hk => by cases hk; exact Nat.le_refl _)).grown g3 (by have := g1.size; have := g2.size; simp at *; omega) (fun k hk => by cases hk; exact Nat.le_refl _)).grown g4 (by have := g1.size; have := g2.size; have := g3.size; simp at *; omega) (fun k hk => by cases hk; exact Nat.le_refl _)
/-- the byte of a track or a point -/
def num (n : Int) : Int := if 99 < n then n else bcd n
theorem num_sp {n : Int} (h : isSp n = true) : num n = n := if_pos (by rcases isSp_iff.1 h with h | h | h | h <;> omega)
theorem num_d {n : Int} (h : n ≤ 99) : num n = bcd n := if_neg (by omega)
theorem sp_c {n c : Int} (h : (.lit (.int .u8 n) : DataW Unit) = .lit (.int .u8 c)) : n = c := by simpa using h
set_option maxRecDepth 100000 in
set_option maxHeartbeats 2000000 in
theorem number_any (n : Int) (w : World) (h : (0 ≤ n ∧ n ≤ 99) ∨ isSp n = true) : Calls Tryz.prog 49 #[.int .i64 n] w (RV (.int .u8 (num n)) w) := by
  have hn : 0 ≤ n ∧ n ≤ 200 := by
    rcases h with h | h
    · omega
    · rcases isSp_iff.1 h with h | h | h | h <;> omega
  have Hn := Lib.hid hn
  have hkey : keyOf Tryz.prog 3 (.int .i64 n) = some (.int .i64 n) := keyOf_int_mk Tryz.underlying3 (by simp [Lit.wf, IntKind.min, IntKind.max, IntKind.signed, IntKind.bits]; omega)
  have HK := Lib.hid hkey
  clear hn hkey
  have HH := Lib.hid (sp_has n)
  cases hs : isSp n with
  | true =>
    have HA := Lib.hid (sp_at hs)
    have HN := Lib.hid (num_sp hs)
    have hh : Maps.has spD (.int .i64 n) = true := by rw [HH.out]; exact hs
    clear h hs
    rw [HN.out]
    go_enter Tryz.func49, Tryz.ntmps49
    go_wp2_with fail
    refine (special_any _).mono ?_
    rintro e w1 ⟨b, rfl, hown, hb⟩
    go_wp2_with (at_lookup; (refine wpList_lookup_own_ok_int _ rfl _ _ 201 rfl 3 5 .u8 lawInt Tryz.underlying201 Tryz.underlying5 (zeroU8 _) b 4 _ rfl hown _ _ rfl HK.out ?_; intro c hat hwc; have hc := sp_c ((HA.out _).symm.trans hat); clear hat hwc; rw [← hc]; clear hc))
    go_ret
    exact ⟨rfl, hb⟩
  | false =>
    have h2 : 0 ≤ n ∧ n ≤ 99 := by rcases h with h | h; exact h; rw [hs] at h; cases h
    obtain ⟨h3, h4⟩ := h2
    have HN := Lib.hid (num_d h4)
    have hh : Maps.has spD (.int .i64 n) = false := by rw [HH.out]; exact hs
    clear h hs
    rw [HN.out]
    go_enter Tryz.func49, Tryz.ntmps49
    go_wp2_with fail
    refine (special_any _).mono ?_
    rintro e w1 ⟨b, rfl, hown, hb⟩
    go_wp2_with (first
      | (at_lookup; (refine wpList_lookup_own_ok_int _ rfl _ _ 201 rfl 3 5 .u8 lawInt Tryz.underlying201 Tryz.underlying5 (zeroU8 _) b 4 _ rfl hown _ _ rfl HK.out ?_; intro c hat hwc; clear hat hwc))
      | (go_at_call 114; refine (bcd_any n _ h3 h4).mono ?_; rintro e w2 ⟨rfl, rfl⟩))
    go_ret
    exact ⟨rfl, hb⟩
end Go.Proofs.YtflmjdjkfognjaaGreat.W10
namespace Go.Proofs.YtflmjdjkfognjaaGreat.W10
open Go.RowKit
set_option linter.unusedVariables false
/-- the ten bytes of a frame, and the twelve -/
def bodyL (q : Q.Fr) : List UInt8 := [by8 (q.ctl * 16 + 1), by8 (num q.trk), by8 (num q.pt)] ++ adr q.rm q.rs q.rf ++ [0] ++ adr q.am q.as q.af
def encL (q : Q.Fr) : List UInt8 := bodyL q ++ chk (bodyL q)
theorem bodyL_length (q : Q.Fr) : (bodyL q).length = 10 := rfl
theorem str_app (l m : List UInt8) : str l ++ str m = str (l ++ m) := by
  unfold str
  apply ByteArray.ext
  rw [ByteArray.data_append]
  simp
theorem Rd.ofBx {W : World} {g : Nat} {t : TypeId} {l : List UInt8} (h : Bx W g t (bs l)) (hl : l.length ≤ 140737488351232) : Rd W (.slice (some ⟨g, 0, none⟩) l.length l.length) l :=
  ⟨hl, some ⟨g, 0, none⟩, l.length, g, 0, rfl, Nat.le_refl _, fun i hi => ⟨rfl, by rw [Nat.zero_add]; exact h.cell (bs_get hi)⟩⟩
theorem ctl_or : ∀ k : Nat, k < 16 → bits .or .i64 ((k : Int) * 16) 1 = (k : Int) * 16 + 1 := by decide +kernel
theorem ctl_or' {c : Int} (h0 : 0 ≤ c) (h1 : c ≤ 15) : bits .or .i64 (c * 16) 1 = c * 16 + 1 := by
  have h := ctl_or c.toNat (by omega)
  rwa [Int.toNat_of_nonneg h0] at h
theorem num_lt {n : Int} (h : (0 ≤ n ∧ n ≤ 99) ∨ isSp n = true) : 0 ≤ num n ∧ num n < 256 := by
  rcases h with h | h
  · rw [num_d h.2]; exact bcd_lt h.1 h.2
  · rw [num_sp h]; rcases isSp_iff.1 h with h | h | h | h <;> omega
/-- what a frame that is right says -/
structure Good (q : Q.Fr) : Prop where
  c0 : 0 ≤ q.ctl
  c1 : q.ctl ≤ 15
  t : (0 ≤ q.trk ∧ q.trk ≤ 99) ∨ isSp q.trk = true
  p : (0 ≤ q.pt ∧ q.pt ≤ 99) ∨ isSp q.pt = true
  r : okA q.rm q.rs q.rf
  a : okA q.am q.as q.af
theorem btw_iff {n a b : Int} : btw n a b = true ↔ a ≤ n ∧ n ≤ b := decide_eq_true_iff
theorem frB_good {q : Q.Fr} (h : frB q = true) : Good q := by
  unfold frB trkB ptB at h
  simp only [Bool.and_eq_true, Bool.or_eq_true, btw_iff, beq_iff_eq] at h
  obtain ⟨⟨⟨⟨h1, h2⟩, h3⟩, h4⟩, h5⟩ := h
  refine ⟨h1.1, h1.2, h2.imp id (fun h => isSp_iff.2 (by omega)), h3.imp id (fun h => isSp_iff.2 (by omega)), vB_true.1 h4, vB_true.1 h5⟩
def encV (gB : Nat) (q : Q.Fr) (i : Nat) (v : Value) (W : World) : Prop := match i with
  | 0 => v = .pointer (some ⟨gB, 0, none⟩)
  | 1 => v = .int .i64 q.ctl
  | 2 => v = .int .i64 (q.ctl * 16)
  | 3 => v = .int .i64 (q.ctl * 16 + 1)
  | 4 => v = .int .u8 (q.ctl * 16 + 1)
  | 5 => v = .pointer (some ⟨gB, 1, none⟩)
  | 6 => v = .int .i64 q.trk
  | 7 => v = .int .u8 (num q.trk)
  | 8 => v = .pointer (some ⟨gB, 2, none⟩)
  | 9 => v = .int .i64 q.pt
  | 10 => v = .int .u8 (num q.pt)
  | 11 => ∃ g, v = .slice (some ⟨g, 0, none⟩) 3 3 ∧ Bx W g 5 (bs [by8 (q.ctl * 16 + 1), by8 (num q.trk), by8 (num q.pt)])
  | 12 => v = .string (str [by8 (q.ctl * 16 + 1), by8 (num q.trk), by8 (num q.pt)])
  | 13 => v = .func (.func 47) #[] #[]
  | 14 => v = .pointer (some ⟨gB, 3, none⟩)
  | 15 => v = msfv q.rm q.rs q.rf
  | 16 => v = .string (str (adr q.rm q.rs q.rf))
  | 17 => v = .string (str ([by8 (q.ctl * 16 + 1), by8 (num q.trk), by8 (num q.pt)] ++ adr q.rm q.rs q.rf))
  | 18 => v = .string (str ([by8 (q.ctl * 16 + 1), by8 (num q.trk), by8 (num q.pt)] ++ adr q.rm q.rs q.rf ++ [0]))
  | 19 => v = .func (.func 47) #[] #[]
  | 20 => v = .pointer (some ⟨gB, 6, none⟩)
  | 21 => v = msfv q.am q.as q.af
  | 22 => v = .string (str (adr q.am q.as q.af))
  | 23 => v = .string (str ([by8 (q.ctl * 16 + 1), by8 (num q.trk), by8 (num q.pt)] ++ adr q.rm q.rs q.rf ++ [0] ++ adr q.am q.as q.af))
  | 24 => v = .string (str ([by8 (q.ctl * 16 + 1), by8 (num q.trk), by8 (num q.pt)] ++ adr q.rm q.rs q.rf ++ [0] ++ adr q.am q.as q.af))
  | _ => True
theorem encV_keep (gB : Nat) (q : Q.Fr) (i : Nat) (v : Value) (W W' : World) (hb : Below W.heap.size W W') (h : encV gB q i v W) : encV gB q i v W' := by
  by_cases hi : i = 11
  · subst hi
    obtain ⟨g, h1, h2⟩ := h
    exact ⟨g, h1, h2.call hb⟩
  · unfold encV at h ⊢
    split at h <;> first | exact h | exact absurd rfl hi
set_option maxRecDepth 100000 in
set_option maxHeartbeats 4000000 in
theorem enc_no (q : Q.Fr) (w : World) (h : frB q = false) : Calls Tryz.prog 12 #[fagg q] w (R2B (.string (str [])) (.int .i64 1) w) := by
  have HV := Lib.hid h
  clear h
  go_enter Tryz.func12, Tryz.ntmps12
  go_wp2_with fail
  refine (fvalid_any q _).mono ?_
  rw [HV.out]
  rintro e w1 ⟨rfl, hb⟩
  have hle := ((Below.refl w.heap.size w).alloc (Nat.le_refl _) (fobj q)).trans (hb.mono (by simp))
  go_wp2_with fail
  go_ret2
  exact ⟨rfl, hle⟩
set_option maxRecDepth 100000 in
set_option maxHeartbeats 4000000 in
theorem enc_yes (q : Q.Fr) (w : World) (h : frB q = true) : Calls Tryz.prog 12 #[fagg q] w (R2B (.string (str (encL q))) (.int .i64 0) w) := by
  have HV := Lib.hid h
  have HG := Lib.hid (frB_good h)
  clear h
  go_enter Tryz.func12, Tryz.ntmps12
  go_wp2_with fail
  refine (fvalid_any q _).mono ?_
  rw [HV.out]
  rintro e w1 ⟨rfl, hb⟩
  have hB : Bx w1 w.heap.size 38 (fcs q) := (Bx.new w 38 (fcs q)).call hb
  have hle := ((Below.refl w.heap.size w).alloc (Nat.le_refl _) (fobj q)).trans (hb.mono (by simp))
  clear hb
  obtain ⟨gB, hgB⟩ : ∃ gB, gB = w.heap.size := ⟨_, rfl⟩
  rw [← hgB] at hB
  simp only [← hgB]
  clear hgB
  go_upto_region 4 with (fail)
  refine wp_region_inv (by kernel_rfl) (fun W => Bx W gB 38 (fcs q) ∧ Below w.heap.size w W) (encV gB q) (by kernel_rfl) (fun W W' hb h => ⟨h.1.call hb, h.2.trans (hb.mono h.2.size)⟩) (encV_keep gB q) ⟨hB, hle.drew⟩ ⟨?_, ?_, ?_, ?_, ?_, ?_, ?_, ?_, ?_, ?_, ?_, ?_, ?_, ?_, ?_, ?_, ?_, ?_, ?_, ?_, ?_, ?_, ?_, ?_, ?_, trivial⟩ ?_
  · intro a W hc hsz hold hdep
    have o1 : a.tmps.getD 1 undef = .pointer (some ⟨gB, 0, none⟩) := hold 1 (by kernel_rfl)
    clear hsz hold hdep
    refine stepVal (v := .pointer (some ⟨gB, 0, none⟩)) rfl fun K hK => ?_
    go_simp
    exact hK
  · intro a W hc hsz hold hdep
    have d0 : a.tmps.getD 9 undef = .pointer (some ⟨gB, 0, none⟩) := hdep 0 (by kernel_rfl) _ 9 rfl rfl
    have c0 := hc.1.cell (i := 0) rfl
    clear hsz hold hdep
    refine stepVal (v := .int .i64 q.ctl) rfl fun K hK => ?_
    go_simp
    exact hK
  · intro a W hc hsz hold hdep
    have d1 : a.tmps.getD 10 undef = .int .i64 q.ctl := hdep 1 (by kernel_rfl) _ 10 rfl rfl
    have b0 := HG.out.c0
    have b1 := HG.out.c1
    have hw : IntKind.i64.wrap (q.ctl * 16) = q.ctl * 16 := IntWalk.i64_in _ (by omega)
    have hw8 : IntKind.u8.wrap (q.ctl * 16 + 1) = q.ctl * 16 + 1 := by rw [IntKind.wrap_u8']; omega
    clear hsz hold hdep
    refine stepVal (v := .int .i64 (q.ctl * 16)) rfl fun K hK => ?_
    go_simp
    exact hK
  · intro a W hc hsz hold hdep
    have d2 : a.tmps.getD 11 undef = .int .i64 (q.ctl * 16) := hdep 2 (by kernel_rfl) _ 11 rfl rfl
    have b0 := HG.out.c0
    have b1 := HG.out.c1
    have hw : IntKind.i64.wrap (q.ctl * 16) = q.ctl * 16 := IntWalk.i64_in _ (by omega)
    have hw8 : IntKind.u8.wrap (q.ctl * 16 + 1) = q.ctl * 16 + 1 := by rw [IntKind.wrap_u8']; omega
    have ho := ctl_or' b0 b1
    clear hsz hold hdep
    refine stepVal (v := .int .i64 (q.ctl * 16 + 1)) rfl fun K hK => ?_
    go_simp
    exact hK
  · intro a W hc hsz hold hdep
    have d3 : a.tmps.getD 12 undef = .int .i64 (q.ctl * 16 + 1) := hdep 3 (by kernel_rfl) _ 12 rfl rfl
    have b0 := HG.out.c0
    have b1 := HG.out.c1
    have hw : IntKind.i64.wrap (q.ctl * 16) = q.ctl * 16 := IntWalk.i64_in _ (by omega)
    have hw8 : IntKind.u8.wrap (q.ctl * 16 + 1) = q.ctl * 16 + 1 := by rw [IntKind.wrap_u8']; omega
    clear hsz hold hdep
    refine stepVal (v := .int .u8 (q.ctl * 16 + 1)) rfl fun K hK => ?_
    go_simp
    exact hK
  · intro a W hc hsz hold hdep
    have o1 : a.tmps.getD 1 undef = .pointer (some ⟨gB, 0, none⟩) := hold 1 (by kernel_rfl)
    clear hsz hold hdep
    refine stepVal (v := .pointer (some ⟨gB, 1, none⟩)) rfl fun K hK => ?_
    go_simp
    exact hK
  · intro a W hc hsz hold hdep
    have d5 : a.tmps.getD 14 undef = .pointer (some ⟨gB, 1, none⟩) := hdep 5 (by kernel_rfl) _ 14 rfl rfl
    have c1 := hc.1.cell (i := 1) rfl
    clear hsz hold hdep
    refine stepVal (v := .int .i64 q.trk) rfl fun K hK => ?_
    go_simp
    exact hK
  · intro a W hc hsz hold hdep
    have d6 : a.tmps.getD 15 undef = .int .i64 q.trk := hdep 6 (by kernel_rfl) _ 15 rfl rfl
    clear hsz hold hdep
    refine stepCall (v := .int .u8 (num q.trk)) (fun _ => rfl) fun K hK => ?_
    go_simp
    refine (number_any _ _ HG.out.t).mono ?_
    rintro e w' ⟨rfl, hb'⟩
    exact hK _ hb'
  · intro a W hc hsz hold hdep
    have o1 : a.tmps.getD 1 undef = .pointer (some ⟨gB, 0, none⟩) := hold 1 (by kernel_rfl)
    clear hsz hold hdep
    refine stepVal (v := .pointer (some ⟨gB, 2, none⟩)) rfl fun K hK => ?_
    go_simp
    exact hK
  · intro a W hc hsz hold hdep
    have d8 : a.tmps.getD 17 undef = .pointer (some ⟨gB, 2, none⟩) := hdep 8 (by kernel_rfl) _ 17 rfl rfl
    have c2 := hc.1.cell (i := 2) rfl
    clear hsz hold hdep
    refine stepVal (v := .int .i64 q.pt) rfl fun K hK => ?_
    go_simp
    exact hK
  · intro a W hc hsz hold hdep
    have d9 : a.tmps.getD 18 undef = .int .i64 q.pt := hdep 9 (by kernel_rfl) _ 18 rfl rfl
    clear hsz hold hdep
    refine stepCall (v := .int .u8 (num q.pt)) (fun _ => rfl) fun K hK => ?_
    go_simp
    refine (number_any _ _ HG.out.p).mono ?_
    rintro e w' ⟨rfl, hb'⟩
    exact hK _ hb'
  · intro a W hc hsz hold hdep
    have d4 : a.tmps.getD 13 undef = .int .u8 (q.ctl * 16 + 1) := hdep 4 (by kernel_rfl) _ 13 rfl rfl
    have e4 : a.tmps[13]?.getD undef = .int .u8 (q.ctl * 16 + 1) := by rw [← Array.getD_eq_getD_getElem?]; exact d4
    have d7 : a.tmps.getD 16 undef = .int .u8 (num q.trk) := hdep 7 (by kernel_rfl) _ 16 rfl rfl
    have e7 : a.tmps[16]?.getD undef = .int .u8 (num q.trk) := by rw [← Array.getD_eq_getD_getElem?]; exact d7
    have d10 : a.tmps.getD 19 undef = .int .u8 (num q.pt) := hdep 10 (by kernel_rfl) _ 19 rfl rfl
    have e10 : a.tmps[19]?.getD undef = .int .u8 (num q.pt) := by rw [← Array.getD_eq_getD_getElem?]; exact d10
    clear hsz hold hdep
    have e : (bs [by8 (q.ctl * 16 + 1), by8 (num q.trk), by8 (num q.pt)]).toArray = #[.int .u8 (q.ctl * 16 + 1), .int .u8 (num q.trk), .int .u8 (num q.pt)] := by
      have n1 := num_lt HG.out.t
      have n2 := num_lt HG.out.p
      have b0 := HG.out.c0
      have b1 := HG.out.c1
      simp only [bs, B, List.map_cons, List.map_nil, by8_nat (show 0 ≤ q.ctl * 16 + 1 by omega) (show q.ctl * 16 + 1 < 256 by omega), by8_nat n1.1 n1.2, by8_nat n2.1 n2.2]
    have hN := Bx.new W 5 (bs [by8 (q.ctl * 16 + 1), by8 (num q.trk), by8 (num q.pt)])
    have hbN := (Below.refl W.heap.size W).alloc (Nat.le_refl _) (.cells (bs [by8 (q.ctl * 16 + 1), by8 (num q.trk), by8 (num q.pt)]).toArray 5)
    refine stepNew hbN ⟨W.heap.size, rfl, hN⟩ fun K hK => ?_
    rw [e] at hK
    clear e hN hbN
    go_simp
    exact hK
  · intro a W hc hsz hold hdep
    obtain ⟨g, d11, hN⟩ : ∃ g, a.tmps.getD 20 undef = .slice (some ⟨g, 0, none⟩) 3 3 ∧ Bx W g 5 (bs [by8 (q.ctl * 16 + 1), by8 (num q.trk), by8 (num q.pt)]) := hdep 11 (by kernel_rfl) _ 20 rfl rfl
    clear hsz hold hdep
    have hst := run_str (dst := 9) Tryz.underlying123 Tryz.underlying5 Tryz.underlying9 (Rd.ofBx hN (by simp))
    replace hst : (convert 123 9 (.slice (some ⟨g, 0, none⟩) 3 3)).run Tryz.prog W = _ := hst
    clear hN
    refine stepVal (v := .string (str [by8 (q.ctl * 16 + 1), by8 (num q.trk), by8 (num q.pt)])) rfl fun K hK => ?_
    go_simp
    exact hK
  · intro a W hc hsz hold hdep
    have o4 : a.tmps.getD 4 undef = .func (.func 47) #[] #[] := hold 4 (by kernel_rfl)
    clear hsz hold hdep
    refine stepVal (v := .func (.func 47) #[] #[]) rfl fun K hK => ?_
    go_simp
    exact hK
  · intro a W hc hsz hold hdep
    have o1 : a.tmps.getD 1 undef = .pointer (some ⟨gB, 0, none⟩) := hold 1 (by kernel_rfl)
    clear hsz hold hdep
    refine stepVal (v := .pointer (some ⟨gB, 3, none⟩)) rfl fun K hK => ?_
    go_simp
    exact hK
  · intro a W hc hsz hold hdep
    have d14 : a.tmps.getD 23 undef = .pointer (some ⟨gB, 3, none⟩) := hdep 14 (by kernel_rfl) _ 23 rfl rfl
    have c3 := hc.1.cell (i := 3) rfl
    have c4 := hc.1.cell (i := 4) rfl
    have c5 := hc.1.cell (i := 5) rfl
    clear hsz hold hdep
    refine stepVal (v := msfv q.rm q.rs q.rf) rfl fun K hK => ?_
    go_simp
    exact hK
  · intro a W hc hsz hold hdep
    have d13 : a.tmps.getD 22 undef = .func (.func 47) #[] #[] := hdep 13 (by kernel_rfl) _ 22 rfl rfl
    have d15 : a.tmps.getD 24 undef = msfv q.rm q.rs q.rf := hdep 15 (by kernel_rfl) _ 24 rfl rfl
    clear hsz hold hdep
    refine stepCall (v := .string (str (adr q.rm q.rs q.rf))) (fun _ => rfl) fun K hK => ?_
    go_simp
    refine (msfs_any _ _ _ _ HG.out.r).mono ?_
    rintro e w' ⟨rfl, hb'⟩
    exact hK _ hb'
  · intro a W hc hsz hold hdep
    have d12 : a.tmps.getD 21 undef = .string (str [by8 (q.ctl * 16 + 1), by8 (num q.trk), by8 (num q.pt)]) := hdep 12 (by kernel_rfl) _ 21 rfl rfl
    have d16 : a.tmps.getD 25 undef = .string (str (adr q.rm q.rs q.rf)) := hdep 16 (by kernel_rfl) _ 25 rfl rfl
    have ap := str_app ([by8 (q.ctl * 16 + 1), by8 (num q.trk), by8 (num q.pt)]) (adr q.rm q.rs q.rf)
    clear hsz hold hdep
    refine stepVal (v := .string (str ([by8 (q.ctl * 16 + 1), by8 (num q.trk), by8 (num q.pt)] ++ adr q.rm q.rs q.rf))) rfl fun K hK => ?_
    go_simp
    exact hK
  · intro a W hc hsz hold hdep
    have d17 : a.tmps.getD 26 undef = .string (str ([by8 (q.ctl * 16 + 1), by8 (num q.trk), by8 (num q.pt)] ++ adr q.rm q.rs q.rf)) := hdep 17 (by kernel_rfl) _ 26 rfl rfl
    have ap : str ([by8 (q.ctl * 16 + 1), by8 (num q.trk), by8 (num q.pt)] ++ adr q.rm q.rs q.rf) ++ ⟨#[0]⟩ = str ([by8 (q.ctl * 16 + 1), by8 (num q.trk), by8 (num q.pt)] ++ adr q.rm q.rs q.rf ++ [0]) := str_app ([by8 (q.ctl * 16 + 1), by8 (num q.trk), by8 (num q.pt)] ++ adr q.rm q.rs q.rf) [0]
    clear hsz hold hdep
    refine stepVal (v := .string (str ([by8 (q.ctl * 16 + 1), by8 (num q.trk), by8 (num q.pt)] ++ adr q.rm q.rs q.rf ++ [0]))) rfl fun K hK => ?_
    go_simp
    exact hK
  · intro a W hc hsz hold hdep
    have o4 : a.tmps.getD 4 undef = .func (.func 47) #[] #[] := hold 4 (by kernel_rfl)
    clear hsz hold hdep
    refine stepVal (v := .func (.func 47) #[] #[]) rfl fun K hK => ?_
    go_simp
    exact hK
  · intro a W hc hsz hold hdep
    have o1 : a.tmps.getD 1 undef = .pointer (some ⟨gB, 0, none⟩) := hold 1 (by kernel_rfl)
    clear hsz hold hdep
    refine stepVal (v := .pointer (some ⟨gB, 6, none⟩)) rfl fun K hK => ?_
    go_simp
    exact hK
  · intro a W hc hsz hold hdep
    have d20 : a.tmps.getD 29 undef = .pointer (some ⟨gB, 6, none⟩) := hdep 20 (by kernel_rfl) _ 29 rfl rfl
    have c6 := hc.1.cell (i := 6) rfl
    have c7 := hc.1.cell (i := 7) rfl
    have c8 := hc.1.cell (i := 8) rfl
    clear hsz hold hdep
    refine stepVal (v := msfv q.am q.as q.af) rfl fun K hK => ?_
    go_simp
    exact hK
  · intro a W hc hsz hold hdep
    have d19 : a.tmps.getD 28 undef = .func (.func 47) #[] #[] := hdep 19 (by kernel_rfl) _ 28 rfl rfl
    have d21 : a.tmps.getD 30 undef = msfv q.am q.as q.af := hdep 21 (by kernel_rfl) _ 30 rfl rfl
    clear hsz hold hdep
    refine stepCall (v := .string (str (adr q.am q.as q.af))) (fun _ => rfl) fun K hK => ?_
    go_simp
    refine (msfs_any _ _ _ _ HG.out.a).mono ?_
    rintro e w' ⟨rfl, hb'⟩
    exact hK _ hb'
  · intro a W hc hsz hold hdep
    have d18 : a.tmps.getD 27 undef = .string (str ([by8 (q.ctl * 16 + 1), by8 (num q.trk), by8 (num q.pt)] ++ adr q.rm q.rs q.rf ++ [0])) := hdep 18 (by kernel_rfl) _ 27 rfl rfl
    have d22 : a.tmps.getD 31 undef = .string (str (adr q.am q.as q.af)) := hdep 22 (by kernel_rfl) _ 31 rfl rfl
    have ap := str_app ([by8 (q.ctl * 16 + 1), by8 (num q.trk), by8 (num q.pt)] ++ adr q.rm q.rs q.rf ++ [0]) (adr q.am q.as q.af)
    clear hsz hold hdep
    refine stepVal (v := .string (str ([by8 (q.ctl * 16 + 1), by8 (num q.trk), by8 (num q.pt)] ++ adr q.rm q.rs q.rf ++ [0] ++ adr q.am q.as q.af))) rfl fun K hK => ?_
    go_simp
    exact hK
  · intro a W hc hsz hold hdep
    have d23 : a.tmps.getD 32 undef = .string (str ([by8 (q.ctl * 16 + 1), by8 (num q.trk), by8 (num q.pt)] ++ adr q.rm q.rs q.rf ++ [0] ++ adr q.am q.as q.af)) := hdep 23 (by kernel_rfl) _ 32 rfl rfl
    clear hsz hold hdep
    refine stepVal (v := .string (str ([by8 (q.ctl * 16 + 1), by8 (num q.trk), by8 (num q.pt)] ++ adr q.rm q.rs q.rf ++ [0] ++ adr q.am q.as q.af))) rfl fun K hK => ?_
    go_simp
    exact hK
  · intro a W hC hd hsz hold hval
    have d24 : a.tmps.getD 5 undef = .string (str (bodyL q)) := hval 24 _ 5 rfl rfl
    have o1 : a.tmps.getD 1 undef = .pointer (some ⟨gB, 0, none⟩) := hold 1 (by kernel_rfl)
    have hle2 := hC.2
    clear hC hold hval
    obtain ⟨tm, df⟩ := a
    replace hd : df = [] := hd
    replace hsz : tm.size = 37 := hsz
    replace d24 : tm.getD 5 undef = .string (str (bodyL q)) := d24
    subst hd
    have e : tm = #[tm.getD 0 undef, tm.getD 1 undef, tm.getD 2 undef, tm.getD 3 undef, tm.getD 4 undef, tm.getD 5 undef, tm.getD 6 undef, tm.getD 7 undef, tm.getD 8 undef, tm.getD 9 undef, tm.getD 10 undef, tm.getD 11 undef, tm.getD 12 undef, tm.getD 13 undef, tm.getD 14 undef, tm.getD 15 undef, tm.getD 16 undef, tm.getD 17 undef, tm.getD 18 undef, tm.getD 19 undef, tm.getD 20 undef, tm.getD 21 undef, tm.getD 22 undef, tm.getD 23 undef, tm.getD 24 undef, tm.getD 25 undef, tm.getD 26 undef, tm.getD 27 undef, tm.getD 28 undef, tm.getD 29 undef, tm.getD 30 undef, tm.getD 31 undef, tm.getD 32 undef, tm.getD 33 undef, tm.getD 34 undef, tm.getD 35 undef, tm.getD 36 undef] := arr_eq tm 37 hsz
    rw [d24] at e
    clear d24 hsz o1
    generalize tm.getD 0 undef = v0 at e
    generalize tm.getD 1 undef = v1 at e
    generalize tm.getD 2 undef = v2 at e
    generalize tm.getD 3 undef = v3 at e
    generalize tm.getD 4 undef = v4 at e
    generalize tm.getD 6 undef = v6 at e
    generalize tm.getD 7 undef = v7 at e
    generalize tm.getD 8 undef = v8 at e
    generalize tm.getD 9 undef = v9 at e
    generalize tm.getD 10 undef = v10 at e
    generalize tm.getD 11 undef = v11 at e
    generalize tm.getD 12 undef = v12 at e
    generalize tm.getD 13 undef = v13 at e
    generalize tm.getD 14 undef = v14 at e
    generalize tm.getD 15 undef = v15 at e
    generalize tm.getD 16 undef = v16 at e
    generalize tm.getD 17 undef = v17 at e
    generalize tm.getD 18 undef = v18 at e
    generalize tm.getD 19 undef = v19 at e
    generalize tm.getD 20 undef = v20 at e
    generalize tm.getD 21 undef = v21 at e
    generalize tm.getD 22 undef = v22 at e
    generalize tm.getD 23 undef = v23 at e
    generalize tm.getD 24 undef = v24 at e
    generalize tm.getD 25 undef = v25 at e
    generalize tm.getD 26 undef = v26 at e
    generalize tm.getD 27 undef = v27 at e
    generalize tm.getD 28 undef = v28 at e
    generalize tm.getD 29 undef = v29 at e
    generalize tm.getD 30 undef = v30 at e
    generalize tm.getD 31 undef = v31 at e
    generalize tm.getD 32 undef = v32 at e
    generalize tm.getD 33 undef = v33 at e
    generalize tm.getD 34 undef = v34 at e
    generalize tm.getD 35 undef = v35 at e
    generalize tm.getD 36 undef = v36 at e
    subst e
    have HCh := Lib.hid (check_any (str (bodyL q)) W (by rw [str_size, bodyL_length]; omega))
    have ap := str_app (bodyL q) (chk (bodyL q))
    have HAp : Hid (chk (str (bodyL q)).data.toList = chk (bodyL q)) := Lib.hid rfl
    rw [HAp.out] at HCh
    go_wp2_with fail
    refine HCh.out.mono ?_
    rintro e w5 ⟨rfl, hb5⟩
    go_wp2_with fail
    go_ret2
    exact ⟨rfl, hle2.trans (hb5.mono hle2.size)⟩
end Go.Proofs.YtflmjdjkfognjaaGreat.W10
