/- Chapter 9: Encode of the package walked. -/
import Derived.Test.YtkebnmmcogkldaaD3
import Derived.Test.YtkebnmmcogkldaaRsW
namespace Go.Proofs.Ytkebnmmcogkldaa.C9
open Go.RowKit W8
set_option linter.unusedVariables false

/-- strings as cells -/
def ssD (x : List UInt8) : List Value := [.string (str x)]
theorem ssD_len (x : List UInt8) : (ssD x).length = 1 := rfl
theorem ssD_one (x : List UInt8) : ∀ u ∈ ssD x, u.oneCell' = true := fun u hu => by
  simp only [ssD, List.mem_singleton] at hu
  subst hu
  rfl
def RdStr (w : World) (v : Value) (l : List (List UInt8)) : Prop := RdD [] ssD 1 w v l
theorem ss_append (l : List (List UInt8)) (x : List UInt8) : flD ssD (l ++ [x]) = flD ssD l ++ [.string (str x)] := by rw [flD_append, flD_single]; rfl
theorem Try.infoStr9 : (Try.prog.info? 9).map (fun i => (i.zero, i.size, i.bytes)) = some (some (.string ⟨#[]⟩), 1, 16) := by kernel_rfl
theorem Try.infoRow28 : (Try.prog.info? 72).map (fun i => (i.zero, i.size, i.bytes)) = some (some (.agg (bs (List.replicate 28 0)).toArray), 28, 28) := by kernel_rfl
def EncP (R : List (List UInt8) × Int) (w : World) (e : Ending) (w' : World) : Prop := ∃ v, e = .returned (.tuple #[v, .int .i64 R.2]) ∧ w'.ownsRow w.heap.size 9 1 v R.1.length (flD ssD R.1) ∧ Below w.heap.size w w'
theorem EncP.none (c : Int) {w : World} {e : Ending} {w' : World} (he : e = .returned (.tuple #[.slice none 0 0, .int .i64 c])) (hb : Below w.heap.size w w') : EncP ([], c) w e w' := ⟨_, he, ⟨rfl, .inl ⟨rfl, rfl⟩⟩, hb⟩
/-- 's[lo:hi]' of a string -/
theorem run_cut9 {P : Program} {t : TypeId} (ht : P.underlying t = some .string) (l : List UInt8) (lo hi : Nat) (h1 : lo ≤ hi) (h2 : hi ≤ l.length) (x y : Int) (hx : x = lo) (hy : y = hi) (w : World) :
    (Instr.slice t (.string (str l)) (some (.int .i64 x)) (some (.int .i64 y)) none).run P w = .ok (.string (str ((l.drop lo).take (hi - lo)))) w := by
  subst hx hy
  have e : (str l).extract lo hi = str ((l.drop lo).take (hi - lo)) := by
    apply ByteArray.ext
    rw [ByteArray.data_extract]
    simp [str]
  simp [Instr.slice, run_underlying ht, Instr.sliceBounds, run_sliceBound, str_size, h2, h1, e]
theorem made_same (z : Array Value) (c : Value) (hz : 0 < z.size) (h : ∀ i, i < z.size → z[i]! = c) (n : Nat) : (madeCells z n).toList = List.replicate n c := by
  apply List.ext_getElem
  · simp [madeCells]
  · intro i h1 h2
    simp only [madeCells, Array.toList_map, List.getElem_map, List.getElem_replicate]
    exact h _ (Nat.mod_lt _ hz)
theorem made_rep (m : Nat) (hm : 0 < m) (n : Nat) : (madeCells (bs (List.replicate m 0)).toArray n).toList = List.replicate n (B 0) :=
  made_same (bs (List.replicate m 0)).toArray (B 0) (by simpa [bs] using hm) (fun i hi => by
    have hi' : i < m := by simpa [bs] using hi
    simp [bs, hi']) _
/-- 'make([][28]byte, n)' -/
theorem wpList_mkRows {P : Program} {w : World} {ops : Array Oper} {rest : List Oper} {o : Oper} {a : Act} {Q : Exit → Act → World → Prop}
    (hg : o.guard = none) (l c : Operand) {t : TypeId} (hop : o.op = Op.makeSlice t l c)
    {e : TypeId} (h1 : P.underlying t = some (.slice e)) (h2 : (P.info? e).map (fun i => (i.zero, i.size, i.bytes)) = some (some (.agg (bs (List.replicate 28 0)).toArray), 28, 28))
    {L C : Int} (n : Nat) (hl : a.eval l = .int .i64 L) (hc : a.eval c = .int .i64 C) (hL : L = (n : Int)) (hC : C = (n : Int)) (b3 : n ≤ 1000000)
    (hK : ∀ w', Bx w' w.heap.size e (bs (List.replicate (n * 28) 0)) → Below w.heap.size w w' → wpList P ops Q rest (a.put o.dst (.slice (some ⟨w.heap.size, 0, none⟩) n n)) w') :
    wpList P ops Q (o :: rest) a w := by
  obtain ⟨i0, hi, hz0, hz1, hz2⟩ := info_parts h2
  refine wpList_make_full w hg l c t hop w.heap.size e i0 _ 28 h1 hi hz0 hz1 .i64 .i64 L C n hl hc hL hC (by rw [hz2]; omega) (by unfold maxLen; omega) (Nat.le_refl _) fun w' h3 h4 => hK w' ?_ ((Below.refl _ _).grown h4 (Nat.le_refl _) (fun k hk => by cases hk))
  have e1 : (madeCells (Value.agg (bs (List.replicate 28 0)).toArray).cells (n * 28)).toList = bs (List.replicate (n * 28) 0) := by
    rw [bs_replicate (n * 28)]
    exact made_rep 28 (by omega) _
  rw [e1] at h3
  exact Bx.ofOwn h3
set_option maxRecDepth 100000 in
set_option maxHeartbeats 1000000 in
theorem pencode_arg (d : List UInt8) (w : World) (hl : d.length ≤ 9223372036854775807) (h : d.length = 0 ∨ d.length % 24 ≠ 0) : Calls Try.prog 14 #[.string (str d)] w (EncP ([], 1) w) := by
  have hs := str_size d
  generalize d.length = n at *
  by_cases h0 : n / 24 = 0
  · have hq : (((n : Int) / 24) == 0) = true := by rw [beq_iff_eq]; omega
    clear h h0
    go_enter Try.func14, Try.ntmps14
    go_wp2_with fail
    go_ret2
    exact EncP.none 1 rfl (Below.refl _ _)
  · have hq : (((n : Int) / 24) == 0) = false := by rw [beq_eq_false_iff_ne]; omega
    have hm : (((n : Int) % 24) != 0) = true := by rw [bne_iff_ne]; omega
    clear h h0
    go_enter Try.func14, Try.ntmps14
    go_wp2_with fail
    go_ret2
    exact EncP.none 1 rfl (Below.refl _ _)
set_option maxRecDepth 100000 in
set_option maxHeartbeats 1000000 in
theorem pencode_big (d : List UInt8) (n : Nat) (w : World) (hl : d.length ≤ 9223372036854775807) (hd : d.length = 24 * n) (h : 784 < n) : Calls Try.prog 14 #[.string (str d)] w (EncP ([], 7) w) := by
  have hs := str_size d
  rw [hd] at hs hl
  have hq : (((n : Int)) == 0) = false := by rw [beq_eq_false_iff_ne]; omega
  clear hd
  go_enter Try.func14, Try.ntmps14
  go_wp2_with fail
  go_ret2
  exact EncP.none 7 rfl (Below.refl _ _)
/-- what Encode keeps in memory -/
structure EnW (w0 : World) (N gr gb : Nat) (R : List UInt8) (W : World) : Prop where
  r : Bx W gr 72 (bs R)
  b : Bx W gb 69 [.slice (some ⟨gr, 0, none⟩) N N]
  le : Below w0.heap.size w0 W
  g1 : w0.heap.size ≤ gr
  g2 : gr < gb
theorem EnW.keep {w0 W W' : World} {N gr gb : Nat} {R : List UInt8} (h : EnW w0 N gr gb R W) (hb : Below (gb + 1) W W') : EnW w0 N gr gb R W' :=
  have h1 := h.g1
  have h2 := h.g2
  ⟨h.r.keepB hb (by omega), h.b.keepB hb (by omega), h.le.trans (hb.mono (by omega)), h1, h2⟩
theorem EnW.size {w0 W : World} {N gr gb : Nat} {R : List UInt8} (h : EnW w0 N gr gb R W) : gb + 1 ≤ W.heap.size := h.b.lt
theorem EnW.call {w0 W W' : World} {N gr gb : Nat} {R : List UInt8} (h : EnW w0 N gr gb R W) (hb : Below W.heap.size W W') : EnW w0 N gr gb R W' := h.keep (hb.mono h.size)
theorem EnW.enc {w0 W W' : World} {N gr gb : Nat} {R R' : List UInt8} {e : Ending} (h : EnW w0 N gr gb R W) (hs : EncS gr R' W e W') : EnW w0 N gr gb R' W' := by
  obtain ⟨_, h1, h2, h3⟩ := hs
  have g1 := h.g1
  have g2 := h.g2
  exact ⟨h1, (h3 gb h.b.lt (by omega)).trans h.b, h.le.trans (h2.mono g1), g1, g2⟩
/-- the row 'g' reads as its bytes -/
theorem row_rd {W : World} {N gr g : Nat} {d : List UInt8} {n : Nat} (h : Bx W gr 72 (bs (fl28 N (symX d n 0)))) (hg : g < N) : Rd W (.slice (some ⟨gr, g * 28, none⟩) 28 28) (rowK d n g 28) := by
  have hl := rowK_length d n g 28
  refine ⟨by omega, some ⟨gr, g * 28, none⟩, 28, gr, g * 28, by rw [hl], by omega, fun i hi => ⟨rfl, ?_⟩⟩
  rw [hl] at hi
  have h2 : G.ix (fl28 N (symX d n 0)) (g * 28 + i) = G.ix (rowK d n g 28) i := by
    rw [ix_rowK _ _ _ _ _ hi, ← symX_all]
    have := fl28_get (N := N) (symX d n 0) hg hi
    unfold G.ix
    rw [List.getD_eq_getElem?_getD, this]
    rfl
  rw [← h2]
  exact h.cell (bs_get (by rw [fl28_length]; omega))
set_option maxRecDepth 100000 in
set_option maxHeartbeats 4000000 in
theorem pencode_ok (d : List UInt8) (n : Nat) (w : World) (hd : d.length = 24 * n) (h1 : 1 ≤ n) (h2 : n ≤ 784) : Calls Try.prog 14 #[.string (str d)] w (EncP (frms d n (n + 108), 0) w) := by
  have hs := str_size d
  rw [hd] at hs
  have hq : (((n : Int)) == 0) = false := by rw [beq_eq_false_iff_ne]; omega
  have HF := Lib.hid (fun W => (frames_any n W).mono (fun e w' (h : e = _ ∧ W = w') => (by rw [frN_ok h1 (by omega)] at h; exact h : e = .returned (.int .i64 ((n + 108 : Nat) : Int)) ∧ W = w')))
  have HD := Lib.hid hd
  obtain ⟨N, hN⟩ : ∃ N, N = n + 108 := ⟨_, rfl⟩
  rw [← hN] at HF ⊢
  have hN1 : n + 108 ≤ N := by omega
  have hN2 : N ≤ n + 108 := by omega
  have HN := Lib.hid hN
  clear hd hN
  go_enter Try.func14, Try.ntmps14
  go_wp2_with fail
  refine (HF.out _).mono ?_
  rintro e w' ⟨rfl, rfl⟩
  go_wp2_with (refine wpList_mkRows rfl _ _ rfl Try.underlying69 Try.infoRow28 N rfl rfl rfl rfl (by omega) ?_; intro w2 hbx2 hb2; have hsz2 := hbx2.lt)
  have hen : EnW w N w.heap.size w2.heap.size (fl28 N (symX d 0 0)) (w2.alloc (.cells #[.slice (some ⟨w.heap.size, 0, none⟩) N N] 69)) := by
    rw [fl28_zero N _ (symX_zero d)]
    exact ⟨hbx2.alloc _, Bx.new _ _ _, hb2.alloc hb2.size _, Nat.le_refl _, hsz2⟩
  obtain ⟨gb, hgb⟩ : ∃ gb, gb = w2.heap.size := ⟨_, rfl⟩
  obtain ⟨gr, hgr⟩ : ∃ gr, gr = w.heap.size := ⟨_, rfl⟩
  generalize hw3 : w2.alloc (.cells #[.slice (some ⟨w.heap.size, 0, none⟩) N N] 69) = w3 at hen ⊢
  simp only [← hgb] at hen ⊢
  simp only [← hgr] at hen ⊢
  have hgb1 : gr < gb := hen.g2
  have hgr1 := hen.g1
  clear hbx2 hb2 hsz2 hgb hgr hw3 hq
  go_loopw [32] (fun vf wr => ∃ f : Nat, f ≤ n ∧ vf = .int .i64 f ∧ EnW w N gr gb (fl28 N (symX d f 0)) wr) (fun vf _ => n - (intOf vf).toNat)
  case atStart => exact ⟨0, by omega, rfl, hen⟩
  case round =>
    clear hen
    obtain ⟨f, hf, rfl, hen⟩ := hrel
    obtain ⟨wo, rfl⟩ : ∃ wo : World, wo = wr := ⟨_, rfl⟩
    by_cases hlt : f < n
    · have hlt' : (f : Int) < (n : Int) := by omega
      have hcut := fun W => run_cut9 (P := Try.prog) Try.underlying9 d (24 * f) (24 * (f + 1)) (by omega) (by rw [HD.out]; omega) (24 * (f : Int)) (24 * ((f : Int) + 1)) (by omega) (by omega) W
      have hdl := dat_length HD.out hlt
      have e24 : 24 * (f + 1) - 24 * f = 24 := by omega
      rw [e24] at hcut
      simp only [show (d.drop (24 * f)).take 24 = dat d f from rfl] at hcut
      have HE := Lib.hid (fun W => encode_ok (dat d f) 4 W (by intro e; rw [e] at hdl; simp at hdl) (by omega) (by omega) (by omega))
      have HNX := Lib.hid (symX_next d N f)
      have hsz := hen.size
      have HEN := Lib.hid hen
      clear hdl e24 hen
      go_wp2_with fail
      refine (HE.out _).mono ?_
      rintro e w4 ⟨rfl, hb4⟩
      have hen4 := HEN.out.call hb4
      have hen5 := hen4.call ((Below.refl w4.heap.size w4).alloc (Nat.le_refl _) (.cells #[.string (str (wrd d f))] 9))
      have hwb := Bx.new w4 9 [.string (str (wrd d f))]
      have hs4 := hen4.size
      have HCO := Lib.hid (collect_enc d f n N w4.heap.size gb gr (w4.alloc (.cells #[.string (str (wrd d f))] 9)) HD.out hlt h2 HN.out (by omega) (by omega) (hwb.cell (i := 0) rfl) (hen5.b.cell (i := 0) rfl) hen5.r)
      have HEN5 := Lib.hid hen5
      clear hcut HE hb4 hen4 hen5 hwb
      go_wp2_with fail
      refine HCO.out.mono ?_
      intro e w6 hco
      have hen6 := HEN5.out.enc hco
      obtain ⟨rfl, _⟩ := hco
      rw [HNX.out] at hen6
      go_wp2_with fail
      go_roundw
      case rel => exact ⟨f + 1, by omega, by go_num, hen6⟩
      case measure => simp [intOf]; omega
    · obtain rfl : f = n := by omega
      have hcb := hen.b.cell (i := 0) rfl
      go_wp2_with fail
      go_loopw [9, 52] (fun vo vg wr => ∃ g : Nat, g ≤ N ∧ vg = .int .i64 g ∧ wr.ownsRow (gb + 1) 9 1 vo (frms d f g).length (flD ssD (frms d f g)) ∧ EnW w N gr gb (fl28 N (symX d f 0)) wr) (fun _ vg _ => N - (intOf vg).toNat)
      case atStart => exact ⟨0, by omega, rfl, ⟨rfl, .inl ⟨rfl, rfl⟩⟩, hen⟩
      case round =>
        clear hen hcb
        obtain ⟨g, hg, rfl, ho, hen⟩ := hrel
        obtain ⟨wq, rfl⟩ : ∃ wq : World, wq = wr := ⟨_, rfl⟩
        have hsz := hen.size
        by_cases hgt : g < N
        · have hgt' : (g : Int) < (N : Int) := by omega
          have HL := Lib.hid (frms_succ d f g)
          have hll := frms_length d f g
          obtain ⟨L, hL⟩ : ∃ L, L = frms d f g := ⟨_, rfl⟩
          rw [← hL] at HL ho hll
          clear hL
          have hcb := hen.b.cell (i := 0) rfl
          have hix := fun w' => run_idxS Try.underlying69 Try.sizeRow28 (a := some ⟨gr, 0, none⟩) (cap := N) rfl hgt (g : Int) rfl w'
          simp only [Nat.zero_add] at hix
          have hrd := row_rd hen.r hgt
          have hconv := run_str (P := Try.prog) Try.underlying59 Try.underlying5 Try.underlying9 hrd
          have HE := Lib.hid (fun W => encode_ok (rowK d f g 28) 4 W (by intro e; have := rowK_length d f g 28; rw [e] at this; simp at this) (by omega) (by omega) (by have := rowK_length d f g 28; omega))
          have HEN := Lib.hid hen
          have HO := Lib.hid ho
          clear hen ho hrd
          go_wp2_with fail
          refine (HE.out _).mono ?_
          rintro e w7 ⟨rfl, hb7⟩
          change Hid (frms d f (g + 1) = L ++ [G.enc (rowK d f g 28) 4]) at HL
          generalize G.enc (rowK d f g 28) 4 = x at HL ⊢
          have hA := hb7.alloc hb7.size (.cells #[.string (str x)] 9)
          have hoa := ownD_keep HO.out hA
          have hbas := hA.size
          have HA := Lib.hid hA
          clear hconv hix hb7 hA hcb
          go_wp2_with (at_builtin; refine wpList_ap1 rfl _ _ rfl Try.underlying36 Try.infoStr9 rfl hoa rfl (g := w7.heap.size) (y := .string (str x)) rfl (by simp) rfl (by unfold maxLen; omega) (by omega) (by omega) ?_; intro v8 w8 hown8 hgr8 hno8)
          have hb8 := (Below.refl (gb + 1) (w7.alloc (.cells #[.string (str x)] 9))).grown hgr8 (by omega) (fun q hq => by have := ownD_block hoa q hq; omega)
          have hen8 := (HEN.out.call HA.out).keep hb8
          clear hoa hgr8 hno8 hb8
          go_roundw
          case rel => exact ⟨g + 1, by omega, by go_num, by rw [HL.out, ss_append, List.length_append]; exact hown8, hen8⟩
          case measure => simp [intOf]; omega
        · obtain rfl : g = N := by omega
          have HLE := Lib.hid hen.le
          have HO := Lib.hid ho
          obtain ⟨ao, co, rfl⟩ := ownD_form ho
          clear ho hen
          go_wp2_with fail
          go_ret2
          exact ⟨_, rfl, own_mono HO.out (by omega), HLE.out⟩
end Go.Proofs.Ytkebnmmcogkldaa.C9
